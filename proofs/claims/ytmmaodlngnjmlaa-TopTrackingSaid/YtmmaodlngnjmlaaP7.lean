-- Written by this session's own program, for this seat. Lean checks it.
import Derived.Test.YtmmaodlngnjmlaaP0
import Derived.Test.YtmmaodlngnjmlaaP2
import Derived.Test.YtmmaodlngnjmlaaP3
import Derived.Test.YtmmaodlngnjmlaaP4
import Derived.Test.YtmmaodlngnjmlaaP6
namespace Go.Proofs.Ytmmaodlngnjmlaa.P
open Go.RowKit Go.Proofs.YtmmaodlngnjmlaaW.PrintWords Go.Proofs.YtmmaodlngnjmlaaW.PrintLast Go.Proofs.YtmmaodlngnjmlaaW.PrintMore
attribute [local go_sem] max2_int min2_int max_two min_two max_three min_three max_four min_four   -- for this text's walks alone
set_option linter.unusedVariables false
set_option linter.unusedSimpArgs false

/-! ### ambidextertop_TopTracking: function 4 -/
mutual
def ambidextertop_TopTracking.j0 : Nat → Int → List Int → Bool → Int → List (S33) → Bool → Int → Int → Int → Option (Bool)
 | 0, _, _, _, _, _, _, _, _, _ => none
 | k + 1, x4, x5, x13, x15, x18, x65, x271000, x271001, x271002 => if x65 = true then (some false) else ((encoder_Quantize.f (Int.tmod (wrap64 (x4)) 16)).bind fun t282 => ((servo_New.f (Int.tmod (wrap64 (x4)) 16)).bind fun bt283 => (ambidextertop_TopTracking.l0 k x5 x13 x15 x18 (Int.tmod (wrap64 (x4)) 16) t282 0 0 x271000 x271001 x271002 bt283.1 bt283.2.1 bt283.2.2.1 bt283.2.2.2.1 bt283.2.2.2.2)))
def ambidextertop_TopTracking.l0 : Nat → List Int → Bool → Int → List (S33) → Int → Int → Int → Int → Int → Int → Int → Int → Int → Int → Int → Bool → Option (Bool)
 | 0, _, _, _, _, _, _, _, _, _, _, _, _, _, _, _, _ => none
 | k + 1, x5, x13, x15, x18, x19, x20, x22, x23, x271000, x271001, x271002, x289000, x289001, x289002, x289003, x289004 => if x23 < (x18.length : Int) then ((encoder_Quantize.f x19).bind fun t290 => (if x23 < (x5.length : Int) then (if 0 ≤ x23 then (if (Int.tmod (rd x5 x23) 3) > 0 then (ambidextertop_TopTracking.j2 k x5 x13 x15 x18 x19 x20 x22 x23 1 t290 (decide (x22 < 6)) x271000 x271001 x271002 x289000 x289001 x289002 x289003 x289004) else (ambidextertop_TopTracking.j2 k x5 x13 x15 x18 x19 x20 x22 x23 1 t290 false x271000 x271001 x271002 x289000 x289001 x289002 x289003 x289004)) else (none)) else (ambidextertop_TopTracking.j2 k x5 x13 x15 x18 x19 x20 x22 x23 1 t290 false x271000 x271001 x271002 x289000 x289001 x289002 x289003 x289004))) else (if x13 = true then ((encoder_Quantize.f x19).bind fun t289 => (some (t289 == x15))) else (some false))
def ambidextertop_TopTracking.j2 : Nat → List Int → Bool → Int → List (S33) → Int → Int → Int → Int → Int → Int → Bool → Int → Int → Int → Int → Int → Int → Int → Bool → Option (Bool)
 | 0, _, _, _, _, _, _, _, _, _, _, _, _, _, _, _, _, _, _, _ => none
 | k + 1, x5, x13, x15, x18, x19, x20, x22, x23, x24, x25, x96, x271000, x271001, x271002, x289000, x289001, x289002, x289003, x289004 => if x96 = true then (if 0 ≤ x23 then (if x23 < (x5.length : Int) then (ambidextertop_TopTracking.j3 k x5 x13 x15 x18 x19 x20 x22 x23 (wrap64 (1 + (Int.tmod (wrap64 (rd x5 x23)) 3))) x20 x271000 x271001 x271002 x289000 x289001 x289002 x289003 x289004) else (none)) else (none)) else (ambidextertop_TopTracking.j3 k x5 x13 x15 x18 x19 x20 x22 x23 x24 x25 x271000 x271001 x271002 x289000 x289001 x289002 x289003 x289004)
def ambidextertop_TopTracking.j3 : Nat → List Int → Bool → Int → List (S33) → Int → Int → Int → Int → Int → Int → Int → Int → Int → Int → Int → Int → Int → Bool → Option (Bool)
 | 0, _, _, _, _, _, _, _, _, _, _, _, _, _, _, _, _, _, _ => none
 | k + 1, x5, x13, x15, x18, x19, x20, x22, x23, x24, x25, x271000, x271001, x271002, x289000, x289001, x289002, x289003, x289004 => if x24 = 1 then (ambidextertop_TopTracking.j4 k x5 x13 x15 x18 x19 x25 0 x23 x24 x25 x271000 x271001 x271002 x289000 x289001 x289002 x289003 x289004) else (ambidextertop_TopTracking.j4 k x5 x13 x15 x18 x19 x20 (wrap64 (x22 + 1)) x23 x24 x25 x271000 x271001 x271002 x289000 x289001 x289002 x289003 x289004)
def ambidextertop_TopTracking.j4 : Nat → List Int → Bool → Int → List (S33) → Int → Int → Int → Int → Int → Int → Int → Int → Int → Int → Int → Int → Int → Bool → Option (Bool)
 | 0, _, _, _, _, _, _, _, _, _, _, _, _, _, _, _, _, _, _ => none
 | k + 1, x5, x13, x15, x18, x19, x20, x22, x23, x24, x25, x271000, x271001, x271002, x289000, x289001, x289002, x289003, x289004 => if 0 ≤ x23 then (if x23 < (x18.length : Int) then ((servo_Step.f x289000 x289001 x289002 x289003 x289004 x24 x25 ((rd_T33 x18 x23).f0)).bind fun bt294 => (if bt294.2.2.2.2.1 = true then (ambidextertop_TopTracking.j5 k x5 x13 x15 x18 x19 x20 x22 x23 bt294.2.2.2.2.2 true x271000 x271001 x271002 bt294.1 bt294.2.1 bt294.2.2.1 bt294.2.2.2.1 bt294.2.2.2.2.1) else (if bt294.2.2.2.2.2 > (wrap64 (16 * x271000)) then (ambidextertop_TopTracking.j5 k x5 x13 x15 x18 x19 x20 x22 x23 bt294.2.2.2.2.2 true x271000 x271001 x271002 bt294.1 bt294.2.1 bt294.2.2.1 bt294.2.2.2.1 bt294.2.2.2.2.1) else (ambidextertop_TopTracking.j5 k x5 x13 x15 x18 x19 x20 x22 x23 bt294.2.2.2.2.2 (decide (bt294.2.2.2.2.2 < (wrap64 ((-16) * x271000)))) x271000 x271001 x271002 bt294.1 bt294.2.1 bt294.2.2.1 bt294.2.2.2.1 bt294.2.2.2.2.1)))) else (none)) else (none)
def ambidextertop_TopTracking.j5 : Nat → List Int → Bool → Int → List (S33) → Int → Int → Int → Int → Int → Bool → Int → Int → Int → Int → Int → Int → Int → Bool → Option (Bool)
 | 0, _, _, _, _, _, _, _, _, _, _, _, _, _, _, _, _, _, _ => none
 | k + 1, x5, x13, x15, x18, x19, x20, x22, x23, x27, x137, x271000, x271001, x271002, x301000, x301001, x301002, x301003, x301004 => if x137 = true then (some false) else ((encoder_Quantize.f (wrap64 (x19 + x27))).bind fun t301 => (if 0 ≤ x23 then (if x23 < (x18.length : Int) then (if t301 = ((rd_T33 x18 x23).f0) then (ambidextertop_TopTracking.l0 k x5 x13 x15 x18 (wrap64 (x19 + x27)) x20 x22 (wrap64 (x23 + 1)) x271000 x271001 x271002 x301000 x301001 x301002 x301003 x301004) else (some false)) else (none)) else (none)))
end
def ambidextertop_TopTracking.f (k : Nat) (a0 : Int) (a1 : Int) (a2 : Int) (a3 : Int) (a4 : Int) (l5 : List Int) : Option (Bool) := (ambidextertop_head25.f k).bind fun t266 => ((ambidextertop_limR14.f a0 a1 a2).bind fun bt267 => ((mintime_Profile.f k bt267.1 bt267.2.1 bt267.2.2 (Int.tmod (wrap64 (a3)) 421)).bind fun bt271 => (if bt271.2 = true then ((profile_Simulate.f 0 0 0 bt271.1).bind fun t275 => (if (t275.length : Int) = (bt271.1.length : Int) then ((ambidexterref21_Plays.f k 0 0 0 bt271.1).bind fun t278 => ((ambidexterref21_Same.f k t275 t278).bind fun t281 => (ambidextertop_TopTracking.j0 k a4 l5 t266 (Int.tmod (wrap64 (a3)) 421) t275 (!t281) bt267.1 bt267.2.1 bt267.2.2))) else (ambidextertop_TopTracking.j0 k a4 l5 t266 (Int.tmod (wrap64 (a3)) 421) t275 true bt267.1 bt267.2.1 bt267.2.2))) else (if t266 = true then (some ((bt271.1.length : Int) == 0)) else (some false)))))
theorem ambidextertop_TopTracking.mono_l : ∀ k, (∀ y0 y1 y2 y3 y4 y5 y6 y7 y8, LeO (ambidextertop_TopTracking.j0 k y0 y1 y2 y3 y4 y5 y6 y7 y8) (ambidextertop_TopTracking.j0 (k + 1) y0 y1 y2 y3 y4 y5 y6 y7 y8)) ∧ (∀ y0 y1 y2 y3 y4 y5 y6 y7 y8 y9 y10 y11 y12 y13 y14 y15, LeO (ambidextertop_TopTracking.l0 k y0 y1 y2 y3 y4 y5 y6 y7 y8 y9 y10 y11 y12 y13 y14 y15) (ambidextertop_TopTracking.l0 (k + 1) y0 y1 y2 y3 y4 y5 y6 y7 y8 y9 y10 y11 y12 y13 y14 y15)) ∧ (∀ y0 y1 y2 y3 y4 y5 y6 y7 y8 y9 y10 y11 y12 y13 y14 y15 y16 y17 y18, LeO (ambidextertop_TopTracking.j2 k y0 y1 y2 y3 y4 y5 y6 y7 y8 y9 y10 y11 y12 y13 y14 y15 y16 y17 y18) (ambidextertop_TopTracking.j2 (k + 1) y0 y1 y2 y3 y4 y5 y6 y7 y8 y9 y10 y11 y12 y13 y14 y15 y16 y17 y18)) ∧ (∀ y0 y1 y2 y3 y4 y5 y6 y7 y8 y9 y10 y11 y12 y13 y14 y15 y16 y17, LeO (ambidextertop_TopTracking.j3 k y0 y1 y2 y3 y4 y5 y6 y7 y8 y9 y10 y11 y12 y13 y14 y15 y16 y17) (ambidextertop_TopTracking.j3 (k + 1) y0 y1 y2 y3 y4 y5 y6 y7 y8 y9 y10 y11 y12 y13 y14 y15 y16 y17)) ∧ (∀ y0 y1 y2 y3 y4 y5 y6 y7 y8 y9 y10 y11 y12 y13 y14 y15 y16 y17, LeO (ambidextertop_TopTracking.j4 k y0 y1 y2 y3 y4 y5 y6 y7 y8 y9 y10 y11 y12 y13 y14 y15 y16 y17) (ambidextertop_TopTracking.j4 (k + 1) y0 y1 y2 y3 y4 y5 y6 y7 y8 y9 y10 y11 y12 y13 y14 y15 y16 y17)) ∧ (∀ y0 y1 y2 y3 y4 y5 y6 y7 y8 y9 y10 y11 y12 y13 y14 y15 y16 y17, LeO (ambidextertop_TopTracking.j5 k y0 y1 y2 y3 y4 y5 y6 y7 y8 y9 y10 y11 y12 y13 y14 y15 y16 y17) (ambidextertop_TopTracking.j5 (k + 1) y0 y1 y2 y3 y4 y5 y6 y7 y8 y9 y10 y11 y12 y13 y14 y15 y16 y17))
 | 0 => ⟨fun _ _ _ _ _ _ _ _ _ r h => by simp [ambidextertop_TopTracking.j0] at h, fun _ _ _ _ _ _ _ _ _ _ _ _ _ _ _ _ r h => by simp [ambidextertop_TopTracking.l0] at h, fun _ _ _ _ _ _ _ _ _ _ _ _ _ _ _ _ _ _ _ r h => by simp [ambidextertop_TopTracking.j2] at h, fun _ _ _ _ _ _ _ _ _ _ _ _ _ _ _ _ _ _ r h => by simp [ambidextertop_TopTracking.j3] at h, fun _ _ _ _ _ _ _ _ _ _ _ _ _ _ _ _ _ _ r h => by simp [ambidextertop_TopTracking.j4] at h, fun _ _ _ _ _ _ _ _ _ _ _ _ _ _ _ _ _ _ r h => by simp [ambidextertop_TopTracking.j5] at h⟩
 | k + 1 => by
  obtain ⟨ih0, ih1, ih2, ih3, ih4, ih5⟩ := ambidextertop_TopTracking.mono_l k
  refine ⟨?_, ?_, ?_, ?_, ?_, ?_⟩
  ·
   intro y0 y1 y2 y3 y4 y5 y6 y7 y8
   unfold ambidextertop_TopTracking.j0
   repeat' first
   | (with_reducible exact ih0 _ _ _ _ _ _ _ _ _)
   | (with_reducible exact ih1 _ _ _ _ _ _ _ _ _ _ _ _ _ _ _ _)
   | (with_reducible exact ih2 _ _ _ _ _ _ _ _ _ _ _ _ _ _ _ _ _ _ _)
   | (with_reducible exact ih3 _ _ _ _ _ _ _ _ _ _ _ _ _ _ _ _ _ _)
   | (with_reducible exact ih4 _ _ _ _ _ _ _ _ _ _ _ _ _ _ _ _ _ _)
   | (with_reducible exact ih5 _ _ _ _ _ _ _ _ _ _ _ _ _ _ _ _ _ _)
   | (with_reducible exact ambidexterref21_Plays.mono _ _ _ _ _)
   | (with_reducible exact ambidexterref21_Same.mono _ _ _)
   | (with_reducible exact ambidextertop_head25.mono _)
   | (with_reducible exact mintime_Profile.mono _ _ _ _ _)
   | (with_reducible exact LeO.refl _)
   | (with_reducible exact LeO.none _)
   | (with_reducible refine LeO.ite ?_ ?_)
   | (with_reducible refine LeO.bind ?_ (fun _ => ?_))
   | exact ih0 _ _ _ _ _ _ _ _ _
   | exact ih1 _ _ _ _ _ _ _ _ _ _ _ _ _ _ _ _
   | exact ih2 _ _ _ _ _ _ _ _ _ _ _ _ _ _ _ _ _ _ _
   | exact ih3 _ _ _ _ _ _ _ _ _ _ _ _ _ _ _ _ _ _
   | exact ih4 _ _ _ _ _ _ _ _ _ _ _ _ _ _ _ _ _ _
   | exact ih5 _ _ _ _ _ _ _ _ _ _ _ _ _ _ _ _ _ _
   | exact ambidexterref21_Plays.mono _ _ _ _ _
   | exact ambidexterref21_Same.mono _ _ _
   | exact ambidextertop_head25.mono _
   | exact mintime_Profile.mono _ _ _ _ _
   | exact LeO.none _
   | refine LeO.ite ?_ ?_
   | refine LeO.bind ?_ (fun _ => ?_)
  ·
   intro y0 y1 y2 y3 y4 y5 y6 y7 y8 y9 y10 y11 y12 y13 y14 y15
   unfold ambidextertop_TopTracking.l0
   repeat' first
   | (with_reducible exact ih0 _ _ _ _ _ _ _ _ _)
   | (with_reducible exact ih1 _ _ _ _ _ _ _ _ _ _ _ _ _ _ _ _)
   | (with_reducible exact ih2 _ _ _ _ _ _ _ _ _ _ _ _ _ _ _ _ _ _ _)
   | (with_reducible exact ih3 _ _ _ _ _ _ _ _ _ _ _ _ _ _ _ _ _ _)
   | (with_reducible exact ih4 _ _ _ _ _ _ _ _ _ _ _ _ _ _ _ _ _ _)
   | (with_reducible exact ih5 _ _ _ _ _ _ _ _ _ _ _ _ _ _ _ _ _ _)
   | (with_reducible exact ambidexterref21_Plays.mono _ _ _ _ _)
   | (with_reducible exact ambidexterref21_Same.mono _ _ _)
   | (with_reducible exact ambidextertop_head25.mono _)
   | (with_reducible exact mintime_Profile.mono _ _ _ _ _)
   | (with_reducible exact LeO.refl _)
   | (with_reducible exact LeO.none _)
   | (with_reducible refine LeO.ite ?_ ?_)
   | (with_reducible refine LeO.bind ?_ (fun _ => ?_))
   | exact ih0 _ _ _ _ _ _ _ _ _
   | exact ih1 _ _ _ _ _ _ _ _ _ _ _ _ _ _ _ _
   | exact ih2 _ _ _ _ _ _ _ _ _ _ _ _ _ _ _ _ _ _ _
   | exact ih3 _ _ _ _ _ _ _ _ _ _ _ _ _ _ _ _ _ _
   | exact ih4 _ _ _ _ _ _ _ _ _ _ _ _ _ _ _ _ _ _
   | exact ih5 _ _ _ _ _ _ _ _ _ _ _ _ _ _ _ _ _ _
   | exact ambidexterref21_Plays.mono _ _ _ _ _
   | exact ambidexterref21_Same.mono _ _ _
   | exact ambidextertop_head25.mono _
   | exact mintime_Profile.mono _ _ _ _ _
   | exact LeO.none _
   | refine LeO.ite ?_ ?_
   | refine LeO.bind ?_ (fun _ => ?_)
  ·
   intro y0 y1 y2 y3 y4 y5 y6 y7 y8 y9 y10 y11 y12 y13 y14 y15 y16 y17 y18
   unfold ambidextertop_TopTracking.j2
   repeat' first
   | (with_reducible exact ih0 _ _ _ _ _ _ _ _ _)
   | (with_reducible exact ih1 _ _ _ _ _ _ _ _ _ _ _ _ _ _ _ _)
   | (with_reducible exact ih2 _ _ _ _ _ _ _ _ _ _ _ _ _ _ _ _ _ _ _)
   | (with_reducible exact ih3 _ _ _ _ _ _ _ _ _ _ _ _ _ _ _ _ _ _)
   | (with_reducible exact ih4 _ _ _ _ _ _ _ _ _ _ _ _ _ _ _ _ _ _)
   | (with_reducible exact ih5 _ _ _ _ _ _ _ _ _ _ _ _ _ _ _ _ _ _)
   | (with_reducible exact ambidexterref21_Plays.mono _ _ _ _ _)
   | (with_reducible exact ambidexterref21_Same.mono _ _ _)
   | (with_reducible exact ambidextertop_head25.mono _)
   | (with_reducible exact mintime_Profile.mono _ _ _ _ _)
   | (with_reducible exact LeO.refl _)
   | (with_reducible exact LeO.none _)
   | (with_reducible refine LeO.ite ?_ ?_)
   | (with_reducible refine LeO.bind ?_ (fun _ => ?_))
   | exact ih0 _ _ _ _ _ _ _ _ _
   | exact ih1 _ _ _ _ _ _ _ _ _ _ _ _ _ _ _ _
   | exact ih2 _ _ _ _ _ _ _ _ _ _ _ _ _ _ _ _ _ _ _
   | exact ih3 _ _ _ _ _ _ _ _ _ _ _ _ _ _ _ _ _ _
   | exact ih4 _ _ _ _ _ _ _ _ _ _ _ _ _ _ _ _ _ _
   | exact ih5 _ _ _ _ _ _ _ _ _ _ _ _ _ _ _ _ _ _
   | exact ambidexterref21_Plays.mono _ _ _ _ _
   | exact ambidexterref21_Same.mono _ _ _
   | exact ambidextertop_head25.mono _
   | exact mintime_Profile.mono _ _ _ _ _
   | exact LeO.none _
   | refine LeO.ite ?_ ?_
   | refine LeO.bind ?_ (fun _ => ?_)
  ·
   intro y0 y1 y2 y3 y4 y5 y6 y7 y8 y9 y10 y11 y12 y13 y14 y15 y16 y17
   unfold ambidextertop_TopTracking.j3
   repeat' first
   | (with_reducible exact ih0 _ _ _ _ _ _ _ _ _)
   | (with_reducible exact ih1 _ _ _ _ _ _ _ _ _ _ _ _ _ _ _ _)
   | (with_reducible exact ih2 _ _ _ _ _ _ _ _ _ _ _ _ _ _ _ _ _ _ _)
   | (with_reducible exact ih3 _ _ _ _ _ _ _ _ _ _ _ _ _ _ _ _ _ _)
   | (with_reducible exact ih4 _ _ _ _ _ _ _ _ _ _ _ _ _ _ _ _ _ _)
   | (with_reducible exact ih5 _ _ _ _ _ _ _ _ _ _ _ _ _ _ _ _ _ _)
   | (with_reducible exact ambidexterref21_Plays.mono _ _ _ _ _)
   | (with_reducible exact ambidexterref21_Same.mono _ _ _)
   | (with_reducible exact ambidextertop_head25.mono _)
   | (with_reducible exact mintime_Profile.mono _ _ _ _ _)
   | (with_reducible exact LeO.refl _)
   | (with_reducible exact LeO.none _)
   | (with_reducible refine LeO.ite ?_ ?_)
   | (with_reducible refine LeO.bind ?_ (fun _ => ?_))
   | exact ih0 _ _ _ _ _ _ _ _ _
   | exact ih1 _ _ _ _ _ _ _ _ _ _ _ _ _ _ _ _
   | exact ih2 _ _ _ _ _ _ _ _ _ _ _ _ _ _ _ _ _ _ _
   | exact ih3 _ _ _ _ _ _ _ _ _ _ _ _ _ _ _ _ _ _
   | exact ih4 _ _ _ _ _ _ _ _ _ _ _ _ _ _ _ _ _ _
   | exact ih5 _ _ _ _ _ _ _ _ _ _ _ _ _ _ _ _ _ _
   | exact ambidexterref21_Plays.mono _ _ _ _ _
   | exact ambidexterref21_Same.mono _ _ _
   | exact ambidextertop_head25.mono _
   | exact mintime_Profile.mono _ _ _ _ _
   | exact LeO.none _
   | refine LeO.ite ?_ ?_
   | refine LeO.bind ?_ (fun _ => ?_)
  ·
   intro y0 y1 y2 y3 y4 y5 y6 y7 y8 y9 y10 y11 y12 y13 y14 y15 y16 y17
   unfold ambidextertop_TopTracking.j4
   repeat' first
   | (with_reducible exact ih0 _ _ _ _ _ _ _ _ _)
   | (with_reducible exact ih1 _ _ _ _ _ _ _ _ _ _ _ _ _ _ _ _)
   | (with_reducible exact ih2 _ _ _ _ _ _ _ _ _ _ _ _ _ _ _ _ _ _ _)
   | (with_reducible exact ih3 _ _ _ _ _ _ _ _ _ _ _ _ _ _ _ _ _ _)
   | (with_reducible exact ih4 _ _ _ _ _ _ _ _ _ _ _ _ _ _ _ _ _ _)
   | (with_reducible exact ih5 _ _ _ _ _ _ _ _ _ _ _ _ _ _ _ _ _ _)
   | (with_reducible exact ambidexterref21_Plays.mono _ _ _ _ _)
   | (with_reducible exact ambidexterref21_Same.mono _ _ _)
   | (with_reducible exact ambidextertop_head25.mono _)
   | (with_reducible exact mintime_Profile.mono _ _ _ _ _)
   | (with_reducible exact LeO.refl _)
   | (with_reducible exact LeO.none _)
   | (with_reducible refine LeO.ite ?_ ?_)
   | (with_reducible refine LeO.bind ?_ (fun _ => ?_))
   | exact ih0 _ _ _ _ _ _ _ _ _
   | exact ih1 _ _ _ _ _ _ _ _ _ _ _ _ _ _ _ _
   | exact ih2 _ _ _ _ _ _ _ _ _ _ _ _ _ _ _ _ _ _ _
   | exact ih3 _ _ _ _ _ _ _ _ _ _ _ _ _ _ _ _ _ _
   | exact ih4 _ _ _ _ _ _ _ _ _ _ _ _ _ _ _ _ _ _
   | exact ih5 _ _ _ _ _ _ _ _ _ _ _ _ _ _ _ _ _ _
   | exact ambidexterref21_Plays.mono _ _ _ _ _
   | exact ambidexterref21_Same.mono _ _ _
   | exact ambidextertop_head25.mono _
   | exact mintime_Profile.mono _ _ _ _ _
   | exact LeO.none _
   | refine LeO.ite ?_ ?_
   | refine LeO.bind ?_ (fun _ => ?_)
  ·
   intro y0 y1 y2 y3 y4 y5 y6 y7 y8 y9 y10 y11 y12 y13 y14 y15 y16 y17
   unfold ambidextertop_TopTracking.j5
   repeat' first
   | (with_reducible exact ih0 _ _ _ _ _ _ _ _ _)
   | (with_reducible exact ih1 _ _ _ _ _ _ _ _ _ _ _ _ _ _ _ _)
   | (with_reducible exact ih2 _ _ _ _ _ _ _ _ _ _ _ _ _ _ _ _ _ _ _)
   | (with_reducible exact ih3 _ _ _ _ _ _ _ _ _ _ _ _ _ _ _ _ _ _)
   | (with_reducible exact ih4 _ _ _ _ _ _ _ _ _ _ _ _ _ _ _ _ _ _)
   | (with_reducible exact ih5 _ _ _ _ _ _ _ _ _ _ _ _ _ _ _ _ _ _)
   | (with_reducible exact ambidexterref21_Plays.mono _ _ _ _ _)
   | (with_reducible exact ambidexterref21_Same.mono _ _ _)
   | (with_reducible exact ambidextertop_head25.mono _)
   | (with_reducible exact mintime_Profile.mono _ _ _ _ _)
   | (with_reducible exact LeO.refl _)
   | (with_reducible exact LeO.none _)
   | (with_reducible refine LeO.ite ?_ ?_)
   | (with_reducible refine LeO.bind ?_ (fun _ => ?_))
   | exact ih0 _ _ _ _ _ _ _ _ _
   | exact ih1 _ _ _ _ _ _ _ _ _ _ _ _ _ _ _ _
   | exact ih2 _ _ _ _ _ _ _ _ _ _ _ _ _ _ _ _ _ _ _
   | exact ih3 _ _ _ _ _ _ _ _ _ _ _ _ _ _ _ _ _ _
   | exact ih4 _ _ _ _ _ _ _ _ _ _ _ _ _ _ _ _ _ _
   | exact ih5 _ _ _ _ _ _ _ _ _ _ _ _ _ _ _ _ _ _
   | exact ambidexterref21_Plays.mono _ _ _ _ _
   | exact ambidexterref21_Same.mono _ _ _
   | exact ambidextertop_head25.mono _
   | exact mintime_Profile.mono _ _ _ _ _
   | exact LeO.none _
   | refine LeO.ite ?_ ?_
   | refine LeO.bind ?_ (fun _ => ?_)
theorem ambidextertop_TopTracking.mono : ∀ a0 a1 a2 a3 a4 a5 k, LeO (ambidextertop_TopTracking.f k a0 a1 a2 a3 a4 a5) (ambidextertop_TopTracking.f (k + 1) a0 a1 a2 a3 a4 a5) := by
 intro a0 a1 a2 a3 a4 a5 k
 obtain ⟨ih0, ih1, ih2, ih3, ih4, ih5⟩ := ambidextertop_TopTracking.mono_l k
 unfold ambidextertop_TopTracking.f
 repeat' first
   | (with_reducible exact ih0 _ _ _ _ _ _ _ _ _)
   | (with_reducible exact ih1 _ _ _ _ _ _ _ _ _ _ _ _ _ _ _ _)
   | (with_reducible exact ih2 _ _ _ _ _ _ _ _ _ _ _ _ _ _ _ _ _ _ _)
   | (with_reducible exact ih3 _ _ _ _ _ _ _ _ _ _ _ _ _ _ _ _ _ _)
   | (with_reducible exact ih4 _ _ _ _ _ _ _ _ _ _ _ _ _ _ _ _ _ _)
   | (with_reducible exact ih5 _ _ _ _ _ _ _ _ _ _ _ _ _ _ _ _ _ _)
   | (with_reducible exact ambidexterref21_Plays.mono _ _ _ _ _)
   | (with_reducible exact ambidexterref21_Same.mono _ _ _)
   | (with_reducible exact ambidextertop_head25.mono _)
   | (with_reducible exact mintime_Profile.mono _ _ _ _ _)
   | (with_reducible exact LeO.refl _)
   | (with_reducible exact LeO.none _)
   | (with_reducible refine LeO.ite ?_ ?_)
   | (with_reducible refine LeO.bind ?_ (fun _ => ?_))
   | exact ih0 _ _ _ _ _ _ _ _ _
   | exact ih1 _ _ _ _ _ _ _ _ _ _ _ _ _ _ _ _
   | exact ih2 _ _ _ _ _ _ _ _ _ _ _ _ _ _ _ _ _ _ _
   | exact ih3 _ _ _ _ _ _ _ _ _ _ _ _ _ _ _ _ _ _
   | exact ih4 _ _ _ _ _ _ _ _ _ _ _ _ _ _ _ _ _ _
   | exact ih5 _ _ _ _ _ _ _ _ _ _ _ _ _ _ _ _ _ _
   | exact ambidexterref21_Plays.mono _ _ _ _ _
   | exact ambidexterref21_Same.mono _ _ _
   | exact ambidextertop_head25.mono _
   | exact mintime_Profile.mono _ _ _ _ _
   | exact LeO.none _
   | refine LeO.ite ?_ ?_
   | refine LeO.bind ?_ (fun _ => ?_)
def ambidextertop_TopTracking.T26 : Bool × List (List Nat × List Nat) := (true, [([], []), ([], []), ([], []), ([], []), ([], []), ([3, 4], [3, 4]), ([5], [5]), ([6], [6]), ([0, 1, 2, 7], [0, 1, 2, 7]), ([8], [8]), ([9], [9]), ([9], [9]), ([], []), ([12, 10, 8, 0, 1, 2, 3, 4, 5, 6, 7, 8, 9, 10, 12], [10, 12]), ([11, 13, 0, 1, 2, 3, 4, 5, 6, 7, 8, 9, 10, 11, 12, 13], [11])])
def ambidextertop_TopTracking.B26 : List Nat := [0, 0, 0, 0, 0, 24, 56, 120, 255, 511, 1023, 1023, 0, 6143, 16383]
theorem ambidextertop_TopTracking.tab26 : rtab .any (opsOf Try.f4 26) = ambidextertop_TopTracking.T26 := by kernel_rfl
theorem ambidextertop_TopTracking.bits26 : waitsOk ambidextertop_TopTracking.T26.2 ambidextertop_TopTracking.B26 = true := by kernel_rfl
def ambidextertop_TopTracking.T31 : Bool × List (List Nat × List Nat) := (true, [([], []), ([0], [0]), ([], []), ([], []), ([2, 3], [2, 3]), ([4], [4]), ([5], [5]), ([1, 6], [1, 6])])
def ambidextertop_TopTracking.B31 : List Nat := [0, 1, 0, 0, 12, 28, 60, 127]
theorem ambidextertop_TopTracking.tab31 : rtab .any (opsOf Try.f4 31) = ambidextertop_TopTracking.T31 := by kernel_rfl
theorem ambidextertop_TopTracking.bits31 : waitsOk ambidextertop_TopTracking.T31.2 ambidextertop_TopTracking.B31 = true := by kernel_rfl
set_option maxHeartbeats 8000000 in
set_option maxRecDepth 100000 in
theorem ambidextertop_TopTracking.calls0 (k : Nat) (a0 : Int) (a1 : Int) (a2 : Int) (a3 : Int) (a4 : Int) (A5 : Option Addr) (c5 : Nat) (l5 : List Int) (r : Bool) (w : World) (hr5 : Kd.C (Kd.int .u8) w A5 l5.length l5) (hc5 : l5.length ≤ c5) (h : ambidextertop_TopTracking.f k a0 a1 a2 a3 a4 l5 = some r) (hT : r = true) :
  Calls Try.prog 4 #[.int .u8 a0, .int .u8 a1, .int .u8 a2, .int .u16 a3, .int .u8 a4, .slice A5 l5.length c5] w fun e w' => e = .returned (.bool r) ∧ Below w.heap.size w w' := by
 have hu25 := Try.underlying25
 have hu33 := Try.underlying33
 have hu45 := Try.underlying45
 have HR5 := Aside0.mk hr5
 have HC5 := Aside0.mk hc5
 clear hr5 hc5
 have HB := Aside0.mk (Below.refl w.heap.size w)
 have H : ((ambidextertop_head25.f k).bind fun t266 => ((ambidextertop_limR14.f a0 a1 a2).bind fun bt267 => ((mintime_Profile.f k bt267.1 bt267.2.1 bt267.2.2 (Int.tmod (wrap64 (a3)) 421)).bind fun bt271 => (if bt271.2 = true then ((profile_Simulate.f 0 0 0 bt271.1).bind fun t275 => (if (t275.length : Int) = (bt271.1.length : Int) then ((ambidexterref21_Plays.f k 0 0 0 bt271.1).bind fun t278 => ((ambidexterref21_Same.f k t275 t278).bind fun t281 => (ambidextertop_TopTracking.j0 k a4 l5 t266 (Int.tmod (wrap64 (a3)) 421) t275 (!t281) bt267.1 bt267.2.1 bt267.2.2))) else (ambidextertop_TopTracking.j0 k a4 l5 t266 (Int.tmod (wrap64 (a3)) 421) t275 true bt267.1 bt267.2.1 bt267.2.2))) else (if t266 = true then (some ((bt271.1.length : Int) == 0)) else (some false)))))) = some r := h
 clear h
 have HT := Aside0.mk hT
 clear hT
 replace H := Option.bind_eq_some_iff.mp H
 obtain ⟨t266, A70, H⟩ := H
 obtain rfl := ambidextertop_head25.is_true k A70
 replace H : ((ambidextertop_limR14.f a0 a1 a2).bind fun bt267 => ((mintime_Profile.f k bt267.1 bt267.2.1 bt267.2.2 (Int.tmod (wrap64 (a3)) 421)).bind fun bt271 => (if bt271.2 = true then ((profile_Simulate.f 0 0 0 bt271.1).bind fun t275 => (if (t275.length : Int) = (bt271.1.length : Int) then ((ambidexterref21_Plays.f k 0 0 0 bt271.1).bind fun t278 => ((ambidexterref21_Same.f k t275 t278).bind fun t281 => (ambidextertop_TopTracking.j0 k a4 l5 true (Int.tmod (wrap64 (a3)) 421) t275 (!t281) bt267.1 bt267.2.1 bt267.2.2))) else (ambidextertop_TopTracking.j0 k a4 l5 true (Int.tmod (wrap64 (a3)) 421) t275 true bt267.1 bt267.2.1 bt267.2.2))) else (if true = true then (some ((bt271.1.length : Int) == 0)) else (some false))))) = some r := H
 have A7 := Aside0.mk A70
 clear A70
 replace H := Option.bind_eq_some_iff.mp H
 obtain ⟨⟨t267, t268, t269⟩, A80, H⟩ := H
 replace H : ((mintime_Profile.f k t267 t268 t269 (Int.tmod (wrap64 (a3)) 421)).bind fun bt271 => (if bt271.2 = true then ((profile_Simulate.f 0 0 0 bt271.1).bind fun t275 => (if (t275.length : Int) = (bt271.1.length : Int) then ((ambidexterref21_Plays.f k 0 0 0 bt271.1).bind fun t278 => ((ambidexterref21_Same.f k t275 t278).bind fun t281 => (ambidextertop_TopTracking.j0 k a4 l5 true (Int.tmod (wrap64 (a3)) 421) t275 (!t281) t267 t268 t269))) else (ambidextertop_TopTracking.j0 k a4 l5 true (Int.tmod (wrap64 (a3)) 421) t275 true t267 t268 t269))) else (if true = true then (some ((bt271.1.length : Int) == 0)) else (some false)))) = some r := H
 have A8 := Aside0.mk A80
 clear A80
 replace H := Option.bind_eq_some_iff.mp H
 obtain ⟨⟨t271, t274⟩, A90, H⟩ := H
 replace H : (if t274 = true then ((profile_Simulate.f 0 0 0 t271).bind fun t275 => (if (t275.length : Int) = (t271.length : Int) then ((ambidexterref21_Plays.f k 0 0 0 t271).bind fun t278 => ((ambidexterref21_Same.f k t275 t278).bind fun t281 => (ambidextertop_TopTracking.j0 k a4 l5 true (Int.tmod (wrap64 (a3)) 421) t275 (!t281) t267 t268 t269))) else (ambidextertop_TopTracking.j0 k a4 l5 true (Int.tmod (wrap64 (a3)) 421) t275 true t267 t268 t269))) else (if true = true then (some ((t271.length : Int) == 0)) else (some false))) = some r := H
 have A9 := Aside0.mk A90
 clear A90
 by_cases c10 : t274 = true
 ·
  subst c10
  have H1 : ((profile_Simulate.f 0 0 0 t271).bind fun t275 => (if (t275.length : Int) = (t271.length : Int) then ((ambidexterref21_Plays.f k 0 0 0 t271).bind fun t278 => ((ambidexterref21_Same.f k t275 t278).bind fun t281 => (ambidextertop_TopTracking.j0 k a4 l5 true (Int.tmod (wrap64 (a3)) 421) t275 (!t281) t267 t268 t269))) else (ambidextertop_TopTracking.j0 k a4 l5 true (Int.tmod (wrap64 (a3)) 421) t275 true t267 t268 t269))) = some r := by rw [if_pos rfl] at H; exact H
  clear H
  have H := H1
  clear H1
  replace H := Option.bind_eq_some_iff.mp H
  obtain ⟨t275, A110, H⟩ := H
  replace H : (if (t275.length : Int) = (t271.length : Int) then ((ambidexterref21_Plays.f k 0 0 0 t271).bind fun t278 => ((ambidexterref21_Same.f k t275 t278).bind fun t281 => (ambidextertop_TopTracking.j0 k a4 l5 true (Int.tmod (wrap64 (a3)) 421) t275 (!t281) t267 t268 t269))) else (ambidextertop_TopTracking.j0 k a4 l5 true (Int.tmod (wrap64 (a3)) 421) t275 true t267 t268 t269)) = some r := H
  have A11 := Aside0.mk A110
  clear A110
  have HC12 := Aside0.mk H
  clear H
  go_enter Try.func4, Try.ntmps4
  go_upto_region 8 with (first | ((with_reducible refine gate_callee (f := 14) rfl ?_); refine goesL_ (some 28) rfl rfl Try.func14 (by kernel_rfl) rfl #[] rfl (by (try simp only [List.map_toArray, List.map_cons, List.map_nil]); first | done | rfl | (simp only [List.length_drop, List.length_take]; rfl)) ?_; (with_reducible refine (ambidextertop_head25.calls k  true _ A7.out).mono ?_); rintro e w13 ⟨rfl, hb⟩; refine ⟨_, rfl, ?_⟩; have n0_ := Aside0.mk (below_step (by repeat (first | (with_reducible first | exact HB.out | apply below_alloc | apply pw_below_drewN | apply below_drew1) | exact HB.out)) hb); clear HB; have HB := n0_; clear n0_; (try clear hb); (try clear hb2); (try clear hk); (try clear hi)) | ((with_reducible refine gate_callee (f := 15) rfl ?_); refine goesL_ (some 32) rfl rfl Try.func15 (by kernel_rfl) rfl #[.int .u8 a0, .int .u8 a1, .int .u8 a2] rfl (by (try simp only [List.map_toArray, List.map_cons, List.map_nil]); first | done | rfl | (simp only [List.length_drop, List.length_take]; rfl)) ?_; (with_reducible refine (ambidextertop_limR14.calls a0 a1 a2 t267 t268 t269 _ A8.out).mono ?_); rintro e w14 ⟨rfl, hb⟩; refine ⟨_, rfl, ?_⟩; have n0_ := Aside0.mk (below_step (by repeat (first | (with_reducible first | exact HB.out | apply below_alloc | apply pw_below_drewN | apply below_drew1) | exact HB.out)) hb); clear HB; have HB := n0_; clear n0_; (try clear hb); (try clear hb2); (try clear hk); (try clear hi)) | ((with_reducible refine gate_dst (N := 14) rfl ?_); (try (refine gate_guard (by rfl) ?_; dsimp only)); refine box_event ?hg (N := 14) ?hd (cs := #[.int .i64 0, .int .i64 0, .int .i64 0]) (t := 25) ?hr ?_; (case hd => rfl); (case hg => rfl); (case hr => first | (go_simp; done) | (go_simp; rfl)); intro gb270 hg w15 hbox hb; have n0_ := Aside0.mk (below_step (by repeat (first | (with_reducible first | exact HB.out | apply below_alloc | apply pw_below_drewN | apply below_drew1) | exact HB.out)) hb); have n1_ := Aside0.mk (hbox); have n2_ := Aside0.mk ((by rw [hg]; exact (below_size (by repeat (first | (with_reducible first | exact HB.out | apply below_alloc | apply pw_below_drewN | apply below_drew1) | exact HB.out))) : w.heap.size ≤ gb270)); have n3_ := Aside0.mk ((by rw [hg]; exact (below_size (by repeat (first | (with_reducible first | exact HB.out | apply below_alloc | apply pw_below_drewN | apply below_drew1) | exact HB.out))) : w.heap.size ≤ gb270)); clear HB; have HB := n0_; have BK270 := n1_; have GW270 := n2_; have GE270 := n3_; clear n0_ n1_ n2_ n3_; clear hb hbox hg; have hcz16_0 : w15.cell? ⟨gb270, 0, none⟩ = some (.int .i64 0) := (blk_cell BK270.out 0).trans rfl; have hcz16_1 : w15.cell? ⟨gb270, 1, none⟩ = some (.int .i64 0) := (blk_cell BK270.out 1).trans rfl; have hcz16_2 : w15.cell? ⟨gb270, 2, none⟩ = some (.int .i64 0) := (blk_cell BK270.out 2).trans rfl; have hfz16_0 := blk_frozen BK270.out 0; have hfz16_1 := blk_frozen BK270.out 1; have hfz16_2 := blk_frozen BK270.out 2) | ((with_reducible refine gate_callee (f := 16) rfl ?_); refine goesL_ (some 39) rfl rfl Try.func16 (by kernel_rfl) rfl #[.agg #[.int .i64 t267, .int .i64 t268, .int .i64 t269], .int .i64 (Int.tmod (wrap64 (a3)) 421)] rfl (by (try simp only [List.map_toArray, List.map_cons, List.map_nil]); first | done | rfl | (simp only [List.length_drop, List.length_take]; rfl)) ?_; (with_reducible refine (mintime_Profile.calls k t267 t268 t269 (Int.tmod (wrap64 (a3)) 421) t271 true _ A9.out).mono ?_); rintro e w17 ⟨v272, rfl, ho0, hb⟩; refine ⟨_, rfl, ?_⟩; have n0_ := Aside0.mk (Kd.R_lower ho0 (below_size (by repeat (first | (with_reducible first | exact HB.out | apply below_alloc | apply pw_below_drewN | apply below_drew1 | refine below_set ?_ GE270.out) | exact HB.out)))); have n1_ := Aside0.mk (blk_below (g := gb270) (o := .cells #[.int .i64 t267, .int .i64 t268, .int .i64 t269] 25 (0, 0)) (by (with_reducible repeat (first | refine blk_drewN ?_ _ | refine blk_drew ?_ | refine blk_alloc ?_ _)); refine blk_put (cs := #[.int .i64 t267, .int .i64 t268, .int .i64 0]) ?_ 2 _ rfl; (with_reducible repeat (first | refine blk_drewN ?_ _ | refine blk_drew ?_ | refine blk_alloc ?_ _)); refine blk_put (cs := #[.int .i64 t267, .int .i64 0, .int .i64 0]) ?_ 1 _ rfl; (with_reducible repeat (first | refine blk_drewN ?_ _ | refine blk_drew ?_ | refine blk_alloc ?_ _)); refine blk_put (cs := #[.int .i64 0, .int .i64 0, .int .i64 0]) ?_ 0 _ rfl; (with_reducible repeat (first | refine blk_drewN ?_ _ | refine blk_drew ?_ | refine blk_alloc ?_ _)); exact BK270.out) hb); have n2_ := Aside0.mk (below_step (by repeat (first | (with_reducible first | exact HB.out | apply below_alloc | apply pw_below_drewN | apply below_drew1 | refine below_set ?_ GE270.out) | exact HB.out)) hb); clear BK270; clear HB; have HO273 := n0_; have BK270 := n1_; have HB := n2_; clear n0_ n1_ n2_; (try clear hb); (try clear hb2); (try clear hk); (try clear hi); (try clear ho0); obtain ⟨Ao18, co18, eo18⟩ := Kd.R_slice HO273.out; subst eo18) | ((with_reducible refine gate_callee (f := 20) rfl ?_); refine goesL_ (some 52) rfl rfl Try.func20 (by kernel_rfl) rfl #[.agg #[.int .i64 0, .int .i64 0, .int .i64 0], .slice Ao18 t271.length co18] rfl (by (try simp only [List.map_toArray, List.map_cons, List.map_nil]); first | done | rfl | (simp only [List.length_drop, List.length_take]; rfl)) ?_; (with_reducible refine (profile_Simulate.calls 0 0 0 _ _ t271 t275 _ ?side1 ?side2 A11.out).mono ?_); (case side1 => repeat (first | exact (Kd.R_reads' HO273.out).2.2 | (with_reducible refine Kd.C_alloc ?_ _) | (with_reducible refine Kd.C_drewN ?_ _) | (with_reducible refine Kd.C_drew ?_))); (case side2 => exact (Kd.R_reads' HO273.out).2.1); rintro e w19 ⟨v276, rfl, ho0, hb⟩; refine ⟨_, rfl, ?_⟩; have n0_ := Aside0.mk (Kd.R_below (by (with_reducible repeat (first | apply Kd.R_alloc | apply Kd.R_drewN | apply Kd.R_drew)); exact HO273.out) hb); have n1_ := Aside0.mk (Kd.R_lower ho0 (below_size (by repeat (first | (with_reducible first | exact HB.out | apply below_alloc | apply pw_below_drewN | apply below_drew1 | refine below_set ?_ GE270.out) | exact HB.out)))); have n2_ := Aside0.mk (blk_below (g := gb270) (o := .cells #[.int .i64 t267, .int .i64 t268, .int .i64 t269] 25 (0, 0)) (by (with_reducible repeat (first | refine blk_drewN ?_ _ | refine blk_drew ?_ | refine blk_alloc ?_ _)); exact BK270.out) hb); have n3_ := Aside0.mk (below_step (by repeat (first | (with_reducible first | exact HB.out | apply below_alloc | apply pw_below_drewN | apply below_drew1 | refine below_set ?_ GE270.out) | exact HB.out)) hb); clear HO273; clear BK270; clear HB; have HO273 := n0_; have HO277 := n1_; have BK270 := n2_; have HB := n3_; clear n0_ n1_ n2_ n3_; (try clear hb); (try clear hb2); (try clear hk); (try clear hi); (try clear ho0)))
  (try simp only [Act.put, List.setIfInBounds_toArray, List.set_cons_zero, List.set_cons_succ])
  go_cut [65] (fun v65 wc => ∃ (kq : Nat) (x65_11 : Bool), v65 = .bool x65_11 ∧ Aside0 (ambidextertop_TopTracking.j0 kq a4 l5 true (Int.tmod (wrap64 (a3)) 421) t275 x65_11 t267 t268 t269 = some r) ∧ Aside0 (kq ≤ k) ∧ Aside0 (Kd.R k33 33 wc w.heap.size (fun _ => True) v276 t275) ∧ Aside0 (wc.heap[gb270]? = some (.cells #[.int .i64 t267, .int .i64 t268, .int .i64 t269] 25 (0, 0))) ∧ Aside0 (Below w.heap.size w wc))
  case first =>
   have H := HC12.out
   clear HC12
   by_cases c20 : (t275.length : Int) = (t271.length : Int)
   ·
    rw [if_pos c20] at H
    have c20b0 : ((t275.length : Int) == (t271.length : Int)) = true := beq_iff_eq.mpr c20
    have c20b1 : ((t275.length : Int) != (t271.length : Int)) = false := bne_eq_false_iff_eq.mpr c20
    have c20b2 : (t275.length == t271.length) = true := by first | simpa using c20 | (simp at c20 ⊢; omega)
    clear c20
    (first | rw [c20b0] | (simp only [i64_w, i32_w]; rw [c20b0]) | skip)
    replace H := Option.bind_eq_some_iff.mp H
    obtain ⟨t278, A210, H⟩ := H
    replace H : ((ambidexterref21_Same.f k t275 t278).bind fun t281 => (ambidextertop_TopTracking.j0 k a4 l5 true (Int.tmod (wrap64 (a3)) 421) t275 (!t281) t267 t268 t269)) = some r := H
    have A21 := Aside0.mk A210
    clear A210
    replace H := Option.bind_eq_some_iff.mp H
    obtain ⟨t281, A220, H⟩ := H
    replace H : (ambidextertop_TopTracking.j0 k a4 l5 true (Int.tmod (wrap64 (a3)) 421) t275 (!t281) t267 t268 t269) = some r := H
    have A22 := Aside0.mk A220
    clear A220
    have H' := Aside0.mk H
    clear H
    obtain ⟨Ao23, co23, eo23⟩ := Kd.R_slice HO277.out
    subst eo23
    go_wp2_with (first | (go_at_call 22; (with_reducible refine (ambidexterref21_Plays.calls k 0 0 0 _ _ t271 t278 _ ?side1 ?side2 A21.out).mono ?_); (case side1 => repeat (first | exact (Kd.R_reads' HO273.out).2.2 | (with_reducible refine Kd.C_alloc ?_ _) | (with_reducible refine Kd.C_drewN ?_ _) | (with_reducible refine Kd.C_drew ?_))); (case side2 => exact (Kd.R_reads' HO273.out).2.1); rintro e w24 ⟨v279, rfl, ho0, hb⟩; have n0_ := Aside0.mk (Kd.R_below (by (with_reducible repeat (first | apply Kd.R_alloc | apply Kd.R_drewN | apply Kd.R_drew)); exact HO273.out) hb); have n1_ := Aside0.mk (Kd.R_elder' (by (with_reducible repeat (first | apply Kd.R_alloc | apply Kd.R_drewN | apply Kd.R_drew)); exact HO277.out) (Kd.R_base ho0) hb); have n2_ := Aside0.mk (Kd.R_lower (Kd.R_new' ho0 (Kd.R_lt (by (with_reducible repeat (first | apply Kd.R_alloc | apply Kd.R_drewN | apply Kd.R_drew)); exact HO277.out))) (below_size (by repeat (first | (with_reducible first | exact HB.out | apply below_alloc | apply pw_below_drewN | apply below_drew1 | refine below_set ?_ GE270.out) | exact HB.out)))); have n3_ := Aside0.mk (blk_below (g := gb270) (o := .cells #[.int .i64 t267, .int .i64 t268, .int .i64 t269] 25 (0, 0)) (by (with_reducible repeat (first | refine blk_drewN ?_ _ | refine blk_drew ?_ | refine blk_alloc ?_ _)); exact BK270.out) hb); have n4_ := Aside0.mk (below_step (by repeat (first | (with_reducible first | exact HB.out | apply below_alloc | apply pw_below_drewN | apply below_drew1 | refine below_set ?_ GE270.out) | exact HB.out)) hb); clear HO273; clear HO277; clear BK270; clear HB; have HO273 := n0_; have HO277 := n1_; have HO280 := n2_; have BK270 := n3_; have HB := n4_; clear n0_ n1_ n2_ n3_ n4_; (try clear hb); (try clear hb2); (try clear hk); (try clear hi); (try clear ho0); obtain ⟨Ao25, co25, eo25⟩ := Kd.R_slice HO280.out; subst eo25) | (go_at_call 21; (with_reducible refine (ambidexterref21_Same.calls k _ _ t275 _ _ t278 t281 _ ?side1 ?side2 ?side3 ?side4 A22.out).mono ?_); (case side1 => repeat (first | exact (Kd.R_reads' HO277.out).2.2 | (with_reducible refine Kd.C_alloc ?_ _) | (with_reducible refine Kd.C_drewN ?_ _) | (with_reducible refine Kd.C_drew ?_))); (case side2 => exact (Kd.R_reads' HO277.out).2.1); (case side3 => repeat (first | exact (Kd.R_reads' HO280.out).2.2 | (with_reducible refine Kd.C_alloc ?_ _) | (with_reducible refine Kd.C_drewN ?_ _) | (with_reducible refine Kd.C_drew ?_))); (case side4 => exact (Kd.R_reads' HO280.out).2.1); rintro e w' ⟨rfl, ⟨nd, rfl⟩⟩))
    go_meet
    case rel => exact ⟨_, (!t281), (by first | rfl | (simp; done) | (simp [*]; done)), H', ⟨by first | omega | exact Nat.le_refl _⟩, ⟨by (with_reducible repeat (first | apply Kd.R_alloc | apply Kd.R_drewN | apply Kd.R_drew)); exact Kd.R_mono HO277.out (fun _ hk => trivial)⟩, ⟨by (with_reducible repeat (first | refine blk_drewN ?_ _ | refine blk_drew ?_ | refine blk_alloc ?_ _)); exact BK270.out⟩, ⟨by repeat (first | (with_reducible first | exact HB.out | apply below_alloc | apply pw_below_drewN | apply below_drew1 | refine below_set ?_ GE270.out) | exact HB.out)⟩⟩
   ·
    rw [if_neg c20] at H
    have c20b0 : ((t275.length : Int) == (t271.length : Int)) = false := beq_eq_false_iff_ne.mpr c20
    have c20b1 : ((t275.length : Int) != (t271.length : Int)) = true := bne_iff_ne.mpr c20
    have c20b2 : (t275.length == t271.length) = false := by first | simpa using c20 | (simp at c20 ⊢; omega)
    (first | rw [c20b0] | (simp only [i64_w, i32_w]; rw [c20b0]) | skip)
    have H' := Aside0.mk H
    clear H
    obtain ⟨Ao26, co26, eo26⟩ := Kd.R_slice HO277.out
    subst eo26
    go_wp2
    go_meet
    case rel => exact ⟨_, (true), (by first | rfl | (simp; done) | (simp [*]; done)), H', ⟨by first | omega | exact Nat.le_refl _⟩, ⟨by (with_reducible repeat (first | apply Kd.R_alloc | apply Kd.R_drewN | apply Kd.R_drew)); exact HO277.out⟩, ⟨by (with_reducible repeat (first | refine blk_drewN ?_ _ | refine blk_drew ?_ | refine blk_alloc ?_ _)); exact BK270.out⟩, ⟨by repeat (first | (with_reducible first | exact HB.out | apply below_alloc | apply pw_below_drewN | apply below_drew1 | refine below_set ?_ GE270.out) | exact HB.out)⟩⟩
  case rest =>
   clear HC12
   try clear c1
   try clear c2
   try clear p2
   try clear c4
   try clear c5
   try clear p6
   try clear c10
   try clear c14
   try clear c15
   try clear c16
   try clear c20
   try clear c20b0
   try clear c20b1
   try clear c20b2
   try clear hcz16_0
   try clear hcz16_1
   try clear hcz16_2
   try clear hfz16_0
   try clear hfz16_1
   try clear hfz16_2
   obtain ⟨kq, x65_11, rfl, HA, HJ11, HO_18, BK270, HB⟩ := hcut
   cases kq with
   | zero => exact absurd HA.out (by simp [ambidextertop_TopTracking.j0])
   | succ kj11 =>
    have H := HA.out
    clear HA
    simp only [ambidextertop_TopTracking.j0] at H
    by_cases c27 : x65_11 = true
    ·
     subst c27
     have H1 : (some false) = some r := by rw [if_pos rfl] at H; exact H
     clear H
     have H := H1
     clear H1
     exact absurd HT.out (by rw [← Option.some.inj H]; decide)
    ·
     replace c27 := Bool.eq_false_iff.mpr c27
     subst c27
     have H1 : ((encoder_Quantize.f (Int.tmod (wrap64 (a4)) 16)).bind fun t282 => ((servo_New.f (Int.tmod (wrap64 (a4)) 16)).bind fun bt283 => (ambidextertop_TopTracking.l0 kj11 l5 true (Int.tmod (wrap64 (a3)) 421) t275 (Int.tmod (wrap64 (a4)) 16) t282 0 0 t267 t268 t269 bt283.1 bt283.2.1 bt283.2.2.1 bt283.2.2.2.1 bt283.2.2.2.2))) = some r := by rw [if_neg (show ¬ (false = true) by decide)] at H; exact H
     clear H
     have H := H1
     clear H1
     replace H := Option.bind_eq_some_iff.mp H
     obtain ⟨t282, A280, H⟩ := H
     replace H : ((servo_New.f (Int.tmod (wrap64 (a4)) 16)).bind fun bt283 => (ambidextertop_TopTracking.l0 kj11 l5 true (Int.tmod (wrap64 (a3)) 421) t275 (Int.tmod (wrap64 (a4)) 16) t282 0 0 t267 t268 t269 bt283.1 bt283.2.1 bt283.2.2.1 bt283.2.2.2.1 bt283.2.2.2.2)) = some r := H
     have A28 := Aside0.mk A280
     clear A280
     replace H := Option.bind_eq_some_iff.mp H
     obtain ⟨⟨t283, t284, t285, t286, t287⟩, A290, H⟩ := H
     replace H : (ambidextertop_TopTracking.l0 kj11 l5 true (Int.tmod (wrap64 (a3)) 421) t275 (Int.tmod (wrap64 (a4)) 16) t282 0 0 t267 t268 t269 t283 t284 t285 t286 t287) = some r := H
     have A29 := Aside0.mk A290
     clear A290
     have H' := Aside0.mk H
     clear H
     go_wp2_with (first | ((with_reducible refine gate_callee (f := 23) rfl ?_); refine goesL_ (some 70) rfl rfl Try.func23 (by kernel_rfl) rfl #[.int .i64 (Int.tmod (wrap64 (a4)) 16)] rfl (by (try simp only [List.map_toArray, List.map_cons, List.map_nil]); first | done | rfl | (simp only [List.length_drop, List.length_take]; rfl)) ?_; (with_reducible refine (encoder_Quantize.calls (Int.tmod (wrap64 (a4)) 16) t282 _ A28.out).mono ?_); rintro e w' ⟨rfl, ⟨nd, rfl⟩⟩; refine ⟨_, rfl, ?_⟩; (try (rw [drewN_self wc]; generalize hq_ : World.drewN wc _ = wc; have n0_ : Aside0 (Kd.R k33 33 wc w.heap.size (fun _ => True) v276 t275) := ⟨by rw [← hq_]; exact (by (with_reducible repeat (first | apply Kd.R_alloc | apply Kd.R_drewN | apply Kd.R_drew)); exact HO_18.out)⟩; have n1_ : Aside0 (wc.heap[gb270]? = some (.cells #[.int .i64 t267, .int .i64 t268, .int .i64 t269] 25 (0, 0))) := ⟨by rw [← hq_]; exact (by (with_reducible repeat (first | refine blk_drewN ?_ _ | refine blk_drew ?_ | refine blk_alloc ?_ _)); exact BK270.out)⟩; have n2_ : Aside0 (Below w.heap.size w wc) := ⟨by rw [← hq_]; exact (by repeat (first | (with_reducible first | exact HB.out | apply below_alloc | apply pw_below_drewN | apply below_drew1 | refine below_set ?_ GE270.out) | exact HB.out))⟩; clear HO_18 BK270 HB hq_; have HO_18 := n0_; have BK270 := n1_; have HB := n2_; clear n0_ n1_ n2_))) | ((with_reducible refine gate_callee (f := 24) rfl ?_); refine goesL_ (some 72) rfl rfl Try.func24 (by kernel_rfl) rfl #[.int .i64 (Int.tmod (wrap64 (a4)) 16)] rfl (by (try simp only [List.map_toArray, List.map_cons, List.map_nil]); first | done | rfl | (simp only [List.length_drop, List.length_take]; rfl)) ?_; (with_reducible refine (servo_New.calls (Int.tmod (wrap64 (a4)) 16) t283 t284 t285 t286 t287 _ A29.out).mono ?_); rintro e w30 ⟨rfl, hb⟩; refine ⟨_, rfl, ?_⟩; have n0_ := Aside0.mk (Kd.R_below (by (with_reducible repeat (first | apply Kd.R_alloc | apply Kd.R_drewN | apply Kd.R_drew)); exact HO_18.out) hb); have n1_ := Aside0.mk (blk_below (g := gb270) (o := .cells #[.int .i64 t267, .int .i64 t268, .int .i64 t269] 25 (0, 0)) (by (with_reducible repeat (first | refine blk_drewN ?_ _ | refine blk_drew ?_ | refine blk_alloc ?_ _)); exact BK270.out) hb); have n2_ := Aside0.mk (below_step (by repeat (first | (with_reducible first | exact HB.out | apply below_alloc | apply pw_below_drewN | apply below_drew1 | refine below_set ?_ GE270.out) | exact HB.out)) hb); clear HO_18; clear BK270; clear HB; have HO_18 := n0_; have BK270 := n1_; have HB := n2_; clear n0_ n1_ n2_; (try clear hb); (try clear hb2); (try clear hk); (try clear hi)) | ((with_reducible refine gate_dst (N := 21) rfl ?_); (try (refine gate_guard (by rfl) ?_; dsimp only)); refine box_event ?hg (N := 21) ?hd (cs := #[.int .i64 0, .int .i64 0, .int .i64 0, .int .i64 0, .bool false]) (t := 45) ?hr ?_; (case hd => rfl); (case hg => rfl); (case hr => first | (go_simp; done) | (go_simp; rfl)); intro gb288 hg w31 hbox hb; have n0_ := Aside0.mk (Kd.R_below (by (with_reducible repeat (first | apply Kd.R_alloc | apply Kd.R_drewN | apply Kd.R_drew)); exact HO_18.out) hb); have n1_ := Aside0.mk (blk_below (g := gb270) (o := .cells #[.int .i64 t267, .int .i64 t268, .int .i64 t269] 25 (0, 0)) (by (with_reducible repeat (first | refine blk_drewN ?_ _ | refine blk_drew ?_ | refine blk_alloc ?_ _)); exact BK270.out) hb); have n2_ := Aside0.mk (below_step (by repeat (first | (with_reducible first | exact HB.out | apply below_alloc | apply pw_below_drewN | apply below_drew1 | refine below_set ?_ GE270.out) | exact HB.out)) hb); have n3_ := Aside0.mk (hbox); have n4_ := Aside0.mk ((by rw [hg]; exact (below_size (by repeat (first | (with_reducible first | exact HB.out | apply below_alloc | apply pw_below_drewN | apply below_drew1 | refine below_set ?_ GE270.out) | exact HB.out))) : w.heap.size ≤ gb288)); have n5_ := Aside0.mk ((by rw [hg]; exact (below_size (by repeat (first | (with_reducible first | exact HB.out | apply below_alloc | apply pw_below_drewN | apply below_drew1 | refine below_set ?_ GE270.out) | exact HB.out))) : w.heap.size ≤ gb288)); have n6_ := Aside0.mk ((by rw [hg]; exact Nat.ne_of_lt (blk_lt (g := gb270) (o := .cells #[.int .i64 t267, .int .i64 t268, .int .i64 t269] 25 (0, 0)) (by (with_reducible repeat (first | refine blk_drewN ?_ _ | refine blk_drew ?_ | refine blk_alloc ?_ _)); exact BK270.out)) : gb270 ≠ gb288)); have n7_ := Aside0.mk ((by rw [hg]; exact Nat.ne_of_gt (blk_lt (g := gb270) (o := .cells #[.int .i64 t267, .int .i64 t268, .int .i64 t269] 25 (0, 0)) (by (with_reducible repeat (first | refine blk_drewN ?_ _ | refine blk_drew ?_ | refine blk_alloc ?_ _)); exact BK270.out)) : gb288 ≠ gb270)); clear HO_18; clear BK270; clear HB; have HO_18 := n0_; have BK270 := n1_; have HB := n2_; have BK288 := n3_; have GW288 := n4_; have GE288 := n5_; have NB270_288 := n6_; have NB288_270 := n7_; clear n0_ n1_ n2_ n3_ n4_ n5_ n6_ n7_; clear hb hbox hg; have hnb32 := NB288_270.out; have hnc32 := NB270_288.out; have hcz33_0 : w31.cell? ⟨gb288, 0, none⟩ = some (.int .i64 0) := (blk_cell BK288.out 0).trans rfl; have hcz33_1 : w31.cell? ⟨gb288, 1, none⟩ = some (.int .i64 0) := (blk_cell BK288.out 1).trans rfl; have hcz33_2 : w31.cell? ⟨gb288, 2, none⟩ = some (.int .i64 0) := (blk_cell BK288.out 2).trans rfl; have hcz33_3 : w31.cell? ⟨gb288, 3, none⟩ = some (.int .i64 0) := (blk_cell BK288.out 3).trans rfl; have hcz33_4 : w31.cell? ⟨gb288, 4, none⟩ = some (.bool false) := (blk_cell BK288.out 4).trans rfl; have hfz33_0 := blk_frozen BK288.out 0; have hfz33_1 := blk_frozen BK288.out 1; have hfz33_2 := blk_frozen BK288.out 2; have hfz33_3 := blk_frozen BK288.out 3; have hfz33_4 := blk_frozen BK288.out 4))
     go_loopg [19, 20, 22, 23] kj11 (fun kq v19 v20 v22 v23 w' => ∃ (x19_2 : Int) (x20_2 : Int) (x22_2 : Int) (x23_2 : Int) (x289000_2 : Int) (x289001_2 : Int) (x289002_2 : Int) (x289003_2 : Int) (x289004_2 : Bool), v19 = .int .i64 x19_2 ∧ v20 = .int .i64 x20_2 ∧ v22 = .int .i64 x22_2 ∧ v23 = .int .i64 x23_2 ∧ Aside0 (ambidextertop_TopTracking.l0 kq l5 true (Int.tmod (wrap64 (a3)) 421) t275 x19_2 x20_2 x22_2 x23_2 t267 t268 t269 x289000_2 x289001_2 x289002_2 x289003_2 x289004_2 = some r) ∧ Aside0 (kq ≤ kj11) ∧ Aside0 (Kd.R k33 33 w' w.heap.size (fun _ => True) v276 t275) ∧ Aside0 (w'.heap[gb270]? = some (.cells #[.int .i64 t267, .int .i64 t268, .int .i64 t269] 25 (0, 0))) ∧ Aside0 (w'.heap[gb288]? = some (.cells #[.int .i64 x289000_2, .int .i64 x289001_2, .int .i64 x289002_2, .int .i64 x289003_2, .bool x289004_2] 45 (0, 0))) ∧ Aside0 (Below w.heap.size w w'))
     case atStart => exact ⟨(Int.tmod (wrap64 (a4)) 16), (t282), (0), (0), (t283), (t284), (t285), (t286), (t287), (by first | rfl | (simp; done) | (simp [*]; done)), (by first | rfl | (simp; done) | (simp [*]; done)), (by first | rfl | (simp; done) | (simp [*]; done)), (by first | rfl | (simp; done) | (simp [*]; done)), H', ⟨Nat.le_refl _⟩, ⟨by (with_reducible repeat (first | apply Kd.R_alloc | apply Kd.R_drewN | apply Kd.R_drew)); exact Kd.R_mono (Kd.R_far (p := ⟨gb288, 4, none⟩) (Kd.R_far (p := ⟨gb288, 3, none⟩) (Kd.R_far (p := ⟨gb288, 2, none⟩) (Kd.R_far (p := ⟨gb288, 1, none⟩) (Kd.R_far (p := ⟨gb288, 0, none⟩) (Kd.R_types HO_18.out BK288.out (by decide)) (fun _ hk => hk.2) (.int .i64 t283)) (fun _ hk => hk.2) (.int .i64 t284)) (fun _ hk => hk.2) (.int .i64 t285)) (fun _ hk => hk.2) (.int .i64 t286)) (fun _ hk => hk.2) (.bool t287)) (fun _ hk => trivial)⟩, ⟨by (with_reducible repeat (first | refine blk_drewN ?_ _ | refine blk_drew ?_ | refine blk_alloc ?_ _)); refine blk_far ?_ NB270_288.out _; (with_reducible repeat (first | refine blk_drewN ?_ _ | refine blk_drew ?_ | refine blk_alloc ?_ _)); refine blk_far ?_ NB270_288.out _; (with_reducible repeat (first | refine blk_drewN ?_ _ | refine blk_drew ?_ | refine blk_alloc ?_ _)); refine blk_far ?_ NB270_288.out _; (with_reducible repeat (first | refine blk_drewN ?_ _ | refine blk_drew ?_ | refine blk_alloc ?_ _)); refine blk_far ?_ NB270_288.out _; (with_reducible repeat (first | refine blk_drewN ?_ _ | refine blk_drew ?_ | refine blk_alloc ?_ _)); refine blk_far ?_ NB270_288.out _; (with_reducible repeat (first | refine blk_drewN ?_ _ | refine blk_drew ?_ | refine blk_alloc ?_ _)); exact BK270.out⟩, ⟨by (with_reducible repeat (first | refine blk_drewN ?_ _ | refine blk_drew ?_ | refine blk_alloc ?_ _)); refine blk_put (cs := #[.int .i64 t283, .int .i64 t284, .int .i64 t285, .int .i64 t286, .bool false]) ?_ 4 _ rfl; (with_reducible repeat (first | refine blk_drewN ?_ _ | refine blk_drew ?_ | refine blk_alloc ?_ _)); refine blk_put (cs := #[.int .i64 t283, .int .i64 t284, .int .i64 t285, .int .i64 0, .bool false]) ?_ 3 _ rfl; (with_reducible repeat (first | refine blk_drewN ?_ _ | refine blk_drew ?_ | refine blk_alloc ?_ _)); refine blk_put (cs := #[.int .i64 t283, .int .i64 t284, .int .i64 0, .int .i64 0, .bool false]) ?_ 2 _ rfl; (with_reducible repeat (first | refine blk_drewN ?_ _ | refine blk_drew ?_ | refine blk_alloc ?_ _)); refine blk_put (cs := #[.int .i64 t283, .int .i64 0, .int .i64 0, .int .i64 0, .bool false]) ?_ 1 _ rfl; (with_reducible repeat (first | refine blk_drewN ?_ _ | refine blk_drew ?_ | refine blk_alloc ?_ _)); refine blk_put (cs := #[.int .i64 0, .int .i64 0, .int .i64 0, .int .i64 0, .bool false]) ?_ 0 _ rfl; (with_reducible repeat (first | refine blk_drewN ?_ _ | refine blk_drew ?_ | refine blk_alloc ?_ _)); exact BK288.out⟩, ⟨by repeat (first | (with_reducible first | exact HB.out | apply below_alloc | apply pw_below_drewN | apply below_drew1 | refine below_set ?_ GE270.out | refine below_set ?_ GE288.out) | exact HB.out)⟩⟩
     case round =>
      clear H'
      try clear c1
      try clear c2
      try clear p2
      try clear c3
      try clear c4
      try clear c5
      try clear p6
      try clear c10
      try clear c14
      try clear c15
      try clear c16
      try clear c20
      try clear c20b0
      try clear c20b1
      try clear c20b2
      try clear c23
      try clear c24
      try clear c27
      try clear c32
      try clear hcz16_0
      try clear hcz16_1
      try clear hcz16_2
      try clear hcz33_0
      try clear hcz33_1
      try clear hcz33_2
      try clear hcz33_3
      try clear hcz33_4
      try clear hfz16_0
      try clear hfz16_1
      try clear hfz16_2
      try clear hfz33_0
      try clear hfz33_1
      try clear hfz33_2
      try clear hfz33_3
      try clear hfz33_4
      try clear p2
      try clear p6
      obtain ⟨x19_2, x20_2, x22_2, x23_2, x289000_2, x289001_2, x289002_2, x289003_2, x289004_2, rfl, rfl, rfl, rfl, HA, HK2, HO_18, BK270, BK288, HB⟩ := hrel
      cases gk with
      | zero => exact absurd HA.out (by simp [ambidextertop_TopTracking.l0])
      | succ k2 =>
       have H := HA.out
       clear HA
       simp only [ambidextertop_TopTracking.l0] at H
       by_cases c34 : x23_2 < (t275.length : Int)
       ·
        rw [if_pos c34] at H
        have c34b0 : decide (x23_2 < (t275.length : Int)) = true := decide_eq_true c34
        clear c34
        replace H := Option.bind_eq_some_iff.mp H
        obtain ⟨t290, A350, H⟩ := H
        replace H : (if x23_2 < (l5.length : Int) then (if 0 ≤ x23_2 then (if (Int.tmod (rd l5 x23_2) 3) > 0 then (ambidextertop_TopTracking.j2 k2 l5 true (Int.tmod (wrap64 (a3)) 421) t275 x19_2 x20_2 x22_2 x23_2 1 t290 (decide (x22_2 < 6)) t267 t268 t269 x289000_2 x289001_2 x289002_2 x289003_2 x289004_2) else (ambidextertop_TopTracking.j2 k2 l5 true (Int.tmod (wrap64 (a3)) 421) t275 x19_2 x20_2 x22_2 x23_2 1 t290 false t267 t268 t269 x289000_2 x289001_2 x289002_2 x289003_2 x289004_2)) else (none)) else (ambidextertop_TopTracking.j2 k2 l5 true (Int.tmod (wrap64 (a3)) 421) t275 x19_2 x20_2 x22_2 x23_2 1 t290 false t267 t268 t269 x289000_2 x289001_2 x289002_2 x289003_2 x289004_2)) = some r := H
        have A35 := Aside0.mk A350
        clear A350
        have HC36 := Aside0.mk H
        clear H
        obtain ⟨Ao37, co37, eo37⟩ := Kd.R_slice HO_18.out
        subst eo37
        go_upto_region 19 with (first | ((with_reducible refine gate_callee (f := 23) rfl ?_); refine goesL_ (some 80) rfl rfl Try.func23 (by kernel_rfl) rfl #[.int .i64 x19_2] rfl (by (try simp only [List.map_toArray, List.map_cons, List.map_nil]); first | done | rfl | (simp only [List.length_drop, List.length_take]; rfl)) ?_; (with_reducible refine (encoder_Quantize.calls x19_2 t290 _ A35.out).mono ?_); rintro e w' ⟨rfl, ⟨nd, rfl⟩⟩; refine ⟨_, rfl, ?_⟩))
        (try simp only [Act.put, List.setIfInBounds_toArray, List.set_cons_zero, List.set_cons_succ])
        go_cut [96] (fun v96 wc => ∃ (kq : Nat) (x96_35 : Bool), v96 = .bool x96_35 ∧ Aside0 (ambidextertop_TopTracking.j2 kq l5 true (Int.tmod (wrap64 (a3)) 421) t275 x19_2 x20_2 x22_2 x23_2 1 t290 x96_35 t267 t268 t269 x289000_2 x289001_2 x289002_2 x289003_2 x289004_2 = some r) ∧ Aside0 (kq ≤ k2) ∧ Aside0 (Kd.R k33 33 wc w.heap.size (fun _ => True) (.slice Ao37 t275.length co37) t275) ∧ Aside0 (wc.heap[gb270]? = some (.cells #[.int .i64 t267, .int .i64 t268, .int .i64 t269] 25 (0, 0))) ∧ Aside0 (wc.heap[gb288]? = some (.cells #[.int .i64 x289000_2, .int .i64 x289001_2, .int .i64 x289002_2, .int .i64 x289003_2, .bool x289004_2] 45 (0, 0))) ∧ Aside0 (Below w.heap.size w wc))
        case first =>
         have H := HC36.out
         clear HC36
         by_cases c38 : x23_2 < (l5.length : Int)
         ·
          rw [if_pos c38] at H
          have c38b0 : decide (x23_2 < (l5.length : Int)) = true := decide_eq_true c38
          clear c38
          (first | rw [c38b0] | (simp only [i64_w, i32_w]; rw [c38b0]) | skip)
          by_cases c39 : 0 ≤ x23_2
          ·
           rw [if_pos c39] at H
           have c39b0 : decide (0 ≤ x23_2) = true := decide_eq_true c39
           clear c39
           by_cases c40 : (Int.tmod (rd l5 x23_2) 3) > 0
           ·
            rw [if_pos c40] at H
            have c40b0 : decide (0 < (Int.tmod (rd l5 x23_2) 3)) = true := decide_eq_true c40
            clear c40
            have H' := Aside0.mk H
            clear H
            have p291 : 0 ≤ (x23_2 : Int) := of_decide_eq_true (by first | (with_reducible assumption) | assumption)
            have q291 : x23_2 < (l5.length : Int) := of_decide_eq_true (by first | (with_reducible assumption) | assumption)
            obtain ⟨ad291, e291, hx291_0⟩ := Kd.at_int HR5.out x23_2 p291 q291
            cases e291
            replace hx291_0 := (HB.out.cell (World.block_lt_of_cell? w _ hx291_0)).trans hx291_0
            replace p291 := eq_true p291
            replace q291 := eq_true q291
            go_wp2
            go_meet
            case rel => exact ⟨_, (decide (x22_2 < 6)), (by first | rfl | (simp; done) | (simp [*]; done)), H', ⟨by have := HJ11.out; have := HK2.out; first | omega | exact Nat.le_refl _⟩, ⟨by (with_reducible repeat (first | apply Kd.R_alloc | apply Kd.R_drewN | apply Kd.R_drew)); exact HO_18.out⟩, ⟨by (with_reducible repeat (first | refine blk_drewN ?_ _ | refine blk_drew ?_ | refine blk_alloc ?_ _)); exact BK270.out⟩, ⟨by (with_reducible repeat (first | refine blk_drewN ?_ _ | refine blk_drew ?_ | refine blk_alloc ?_ _)); exact BK288.out⟩, ⟨by repeat (first | (with_reducible first | exact HB.out | apply below_alloc | apply pw_below_drewN | apply below_drew1 | refine below_set ?_ GE270.out | refine below_set ?_ GE288.out) | exact HB.out)⟩⟩
           ·
            rw [if_neg c40] at H
            have c40b0 : decide (0 < (Int.tmod (rd l5 x23_2) 3)) = false := decide_eq_false c40
            clear c40
            have H' := Aside0.mk H
            clear H
            have p291 : 0 ≤ (x23_2 : Int) := of_decide_eq_true (by first | (with_reducible assumption) | assumption)
            have q291 : x23_2 < (l5.length : Int) := of_decide_eq_true (by first | (with_reducible assumption) | assumption)
            obtain ⟨ad291, e291, hx291_0⟩ := Kd.at_int HR5.out x23_2 p291 q291
            cases e291
            replace hx291_0 := (HB.out.cell (World.block_lt_of_cell? w _ hx291_0)).trans hx291_0
            replace p291 := eq_true p291
            replace q291 := eq_true q291
            go_wp2
            go_meet
            case rel => exact ⟨_, (false), (by first | rfl | (simp; done) | (simp [*]; done)), H', ⟨by have := HJ11.out; have := HK2.out; first | omega | exact Nat.le_refl _⟩, ⟨by (with_reducible repeat (first | apply Kd.R_alloc | apply Kd.R_drewN | apply Kd.R_drew)); exact HO_18.out⟩, ⟨by (with_reducible repeat (first | refine blk_drewN ?_ _ | refine blk_drew ?_ | refine blk_alloc ?_ _)); exact BK270.out⟩, ⟨by (with_reducible repeat (first | refine blk_drewN ?_ _ | refine blk_drew ?_ | refine blk_alloc ?_ _)); exact BK288.out⟩, ⟨by repeat (first | (with_reducible first | exact HB.out | apply below_alloc | apply pw_below_drewN | apply below_drew1 | refine below_set ?_ GE270.out | refine below_set ?_ GE288.out) | exact HB.out)⟩⟩
          ·
           rw [if_neg c39] at H
           exact absurd H (by simp)
         ·
          rw [if_neg c38] at H
          have c38b0 : decide (x23_2 < (l5.length : Int)) = false := decide_eq_false c38
          clear c38
          (first | rw [c38b0] | (simp only [i64_w, i32_w]; rw [c38b0]) | skip)
          have H' := Aside0.mk H
          clear H
          go_wp2
          go_meet
          case rel => exact ⟨_, (false), (by first | rfl | (simp; done) | (simp [*]; done)), H', ⟨by have := HJ11.out; have := HK2.out; first | omega | exact Nat.le_refl _⟩, ⟨by (with_reducible repeat (first | apply Kd.R_alloc | apply Kd.R_drewN | apply Kd.R_drew)); exact HO_18.out⟩, ⟨by (with_reducible repeat (first | refine blk_drewN ?_ _ | refine blk_drew ?_ | refine blk_alloc ?_ _)); exact BK270.out⟩, ⟨by (with_reducible repeat (first | refine blk_drewN ?_ _ | refine blk_drew ?_ | refine blk_alloc ?_ _)); exact BK288.out⟩, ⟨by repeat (first | (with_reducible first | exact HB.out | apply below_alloc | apply pw_below_drewN | apply below_drew1 | refine below_set ?_ GE270.out | refine below_set ?_ GE288.out) | exact HB.out)⟩⟩
        case rest =>
         clear HC36
         try clear c1
         try clear c2
         try clear p2
         try clear q2
         try clear hx2
         try clear c3
         try clear c4
         try clear c5
         try clear p6
         try clear c10
         try clear c14
         try clear c15
         try clear c16
         try clear c20
         try clear c20b0
         try clear c20b1
         try clear c20b2
         try clear c23
         try clear c24
         try clear c27
         try clear p29
         try clear q29
         try clear hx29
         try clear c32
         try clear c34
         try clear c34b0
         try clear c38
         try clear c38b0
         try clear c39
         try clear c39b0
         try clear c40
         try clear c40b0
         try clear hcz16_0
         try clear hcz16_1
         try clear hcz16_2
         try clear hcz33_0
         try clear hcz33_1
         try clear hcz33_2
         try clear hcz33_3
         try clear hcz33_4
         try clear hfz16_0
         try clear hfz16_1
         try clear hfz16_2
         try clear hfz33_0
         try clear hfz33_1
         try clear hfz33_2
         try clear hfz33_3
         try clear hfz33_4
         try clear hx291_0
         try clear p2
         try clear p291
         try clear p6
         try clear q291
         obtain ⟨kq, x96_35, rfl, HA, HJ35, HO_18, BK270, BK288, HB⟩ := hcut
         cases kq with
         | zero => exact absurd HA.out (by simp [ambidextertop_TopTracking.j2])
         | succ kj35 =>
          have H := HA.out
          clear HA
          simp only [ambidextertop_TopTracking.j2] at H
          have HC41 := Aside0.mk H
          clear H
          go_upto_if 96 with (fail)
          go_cut [24, 25] (fun v24 v25 wc => ∃ (kq : Nat) (x24_40 : Int) (x25_40 : Int), v24 = .int .i64 x24_40 ∧ v25 = .int .i64 x25_40 ∧ Aside0 (ambidextertop_TopTracking.j3 kq l5 true (Int.tmod (wrap64 (a3)) 421) t275 x19_2 x20_2 x22_2 x23_2 x24_40 x25_40 t267 t268 t269 x289000_2 x289001_2 x289002_2 x289003_2 x289004_2 = some r) ∧ Aside0 (kq ≤ kj35) ∧ Aside0 (Kd.R k33 33 wc w.heap.size (fun _ => True) (.slice Ao37 t275.length co37) t275) ∧ Aside0 (wc.heap[gb270]? = some (.cells #[.int .i64 t267, .int .i64 t268, .int .i64 t269] 25 (0, 0))) ∧ Aside0 (wc.heap[gb288]? = some (.cells #[.int .i64 x289000_2, .int .i64 x289001_2, .int .i64 x289002_2, .int .i64 x289003_2, .bool x289004_2] 45 (0, 0))) ∧ Aside0 (Below w.heap.size w wc))
          case first =>
           have H := HC41.out
           clear HC41
           by_cases c42 : x96_35 = true
           ·
            subst c42
            have H1 : (if 0 ≤ x23_2 then (if x23_2 < (l5.length : Int) then (ambidextertop_TopTracking.j3 kj35 l5 true (Int.tmod (wrap64 (a3)) 421) t275 x19_2 x20_2 x22_2 x23_2 (wrap64 (1 + (Int.tmod (wrap64 (rd l5 x23_2)) 3))) x20_2 t267 t268 t269 x289000_2 x289001_2 x289002_2 x289003_2 x289004_2) else (none)) else (none)) = some r := by rw [if_pos rfl] at H; exact H
            clear H
            have H := H1
            clear H1
            by_cases c43 : 0 ≤ x23_2
            ·
             rw [if_pos c43] at H
             have c43b0 : decide (0 ≤ x23_2) = true := decide_eq_true c43
             clear c43
             (first | rw [c43b0] | (simp only [i64_w, i32_w]; rw [c43b0]) | skip)
             by_cases c44 : x23_2 < (l5.length : Int)
             ·
              rw [if_pos c44] at H
              have c44b0 : decide (x23_2 < (l5.length : Int)) = true := decide_eq_true c44
              clear c44
              have H' := Aside0.mk H
              clear H
              have p292 : 0 ≤ (x23_2 : Int) := of_decide_eq_true (by first | (with_reducible assumption) | assumption)
              have q292 : x23_2 < (l5.length : Int) := of_decide_eq_true (by first | (with_reducible assumption) | assumption)
              obtain ⟨ad292, e292, hx292_0⟩ := Kd.at_int HR5.out x23_2 p292 q292
              cases e292
              replace hx292_0 := (HB.out.cell (World.block_lt_of_cell? w _ hx292_0)).trans hx292_0
              replace p292 := eq_true p292
              replace q292 := eq_true q292
              go_wp2
              go_meet
              case rel => exact ⟨_, (wrap64 (1 + (Int.tmod (wrap64 (rd l5 x23_2)) 3))), (x20_2), (by first | rfl | (simp; done) | (simp [*]; done)), (by first | rfl | (simp; done) | (simp [*]; done)), H', ⟨by have := HJ11.out; have := HK2.out; have := HJ35.out; first | omega | exact Nat.le_refl _⟩, ⟨by (with_reducible repeat (first | apply Kd.R_alloc | apply Kd.R_drewN | apply Kd.R_drew)); exact HO_18.out⟩, ⟨by (with_reducible repeat (first | refine blk_drewN ?_ _ | refine blk_drew ?_ | refine blk_alloc ?_ _)); exact BK270.out⟩, ⟨by (with_reducible repeat (first | refine blk_drewN ?_ _ | refine blk_drew ?_ | refine blk_alloc ?_ _)); exact BK288.out⟩, ⟨by repeat (first | (with_reducible first | exact HB.out | apply below_alloc | apply pw_below_drewN | apply below_drew1 | refine below_set ?_ GE270.out | refine below_set ?_ GE288.out) | exact HB.out)⟩⟩
             ·
              rw [if_neg c44] at H
              exact absurd H (by simp)
            ·
             rw [if_neg c43] at H
             exact absurd H (by simp)
           ·
            replace c42 := Bool.eq_false_iff.mpr c42
            subst c42
            have H1 : (ambidextertop_TopTracking.j3 kj35 l5 true (Int.tmod (wrap64 (a3)) 421) t275 x19_2 x20_2 x22_2 x23_2 1 t290 t267 t268 t269 x289000_2 x289001_2 x289002_2 x289003_2 x289004_2) = some r := by rw [if_neg (show ¬ (false = true) by decide)] at H; exact H
            clear H
            have H := H1
            clear H1
            have H' := Aside0.mk H
            clear H
            go_wp2
            go_meet
            case rel => exact ⟨_, (1), (t290), (by first | rfl | (simp; done) | (simp [*]; done)), (by first | rfl | (simp; done) | (simp [*]; done)), H', ⟨by have := HJ11.out; have := HK2.out; have := HJ35.out; first | omega | exact Nat.le_refl _⟩, ⟨by (with_reducible repeat (first | apply Kd.R_alloc | apply Kd.R_drewN | apply Kd.R_drew)); exact HO_18.out⟩, ⟨by (with_reducible repeat (first | refine blk_drewN ?_ _ | refine blk_drew ?_ | refine blk_alloc ?_ _)); exact BK270.out⟩, ⟨by (with_reducible repeat (first | refine blk_drewN ?_ _ | refine blk_drew ?_ | refine blk_alloc ?_ _)); exact BK288.out⟩, ⟨by repeat (first | (with_reducible first | exact HB.out | apply below_alloc | apply pw_below_drewN | apply below_drew1 | refine below_set ?_ GE270.out | refine below_set ?_ GE288.out) | exact HB.out)⟩⟩
          case rest =>
           clear HC41
           try clear c1
           try clear c2
           try clear p2
           try clear q2
           try clear hx2
           try clear c3
           try clear c4
           try clear c5
           try clear p6
           try clear c10
           try clear c14
           try clear c15
           try clear c16
           try clear c20
           try clear c20b0
           try clear c20b1
           try clear c20b2
           try clear c23
           try clear c24
           try clear c27
           try clear p29
           try clear q29
           try clear hx29
           try clear c32
           try clear c34
           try clear c34b0
           try clear c38
           try clear c38b0
           try clear c39
           try clear c39b0
           try clear c40
           try clear c40b0
           try clear c42
           try clear c43
           try clear c43b0
           try clear c44
           try clear c44b0
           try clear hcz16_0
           try clear hcz16_1
           try clear hcz16_2
           try clear hcz33_0
           try clear hcz33_1
           try clear hcz33_2
           try clear hcz33_3
           try clear hcz33_4
           try clear hfz16_0
           try clear hfz16_1
           try clear hfz16_2
           try clear hfz33_0
           try clear hfz33_1
           try clear hfz33_2
           try clear hfz33_3
           try clear hfz33_4
           try clear hx291_0
           try clear hx292_0
           try clear p2
           try clear p29
           try clear p291
           try clear p292
           try clear p6
           try clear q2
           try clear q29
           try clear q291
           try clear q292
           obtain ⟨kq, x24_40, x25_40, rfl, rfl, HA, HJ40, HO_18, BK270, BK288, HB⟩ := hcut
           cases kq with
           | zero => exact absurd HA.out (by simp [ambidextertop_TopTracking.j3])
           | succ kj40 =>
            have H := HA.out
            clear HA
            simp only [ambidextertop_TopTracking.j3] at H
            have HC45 := Aside0.mk H
            clear H
            go_upto_if 106 with (fail)
            go_cut [20, 22] (fun v20 v22 wc => ∃ (kq : Nat) (x20_44 : Int) (x22_44 : Int), v20 = .int .i64 x20_44 ∧ v22 = .int .i64 x22_44 ∧ Aside0 (ambidextertop_TopTracking.j4 kq l5 true (Int.tmod (wrap64 (a3)) 421) t275 x19_2 x20_44 x22_44 x23_2 x24_40 x25_40 t267 t268 t269 x289000_2 x289001_2 x289002_2 x289003_2 x289004_2 = some r) ∧ Aside0 (kq ≤ kj40) ∧ Aside0 (Kd.R k33 33 wc w.heap.size (fun _ => True) (.slice Ao37 t275.length co37) t275) ∧ Aside0 (wc.heap[gb270]? = some (.cells #[.int .i64 t267, .int .i64 t268, .int .i64 t269] 25 (0, 0))) ∧ Aside0 (wc.heap[gb288]? = some (.cells #[.int .i64 x289000_2, .int .i64 x289001_2, .int .i64 x289002_2, .int .i64 x289003_2, .bool x289004_2] 45 (0, 0))) ∧ Aside0 (Below w.heap.size w wc))
            case first =>
             have H := HC45.out
             clear HC45
             by_cases c46 : x24_40 = 1
             ·
              rw [if_pos c46] at H
              have c46b0 : (x24_40 == 1) = true := beq_iff_eq.mpr c46
              have c46b1 : (x24_40 != 1) = false := bne_eq_false_iff_eq.mpr c46
              clear c46
              (first | rw [c46b0] | (simp only [i64_w, i32_w]; rw [c46b0]) | skip)
              have H' := Aside0.mk H
              clear H
              go_wp2
              go_meet
              case rel => exact ⟨_, (x25_40), (0), (by first | rfl | (simp; done) | (simp [*]; done)), (by first | rfl | (simp; done) | (simp [*]; done)), H', ⟨by have := HJ11.out; have := HK2.out; have := HJ35.out; have := HJ40.out; first | omega | exact Nat.le_refl _⟩, ⟨by (with_reducible repeat (first | apply Kd.R_alloc | apply Kd.R_drewN | apply Kd.R_drew)); exact HO_18.out⟩, ⟨by (with_reducible repeat (first | refine blk_drewN ?_ _ | refine blk_drew ?_ | refine blk_alloc ?_ _)); exact BK270.out⟩, ⟨by (with_reducible repeat (first | refine blk_drewN ?_ _ | refine blk_drew ?_ | refine blk_alloc ?_ _)); exact BK288.out⟩, ⟨by repeat (first | (with_reducible first | exact HB.out | apply below_alloc | apply pw_below_drewN | apply below_drew1 | refine below_set ?_ GE270.out | refine below_set ?_ GE288.out) | exact HB.out)⟩⟩
             ·
              rw [if_neg c46] at H
              have c46b0 : (x24_40 == 1) = false := beq_eq_false_iff_ne.mpr c46
              have c46b1 : (x24_40 != 1) = true := bne_iff_ne.mpr c46
              (first | rw [c46b0] | (simp only [i64_w, i32_w]; rw [c46b0]) | skip)
              have H' := Aside0.mk H
              clear H
              go_wp2
              go_meet
              case rel => exact ⟨_, (x20_2), (wrap64 (x22_2 + 1)), (by first | rfl | (simp; done) | (simp [*]; done)), (by first | rfl | (simp; done) | (simp [*]; done)), H', ⟨by have := HJ11.out; have := HK2.out; have := HJ35.out; have := HJ40.out; first | omega | exact Nat.le_refl _⟩, ⟨by (with_reducible repeat (first | apply Kd.R_alloc | apply Kd.R_drewN | apply Kd.R_drew)); exact HO_18.out⟩, ⟨by (with_reducible repeat (first | refine blk_drewN ?_ _ | refine blk_drew ?_ | refine blk_alloc ?_ _)); exact BK270.out⟩, ⟨by (with_reducible repeat (first | refine blk_drewN ?_ _ | refine blk_drew ?_ | refine blk_alloc ?_ _)); exact BK288.out⟩, ⟨by repeat (first | (with_reducible first | exact HB.out | apply below_alloc | apply pw_below_drewN | apply below_drew1 | refine below_set ?_ GE270.out | refine below_set ?_ GE288.out) | exact HB.out)⟩⟩
            case rest =>
             clear HC45
             try clear c1
             try clear c2
             try clear p2
             try clear q2
             try clear hx2
             try clear c3
             try clear c4
             try clear c5
             try clear p6
             try clear c10
             try clear c14
             try clear c15
             try clear c16
             try clear c20
             try clear c20b0
             try clear c20b1
             try clear c20b2
             try clear c23
             try clear c24
             try clear c27
             try clear p29
             try clear q29
             try clear hx29
             try clear c32
             try clear c34
             try clear c34b0
             try clear c38
             try clear c38b0
             try clear c39
             try clear c39b0
             try clear c40
             try clear c40b0
             try clear c42
             try clear c43
             try clear c43b0
             try clear c44
             try clear c44b0
             try clear c46
             try clear c46b0
             try clear c46b1
             try clear hcz16_0
             try clear hcz16_1
             try clear hcz16_2
             try clear hcz33_0
             try clear hcz33_1
             try clear hcz33_2
             try clear hcz33_3
             try clear hcz33_4
             try clear hfz16_0
             try clear hfz16_1
             try clear hfz16_2
             try clear hfz33_0
             try clear hfz33_1
             try clear hfz33_2
             try clear hfz33_3
             try clear hfz33_4
             try clear hx291_0
             try clear hx292_0
             try clear p2
             try clear p29
             try clear p291
             try clear p292
             try clear p6
             try clear q2
             try clear q29
             try clear q291
             try clear q292
             obtain ⟨kq, x20_44, x22_44, rfl, rfl, HA, HJ44, HO_18, BK270, BK288, HB⟩ := hcut
             cases kq with
             | zero => exact absurd HA.out (by simp [ambidextertop_TopTracking.j4])
             | succ kj44 =>
              have H := HA.out
              clear HA
              simp only [ambidextertop_TopTracking.j4] at H
              by_cases c47 : 0 ≤ x23_2
              ·
               rw [if_pos c47] at H
               have c47b0 : decide (0 ≤ x23_2) = true := decide_eq_true c47
               clear c47
               by_cases c48 : x23_2 < (t275.length : Int)
               ·
                rw [if_pos c48] at H
                have c48b0 : decide (x23_2 < (t275.length : Int)) = true := decide_eq_true c48
                clear c48
                replace H := Option.bind_eq_some_iff.mp H
                obtain ⟨⟨t294, t295, t296, t297, t298, t299⟩, A490, H⟩ := H
                replace H : (if t298 = true then (ambidextertop_TopTracking.j5 kj44 l5 true (Int.tmod (wrap64 (a3)) 421) t275 x19_2 x20_44 x22_44 x23_2 t299 true t267 t268 t269 t294 t295 t296 t297 t298) else (if t299 > (wrap64 (16 * t267)) then (ambidextertop_TopTracking.j5 kj44 l5 true (Int.tmod (wrap64 (a3)) 421) t275 x19_2 x20_44 x22_44 x23_2 t299 true t267 t268 t269 t294 t295 t296 t297 t298) else (ambidextertop_TopTracking.j5 kj44 l5 true (Int.tmod (wrap64 (a3)) 421) t275 x19_2 x20_44 x22_44 x23_2 t299 (decide (t299 < (wrap64 ((-16) * t267)))) t267 t268 t269 t294 t295 t296 t297 t298))) = some r := H
                have A49 := Aside0.mk A490
                clear A490
                have HC50 := Aside0.mk H
                clear H
                try go_wp2
                have n0_ := Aside0.mk (Kd.R_drew HO_18.out)
                have n1_ := Aside0.mk (blk_drew BK270.out)
                have n2_ := Aside0.mk (blk_drew BK288.out)
                have n3_ := Aside0.mk (below_drew1 HB.out)
                clear HO_18
                clear BK270
                clear BK288
                clear HB
                have HO_18 := n0_
                have BK270 := n1_
                have BK288 := n2_
                have HB := n3_
                clear n0_ n1_ n2_ n3_
                have p293 : 0 ≤ (x23_2 : Int) := of_decide_eq_true (by first | (with_reducible assumption) | assumption)
                have q293 : x23_2 < (t275.length : Int) := of_decide_eq_true (by first | (with_reducible assumption) | assumption)
                obtain ⟨ad293, e293, hx293_0, hx293_1, hx293_2⟩ := at_T33 (Kd.R_reads' HO_18.out).2.2 x23_2 p293 q293
                cases e293
                replace p293 := eq_true p293
                replace q293 := eq_true q293
                refine start_ (n := 15) (S := fun w' => w'.cell? ⟨gb288, 0, none⟩ = some (.int .i64 x289000_2) ∧ w'.cell? ⟨gb288, 1, none⟩ = some (.int .i64 x289001_2) ∧ w'.cell? ⟨gb288, 2, none⟩ = some (.int .i64 x289002_2) ∧ w'.cell? ⟨gb288, 3, none⟩ = some (.int .i64 x289003_2) ∧ w'.cell? ⟨gb288, 4, none⟩ = some (.bool x289004_2) ∧ w'.cell? (ad293.add ((x23_2).toNat * 3)) = some (.int .i64 ((rd_T33 t275 x23_2).f0)) ∧ w'.cell? ⟨(ad293.add ((x23_2).toNat * 3)).block, (ad293.add ((x23_2).toNat * 3)).off + 1, none⟩ = some (.int .i64 ((rd_T33 t275 x23_2).f1)) ∧ w'.cell? ⟨(ad293.add ((x23_2).toNat * 3)).block, (ad293.add ((x23_2).toNat * 3)).off + 2, none⟩ = some (.int .i64 ((rd_T33 t275 x23_2).f2))) (ds := []) #[false, false, false, false, false, false, false, false, false, false, false, false, false, false, false] (by kernel_rfl) rfl rfl ⟨(blk_cell BK288.out 0).trans rfl, (blk_cell BK288.out 1).trans rfl, (blk_cell BK288.out 2).trans rfl, (blk_cell BK288.out 3).trans rfl, (blk_cell BK288.out 4).trans rfl, hx293_0, hx293_1, hx293_2⟩ (fun hHeld => ?_); refine with_tabW ambidextertop_TopTracking.tab26 ambidextertop_TopTracking.bits26 (fun HT_ HW_ => ?_)
                generalize wc.drew = w51 at HO_18 BK270 BK288 HB hx293_0 hx293_1 hx293_2 hHeld ⊢
                refine pure_ (i := 1) (N := some 112) (v := ?_) (a' := ?_) #[false, true, false, false, false, false, false, false, false, false, false, false, false, false, false] rfl rfl (any_of HT_.out (by kernel_rfl)) (fun _ _ _ h => h) (Or.inl ⟨by rfl, ?_⟩) ?_ ?_
                rotate_left
                ·
                 intro w'
                 go_simp
                 with_reducible rfl
                rotate_left
                ·
                 simp only [Act.put, List.setIfInBounds_toArray, List.set_cons_zero, List.set_cons_succ, i64_w, i32_w]
                 rfl
                refine pure_ (i := 2) (N := some 113) (v := ?_) (a' := ?_) #[false, true, true, false, false, false, false, false, false, false, false, false, false, false, false] rfl rfl (any_of HT_.out (by kernel_rfl)) (fun _ _ _ h => h) (Or.inl ⟨by rfl, ?_⟩) ?_ ?_
                rotate_left
                ·
                 intro w'
                 go_simp
                 with_reducible rfl
                rotate_left
                ·
                 simp only [Act.put, List.setIfInBounds_toArray, List.set_cons_zero, List.set_cons_succ, i64_w, i32_w]
                 rfl
                refine pure_ (i := 3) (N := some 114) (v := ?_) (a' := ?_) #[false, true, true, true, false, false, false, false, false, false, false, false, false, false, false] rfl rfl (any_of HT_.out (by kernel_rfl)) (fun _ _ _ h => h) (Or.inl ⟨by rfl, ?_⟩) ?_ ?_
                rotate_left
                ·
                 intro w'
                 go_simp
                 with_reducible rfl
                rotate_left
                ·
                 simp only [Act.put, List.setIfInBounds_toArray, List.set_cons_zero, List.set_cons_succ, i64_w, i32_w]
                 rfl
                refine pure_ (i := 4) (N := some 115) (v := ?_) (a' := ?_) #[false, true, true, true, true, false, false, false, false, false, false, false, false, false, false] rfl rfl (any_of HT_.out (by kernel_rfl)) (fun _ _ _ h => h) (Or.inl ⟨by rfl, ?_⟩) ?_ ?_
                rotate_left
                ·
                 intro w'
                 go_simp
                 with_reducible rfl
                rotate_left
                ·
                 simp only [Act.put, List.setIfInBounds_toArray, List.set_cons_zero, List.set_cons_succ, i64_w, i32_w]
                 rfl
                refine pure_ (i := 5) (N := some 116) (v := ?_) (a' := ?_) #[false, true, true, true, true, true, false, false, false, false, false, false, false, false, false] rfl rfl (any_of HT_.out (by kernel_rfl)) (fun _ _ _ h => h) (Or.inl ⟨by rfl, ?_⟩) ?_ ?_
                rotate_left
                ·
                 intro w'
                 go_simp
                 with_reducible rfl
                rotate_left
                ·
                 simp only [Act.put, List.setIfInBounds_toArray, List.set_cons_zero, List.set_cons_succ, i64_w, i32_w]
                 rfl
                refine pure_ (i := 6) (N := some 117) (v := ?_) (a' := ?_) #[false, true, true, true, true, true, true, false, false, false, false, false, false, false, false] rfl rfl (any_of HT_.out (by kernel_rfl)) (fun _ _ _ h => h) (Or.inl ⟨by rfl, ?_⟩) ?_ ?_
                rotate_left
                ·
                 intro w'
                 go_simp
                 with_reducible rfl
                rotate_left
                ·
                 simp only [Act.put, List.setIfInBounds_toArray, List.set_cons_zero, List.set_cons_succ, i64_w, i32_w]
                 rfl
                refine take_ (i := 0) (N := some 111) (v := ?_) (a' := ?_) #[true, true, true, true, true, true, true, false, false, false, false, false, false, false, false] rfl rfl (take_ofW HT_.out HW_.out (by kernel_rfl)) (fun _ _ _ h => h) (Or.inl ⟨by rfl, ?_⟩) hHeld ?_ ?_
                rotate_left
                ·
                 rintro w' ⟨s0, s1, s2, s3, s4, s5, s6, s7⟩
                 go_simp
                 with_reducible rfl
                rotate_left
                ·
                 simp only [Act.put, List.setIfInBounds_toArray, List.set_cons_zero, List.set_cons_succ, i64_w, i32_w]
                 rfl
                refine take_ (i := 7) (N := some 118) (v := ?_) (a' := ?_) #[true, true, true, true, true, true, true, true, false, false, false, false, false, false, false] rfl rfl (take_ofW HT_.out HW_.out (by kernel_rfl)) (fun _ _ _ h => h) (Or.inl ⟨by rfl, ?_⟩) hHeld ?_ ?_
                rotate_left
                ·
                 rintro w' ⟨s0, s1, s2, s3, s4, s5, s6, s7⟩
                 go_simp
                 with_reducible rfl
                rotate_left
                ·
                 simp only [Act.put, List.setIfInBounds_toArray, List.set_cons_zero, List.set_cons_succ, i64_w, i32_w]
                 rfl
                refine join_ (σ := Nat) 2 #[true, true, true, true, true, true, true, true, true, true, true, true, true, false, false] (fun s_ => [(119, .tuple #[.agg #[.int .i64 t294, .int .i64 t295, .int .i64 t296, .int .i64 t297, .bool t298], .int .i64 t299]), (26, .pointer (some ⟨s_, 0, none⟩)), (110, .tuple #[.agg #[.int .i64 t294, .int .i64 t295, .int .i64 t296, .int .i64 t297, .bool t298], .int .i64 t299]), (120, .agg #[.int .i64 t294, .int .i64 t295, .int .i64 t296, .int .i64 t297, .bool t298]), (121, .int .i64 t299)]) (fun s_ w' => (w'.cell? ⟨gb288, 0, none⟩ = some (.int .i64 x289000_2) ∧ w'.cell? ⟨gb288, 1, none⟩ = some (.int .i64 x289001_2) ∧ w'.cell? ⟨gb288, 2, none⟩ = some (.int .i64 x289002_2) ∧ w'.cell? ⟨gb288, 3, none⟩ = some (.int .i64 x289003_2) ∧ w'.cell? ⟨gb288, 4, none⟩ = some (.bool x289004_2) ∧ w'.cell? (ad293.add ((x23_2).toNat * 3)) = some (.int .i64 ((rd_T33 t275 x23_2).f0)) ∧ w'.cell? ⟨(ad293.add ((x23_2).toNat * 3)).block, (ad293.add ((x23_2).toNat * 3)).off + 1, none⟩ = some (.int .i64 ((rd_T33 t275 x23_2).f1)) ∧ w'.cell? ⟨(ad293.add ((x23_2).toNat * 3)).block, (ad293.add ((x23_2).toNat * 3)).off + 2, none⟩ = some (.int .i64 ((rd_T33 t275 x23_2).f2))) ∧ (Kd.R k33 33 w' w.heap.size (fun _ => True) (.slice (some ad293) t275.length co37) t275) ∧ (w'.heap[gb270]? = some (.cells #[.int .i64 t267, .int .i64 t268, .int .i64 t269] 25 (0, 0))) ∧ (w'.heap[gb288]? = some (.cells #[.int .i64 x289000_2, .int .i64 x289001_2, .int .i64 x289002_2, .int .i64 x289003_2, .bool x289004_2] 45 (0, 0))) ∧ (w'.heap[s_]? = some (.cells #[.int .i64 0, .int .i64 0, .int .i64 0, .int .i64 0, .bool false] 45 (0, 0))) ∧ (w.heap.size ≤ s_) ∧ (w.heap.size ≤ s_) ∧ (gb270 ≠ s_) ∧ (s_ ≠ gb270) ∧ (gb288 ≠ s_) ∧ (s_ ≠ gb288) ∧ (Below w.heap.size w w')) ?_ ?_
                rotate_left
                ·
                 intro hCont
                 refine two_ (i := 8) (j := 12) (Ni := some 119) (Nj := some 26) #[true, true, true, true, true, true, true, true, true, false, false, false, false, false, false] #[true, true, true, true, true, true, true, true, false, false, false, false, true, false, false] rfl rfl rfl rfl (two_of HT_.out (by kernel_rfl)) (by decide) (by decide) (fun K hK => ?_) (fun K hK => ?_)
                 ·
                  skip
                  refine goes_ Try.func25 (by kernel_rfl) rfl #[.agg #[.int .i64 x289000_2, .int .i64 x289001_2, .int .i64 x289002_2, .int .i64 x289003_2, .bool x289004_2], .int .i64 x24_40, .int .i64 x25_40, .int .i64 ((rd_T33 t275 x23_2).f0)] (by rfl) rfl rfl (by (try simp only [List.map_toArray, List.map_cons, List.map_nil]); first | done | rfl | (simp only [List.length_drop, List.length_take]; rfl)) ?_
                  with_reducible refine (servo_Step.calls x289000_2 x289001_2 x289002_2 x289003_2 x289004_2 x24_40 x25_40 ((rd_T33 t275 x23_2).f0) t294 t295 t296 t297 t298 t299 _ A49.out).mono ?_
                  rintro e w52 ⟨rfl, hb⟩
                  have HS5_ := (hb.cell (World.block_lt_of_cell? _ _ (hHeld.2.2.2.2.2.1))).trans (hHeld.2.2.2.2.2.1)
                  have HS6_ := (hb.cell (World.block_lt_of_cell? _ _ (hHeld.2.2.2.2.2.2.1))).trans (hHeld.2.2.2.2.2.2.1)
                  have HS7_ := (hb.cell (World.block_lt_of_cell? _ _ (hHeld.2.2.2.2.2.2.2))).trans (hHeld.2.2.2.2.2.2.2)
                  refine ⟨_, rfl, ?_⟩
                  have n0_ := Aside0.mk (Kd.R_below (by (with_reducible repeat (first | apply Kd.R_alloc | apply Kd.R_drewN | apply Kd.R_drew)); exact HO_18.out) hb)
                  have n1_ := Aside0.mk (blk_below (g := gb270) (o := .cells #[.int .i64 t267, .int .i64 t268, .int .i64 t269] 25 (0, 0)) (by (with_reducible repeat (first | refine blk_drewN ?_ _ | refine blk_drew ?_ | refine blk_alloc ?_ _)); exact BK270.out) hb)
                  have n2_ := Aside0.mk (blk_below (g := gb288) (o := .cells #[.int .i64 x289000_2, .int .i64 x289001_2, .int .i64 x289002_2, .int .i64 x289003_2, .bool x289004_2] 45 (0, 0)) (by (with_reducible repeat (first | refine blk_drewN ?_ _ | refine blk_drew ?_ | refine blk_alloc ?_ _)); exact BK288.out) hb)
                  have n3_ := Aside0.mk (below_step (by repeat (first | (with_reducible first | exact HB.out | apply below_alloc | apply pw_below_drewN | apply below_drew1 | refine below_set ?_ GE270.out | refine below_set ?_ GE288.out) | exact HB.out)) hb)
                  clear HO_18
                  clear BK270
                  clear BK288
                  clear HB
                  have HO_18 := n0_
                  have BK270 := n1_
                  have BK288 := n2_
                  have HB := n3_
                  clear n0_ n1_ n2_ n3_
                  (try clear hb)
                  (try clear hb2)
                  (try clear hk)
                  (try clear hi)
                  refine hK.out _ _ ⟨(blk_cell BK288.out 0).trans rfl, (blk_cell BK288.out 1).trans rfl, (blk_cell BK288.out 2).trans rfl, (blk_cell BK288.out 3).trans rfl, (blk_cell BK288.out 4).trans rfl, HS5_, HS6_, HS7_⟩ (fun hHeld => ?_)
                  clear hK K
                  refine norm_ (a' := ?_) ?_ ?_
                  rotate_left
                  ·
                   show Act.put _ (some 119) _ = _
                   simp only [Act.put, List.setIfInBounds_toArray, List.set_cons_zero, List.set_cons_succ, i64_w, i32_w]
                   rfl
                  refine pure_ (i := 9) (N := some 110) (v := ?_) (a' := ?_) #[true, true, true, true, true, true, true, true, true, true, false, false, false, false, false] rfl rfl (any_of HT_.out (by kernel_rfl)) (fun _ _ _ h => h) (Or.inl ⟨by rfl, ?_⟩) ?_ ?_
                  rotate_left
                  ·
                   intro w'
                   go_simp
                   with_reducible rfl
                  rotate_left
                  ·
                   simp only [Act.put, List.setIfInBounds_toArray, List.set_cons_zero, List.set_cons_succ, i64_w, i32_w]
                   rfl
                  refine pure_ (i := 10) (N := some 120) (v := ?_) (a' := ?_) #[true, true, true, true, true, true, true, true, true, true, true, false, false, false, false] rfl rfl (any_of HT_.out (by kernel_rfl)) (fun _ _ _ h => h) (Or.inl ⟨by rfl, ?_⟩) ?_ ?_
                  rotate_left
                  ·
                   intro w'
                   go_simp
                   with_reducible rfl
                  rotate_left
                  ·
                   simp only [Act.put, List.setIfInBounds_toArray, List.set_cons_zero, List.set_cons_succ, i64_w, i32_w]
                   rfl
                  refine pure_ (i := 11) (N := some 121) (v := ?_) (a' := ?_) #[true, true, true, true, true, true, true, true, true, true, true, true, false, false, false] rfl rfl (any_of HT_.out (by kernel_rfl)) (fun _ _ _ h => h) (Or.inl ⟨by rfl, ?_⟩) ?_ ?_
                  rotate_left
                  ·
                   intro w'
                   go_simp
                   with_reducible rfl
                  rotate_left
                  ·
                   simp only [Act.put, List.setIfInBounds_toArray, List.set_cons_zero, List.set_cons_succ, i64_w, i32_w]
                   rfl
                  refine one_ (i := 12) (N := some 26) #[true, true, true, true, true, true, true, true, true, true, true, true, true, false, false] rfl rfl (one_of HT_.out (by kernel_rfl)) (by decide) (fun K hK => ?_)
                  refine box_step ?hg (N := 26) ?hd (cs := #[.int .i64 0, .int .i64 0, .int .i64 0, .int .i64 0, .bool false]) (t := 45) ?hr ?_; (case hd => rfl); (case hg => rfl); (case hr => first | (go_simp; done) | (go_simp; rfl))
                  intro gb300 hg w53 hbox hb
                  have HS5_ := (hb.cell (World.block_lt_of_cell? _ _ (hHeld.2.2.2.2.2.1))).trans (hHeld.2.2.2.2.2.1)
                  have HS6_ := (hb.cell (World.block_lt_of_cell? _ _ (hHeld.2.2.2.2.2.2.1))).trans (hHeld.2.2.2.2.2.2.1)
                  have HS7_ := (hb.cell (World.block_lt_of_cell? _ _ (hHeld.2.2.2.2.2.2.2))).trans (hHeld.2.2.2.2.2.2.2)
                  have n0_ := Aside0.mk (Kd.R_below (by (with_reducible repeat (first | apply Kd.R_alloc | apply Kd.R_drewN | apply Kd.R_drew)); exact HO_18.out) hb)
                  have n1_ := Aside0.mk (blk_below (g := gb270) (o := .cells #[.int .i64 t267, .int .i64 t268, .int .i64 t269] 25 (0, 0)) (by (with_reducible repeat (first | refine blk_drewN ?_ _ | refine blk_drew ?_ | refine blk_alloc ?_ _)); exact BK270.out) hb)
                  have n2_ := Aside0.mk (blk_below (g := gb288) (o := .cells #[.int .i64 x289000_2, .int .i64 x289001_2, .int .i64 x289002_2, .int .i64 x289003_2, .bool x289004_2] 45 (0, 0)) (by (with_reducible repeat (first | refine blk_drewN ?_ _ | refine blk_drew ?_ | refine blk_alloc ?_ _)); exact BK288.out) hb)
                  have n3_ := Aside0.mk (below_step (by repeat (first | (with_reducible first | exact HB.out | apply below_alloc | apply pw_below_drewN | apply below_drew1 | refine below_set ?_ GE270.out | refine below_set ?_ GE288.out) | exact HB.out)) hb)
                  have n4_ := Aside0.mk (hbox)
                  have n5_ := Aside0.mk ((by rw [hg]; exact (below_size (by repeat (first | (with_reducible first | exact HB.out | apply below_alloc | apply pw_below_drewN | apply below_drew1 | refine below_set ?_ GE270.out | refine below_set ?_ GE288.out) | exact HB.out))) : w.heap.size ≤ gb300))
                  have n6_ := Aside0.mk ((by rw [hg]; exact (below_size (by repeat (first | (with_reducible first | exact HB.out | apply below_alloc | apply pw_below_drewN | apply below_drew1 | refine below_set ?_ GE270.out | refine below_set ?_ GE288.out) | exact HB.out))) : w.heap.size ≤ gb300))
                  have n7_ := Aside0.mk ((by rw [hg]; exact Nat.ne_of_lt (blk_lt (g := gb270) (o := .cells #[.int .i64 t267, .int .i64 t268, .int .i64 t269] 25 (0, 0)) (by (with_reducible repeat (first | refine blk_drewN ?_ _ | refine blk_drew ?_ | refine blk_alloc ?_ _)); exact BK270.out)) : gb270 ≠ gb300))
                  have n8_ := Aside0.mk ((by rw [hg]; exact Nat.ne_of_gt (blk_lt (g := gb270) (o := .cells #[.int .i64 t267, .int .i64 t268, .int .i64 t269] 25 (0, 0)) (by (with_reducible repeat (first | refine blk_drewN ?_ _ | refine blk_drew ?_ | refine blk_alloc ?_ _)); exact BK270.out)) : gb300 ≠ gb270))
                  have n9_ := Aside0.mk ((by rw [hg]; exact Nat.ne_of_lt (blk_lt (g := gb288) (o := .cells #[.int .i64 x289000_2, .int .i64 x289001_2, .int .i64 x289002_2, .int .i64 x289003_2, .bool x289004_2] 45 (0, 0)) (by (with_reducible repeat (first | refine blk_drewN ?_ _ | refine blk_drew ?_ | refine blk_alloc ?_ _)); exact BK288.out)) : gb288 ≠ gb300))
                  have n10_ := Aside0.mk ((by rw [hg]; exact Nat.ne_of_gt (blk_lt (g := gb288) (o := .cells #[.int .i64 x289000_2, .int .i64 x289001_2, .int .i64 x289002_2, .int .i64 x289003_2, .bool x289004_2] 45 (0, 0)) (by (with_reducible repeat (first | refine blk_drewN ?_ _ | refine blk_drew ?_ | refine blk_alloc ?_ _)); exact BK288.out)) : gb300 ≠ gb288))
                  clear HO_18
                  clear BK270
                  clear BK288
                  clear HB
                  have HO_18 := n0_
                  have BK270 := n1_
                  have BK288 := n2_
                  have HB := n3_
                  have BK300 := n4_
                  have GW300 := n5_
                  have GE300 := n6_
                  have NB270_300 := n7_
                  have NB300_270 := n8_
                  have NB288_300 := n9_
                  have NB300_288 := n10_
                  clear n0_ n1_ n2_ n3_ n4_ n5_ n6_ n7_ n8_ n9_ n10_
                  clear hb hbox hg
                  refine hK.out _ _ ⟨(blk_cell BK288.out 0).trans rfl, (blk_cell BK288.out 1).trans rfl, (blk_cell BK288.out 2).trans rfl, (blk_cell BK288.out 3).trans rfl, (blk_cell BK288.out 4).trans rfl, HS5_, HS6_, HS7_⟩ (fun hHeld => ?_)
                  clear hK K
                  refine norm_ (a' := ?_) ?_ ?_
                  rotate_left
                  ·
                   show Act.put _ (some 26) _ = _
                   simp only [Act.put, List.setIfInBounds_toArray, List.set_cons_zero, List.set_cons_succ, i64_w, i32_w]
                   rfl
                  exact norm_ (by simp only [putAll, Act.put, List.setIfInBounds_toArray, List.set_cons_zero, List.set_cons_succ]) (hCont (gb300) _ ⟨hHeld, (by (with_reducible repeat (first | apply Kd.R_alloc | apply Kd.R_drewN | apply Kd.R_drew)); exact HO_18.out), (by (with_reducible repeat (first | refine blk_drewN ?_ _ | refine blk_drew ?_ | refine blk_alloc ?_ _)); exact BK270.out), (by (with_reducible repeat (first | refine blk_drewN ?_ _ | refine blk_drew ?_ | refine blk_alloc ?_ _)); exact BK288.out), (by (with_reducible repeat (first | refine blk_drewN ?_ _ | refine blk_drew ?_ | refine blk_alloc ?_ _)); exact BK300.out), GW300.out, GE300.out, NB270_300.out, NB300_270.out, NB288_300.out, NB300_288.out, (by repeat (first | (with_reducible first | exact HB.out | apply below_alloc | apply pw_below_drewN | apply below_drew1 | refine below_set ?_ GE270.out | refine below_set ?_ GE288.out | refine below_set ?_ GE300.out) | exact HB.out))⟩)
                 ·
                  skip
                  refine box_step ?hg (N := 26) ?hd (cs := #[.int .i64 0, .int .i64 0, .int .i64 0, .int .i64 0, .bool false]) (t := 45) ?hr ?_; (case hd => rfl); (case hg => rfl); (case hr => first | (go_simp; done) | (go_simp; rfl))
                  intro gb300 hg w52 hbox hb
                  have HS5_ := (hb.cell (World.block_lt_of_cell? _ _ (hHeld.2.2.2.2.2.1))).trans (hHeld.2.2.2.2.2.1)
                  have HS6_ := (hb.cell (World.block_lt_of_cell? _ _ (hHeld.2.2.2.2.2.2.1))).trans (hHeld.2.2.2.2.2.2.1)
                  have HS7_ := (hb.cell (World.block_lt_of_cell? _ _ (hHeld.2.2.2.2.2.2.2))).trans (hHeld.2.2.2.2.2.2.2)
                  have n0_ := Aside0.mk (Kd.R_below (by (with_reducible repeat (first | apply Kd.R_alloc | apply Kd.R_drewN | apply Kd.R_drew)); exact HO_18.out) hb)
                  have n1_ := Aside0.mk (blk_below (g := gb270) (o := .cells #[.int .i64 t267, .int .i64 t268, .int .i64 t269] 25 (0, 0)) (by (with_reducible repeat (first | refine blk_drewN ?_ _ | refine blk_drew ?_ | refine blk_alloc ?_ _)); exact BK270.out) hb)
                  have n2_ := Aside0.mk (blk_below (g := gb288) (o := .cells #[.int .i64 x289000_2, .int .i64 x289001_2, .int .i64 x289002_2, .int .i64 x289003_2, .bool x289004_2] 45 (0, 0)) (by (with_reducible repeat (first | refine blk_drewN ?_ _ | refine blk_drew ?_ | refine blk_alloc ?_ _)); exact BK288.out) hb)
                  have n3_ := Aside0.mk (below_step (by repeat (first | (with_reducible first | exact HB.out | apply below_alloc | apply pw_below_drewN | apply below_drew1 | refine below_set ?_ GE270.out | refine below_set ?_ GE288.out) | exact HB.out)) hb)
                  have n4_ := Aside0.mk (hbox)
                  have n5_ := Aside0.mk ((by rw [hg]; exact (below_size (by repeat (first | (with_reducible first | exact HB.out | apply below_alloc | apply pw_below_drewN | apply below_drew1 | refine below_set ?_ GE270.out | refine below_set ?_ GE288.out) | exact HB.out))) : w.heap.size ≤ gb300))
                  have n6_ := Aside0.mk ((by rw [hg]; exact (below_size (by repeat (first | (with_reducible first | exact HB.out | apply below_alloc | apply pw_below_drewN | apply below_drew1 | refine below_set ?_ GE270.out | refine below_set ?_ GE288.out) | exact HB.out))) : w.heap.size ≤ gb300))
                  have n7_ := Aside0.mk ((by rw [hg]; exact Nat.ne_of_lt (blk_lt (g := gb270) (o := .cells #[.int .i64 t267, .int .i64 t268, .int .i64 t269] 25 (0, 0)) (by (with_reducible repeat (first | refine blk_drewN ?_ _ | refine blk_drew ?_ | refine blk_alloc ?_ _)); exact BK270.out)) : gb270 ≠ gb300))
                  have n8_ := Aside0.mk ((by rw [hg]; exact Nat.ne_of_gt (blk_lt (g := gb270) (o := .cells #[.int .i64 t267, .int .i64 t268, .int .i64 t269] 25 (0, 0)) (by (with_reducible repeat (first | refine blk_drewN ?_ _ | refine blk_drew ?_ | refine blk_alloc ?_ _)); exact BK270.out)) : gb300 ≠ gb270))
                  have n9_ := Aside0.mk ((by rw [hg]; exact Nat.ne_of_lt (blk_lt (g := gb288) (o := .cells #[.int .i64 x289000_2, .int .i64 x289001_2, .int .i64 x289002_2, .int .i64 x289003_2, .bool x289004_2] 45 (0, 0)) (by (with_reducible repeat (first | refine blk_drewN ?_ _ | refine blk_drew ?_ | refine blk_alloc ?_ _)); exact BK288.out)) : gb288 ≠ gb300))
                  have n10_ := Aside0.mk ((by rw [hg]; exact Nat.ne_of_gt (blk_lt (g := gb288) (o := .cells #[.int .i64 x289000_2, .int .i64 x289001_2, .int .i64 x289002_2, .int .i64 x289003_2, .bool x289004_2] 45 (0, 0)) (by (with_reducible repeat (first | refine blk_drewN ?_ _ | refine blk_drew ?_ | refine blk_alloc ?_ _)); exact BK288.out)) : gb300 ≠ gb288))
                  clear HO_18
                  clear BK270
                  clear BK288
                  clear HB
                  have HO_18 := n0_
                  have BK270 := n1_
                  have BK288 := n2_
                  have HB := n3_
                  have BK300 := n4_
                  have GW300 := n5_
                  have GE300 := n6_
                  have NB270_300 := n7_
                  have NB300_270 := n8_
                  have NB288_300 := n9_
                  have NB300_288 := n10_
                  clear n0_ n1_ n2_ n3_ n4_ n5_ n6_ n7_ n8_ n9_ n10_
                  clear hb hbox hg
                  refine hK.out _ _ ⟨(blk_cell BK288.out 0).trans rfl, (blk_cell BK288.out 1).trans rfl, (blk_cell BK288.out 2).trans rfl, (blk_cell BK288.out 3).trans rfl, (blk_cell BK288.out 4).trans rfl, HS5_, HS6_, HS7_⟩ (fun hHeld => ?_)
                  clear hK K
                  refine norm_ (a' := ?_) ?_ ?_
                  rotate_left
                  ·
                   show Act.put _ (some 26) _ = _
                   simp only [Act.put, List.setIfInBounds_toArray, List.set_cons_zero, List.set_cons_succ, i64_w, i32_w]
                   rfl
                  refine one_ (i := 8) (N := some 119) #[true, true, true, true, true, true, true, true, true, false, false, false, true, false, false] rfl rfl (one_of HT_.out (by kernel_rfl)) (by decide) (fun K hK => ?_)
                  refine goes_ Try.func25 (by kernel_rfl) rfl #[.agg #[.int .i64 x289000_2, .int .i64 x289001_2, .int .i64 x289002_2, .int .i64 x289003_2, .bool x289004_2], .int .i64 x24_40, .int .i64 x25_40, .int .i64 ((rd_T33 t275 x23_2).f0)] (by rfl) rfl rfl (by (try simp only [List.map_toArray, List.map_cons, List.map_nil]); first | done | rfl | (simp only [List.length_drop, List.length_take]; rfl)) ?_
                  with_reducible refine (servo_Step.calls x289000_2 x289001_2 x289002_2 x289003_2 x289004_2 x24_40 x25_40 ((rd_T33 t275 x23_2).f0) t294 t295 t296 t297 t298 t299 _ A49.out).mono ?_
                  rintro e w53 ⟨rfl, hb⟩
                  have HS5_ := (hb.cell (World.block_lt_of_cell? _ _ (hHeld.2.2.2.2.2.1))).trans (hHeld.2.2.2.2.2.1)
                  have HS6_ := (hb.cell (World.block_lt_of_cell? _ _ (hHeld.2.2.2.2.2.2.1))).trans (hHeld.2.2.2.2.2.2.1)
                  have HS7_ := (hb.cell (World.block_lt_of_cell? _ _ (hHeld.2.2.2.2.2.2.2))).trans (hHeld.2.2.2.2.2.2.2)
                  refine ⟨_, rfl, ?_⟩
                  have n0_ := Aside0.mk (Kd.R_below (by (with_reducible repeat (first | apply Kd.R_alloc | apply Kd.R_drewN | apply Kd.R_drew)); exact HO_18.out) hb)
                  have n1_ := Aside0.mk (blk_below (g := gb270) (o := .cells #[.int .i64 t267, .int .i64 t268, .int .i64 t269] 25 (0, 0)) (by (with_reducible repeat (first | refine blk_drewN ?_ _ | refine blk_drew ?_ | refine blk_alloc ?_ _)); exact BK270.out) hb)
                  have n2_ := Aside0.mk (blk_below (g := gb288) (o := .cells #[.int .i64 x289000_2, .int .i64 x289001_2, .int .i64 x289002_2, .int .i64 x289003_2, .bool x289004_2] 45 (0, 0)) (by (with_reducible repeat (first | refine blk_drewN ?_ _ | refine blk_drew ?_ | refine blk_alloc ?_ _)); exact BK288.out) hb)
                  have n3_ := Aside0.mk (blk_below (g := gb300) (o := .cells #[.int .i64 0, .int .i64 0, .int .i64 0, .int .i64 0, .bool false] 45 (0, 0)) (by (with_reducible repeat (first | refine blk_drewN ?_ _ | refine blk_drew ?_ | refine blk_alloc ?_ _)); exact BK300.out) hb)
                  have n4_ := Aside0.mk (below_step (by repeat (first | (with_reducible first | exact HB.out | apply below_alloc | apply pw_below_drewN | apply below_drew1 | refine below_set ?_ GE270.out | refine below_set ?_ GE288.out | refine below_set ?_ GE300.out) | exact HB.out)) hb)
                  clear HO_18
                  clear BK270
                  clear BK288
                  clear BK300
                  clear HB
                  have HO_18 := n0_
                  have BK270 := n1_
                  have BK288 := n2_
                  have BK300 := n3_
                  have HB := n4_
                  clear n0_ n1_ n2_ n3_ n4_
                  (try clear hb)
                  (try clear hb2)
                  (try clear hk)
                  (try clear hi)
                  refine hK.out _ _ ⟨(blk_cell BK288.out 0).trans rfl, (blk_cell BK288.out 1).trans rfl, (blk_cell BK288.out 2).trans rfl, (blk_cell BK288.out 3).trans rfl, (blk_cell BK288.out 4).trans rfl, HS5_, HS6_, HS7_⟩ (fun hHeld => ?_)
                  clear hK K
                  refine norm_ (a' := ?_) ?_ ?_
                  rotate_left
                  ·
                   show Act.put _ (some 119) _ = _
                   simp only [Act.put, List.setIfInBounds_toArray, List.set_cons_zero, List.set_cons_succ, i64_w, i32_w]
                   rfl
                  refine pure_ (i := 9) (N := some 110) (v := ?_) (a' := ?_) #[true, true, true, true, true, true, true, true, true, true, false, false, true, false, false] rfl rfl (any_of HT_.out (by kernel_rfl)) (fun _ _ _ h => h) (Or.inl ⟨by rfl, ?_⟩) ?_ ?_
                  rotate_left
                  ·
                   intro w'
                   go_simp
                   with_reducible rfl
                  rotate_left
                  ·
                   simp only [Act.put, List.setIfInBounds_toArray, List.set_cons_zero, List.set_cons_succ, i64_w, i32_w]
                   rfl
                  refine pure_ (i := 10) (N := some 120) (v := ?_) (a' := ?_) #[true, true, true, true, true, true, true, true, true, true, true, false, true, false, false] rfl rfl (any_of HT_.out (by kernel_rfl)) (fun _ _ _ h => h) (Or.inl ⟨by rfl, ?_⟩) ?_ ?_
                  rotate_left
                  ·
                   intro w'
                   go_simp
                   with_reducible rfl
                  rotate_left
                  ·
                   simp only [Act.put, List.setIfInBounds_toArray, List.set_cons_zero, List.set_cons_succ, i64_w, i32_w]
                   rfl
                  refine pure_ (i := 11) (N := some 121) (v := ?_) (a' := ?_) #[true, true, true, true, true, true, true, true, true, true, true, true, true, false, false] rfl rfl (any_of HT_.out (by kernel_rfl)) (fun _ _ _ h => h) (Or.inl ⟨by rfl, ?_⟩) ?_ ?_
                  rotate_left
                  ·
                   intro w'
                   go_simp
                   with_reducible rfl
                  rotate_left
                  ·
                   simp only [Act.put, List.setIfInBounds_toArray, List.set_cons_zero, List.set_cons_succ, i64_w, i32_w]
                   rfl
                  exact norm_ (by simp only [putAll, Act.put, List.setIfInBounds_toArray, List.set_cons_zero, List.set_cons_succ]) (hCont (gb300) _ ⟨hHeld, (by (with_reducible repeat (first | apply Kd.R_alloc | apply Kd.R_drewN | apply Kd.R_drew)); exact HO_18.out), (by (with_reducible repeat (first | refine blk_drewN ?_ _ | refine blk_drew ?_ | refine blk_alloc ?_ _)); exact BK270.out), (by (with_reducible repeat (first | refine blk_drewN ?_ _ | refine blk_drew ?_ | refine blk_alloc ?_ _)); exact BK288.out), (by (with_reducible repeat (first | refine blk_drewN ?_ _ | refine blk_drew ?_ | refine blk_alloc ?_ _)); exact BK300.out), GW300.out, GE300.out, NB270_300.out, NB300_270.out, NB288_300.out, NB300_288.out, (by repeat (first | (with_reducible first | exact HB.out | apply below_alloc | apply pw_below_drewN | apply below_drew1 | refine below_set ?_ GE270.out | refine below_set ?_ GE288.out | refine below_set ?_ GE300.out) | exact HB.out))⟩)
                rintro gb300 w54 ⟨hS_, h0_, h1_, h2_, h3_, h4_, h5_, h6_, h7_, h8_, h9_, h10_⟩
                have n0_ : Aside0 (Kd.R k33 33 w54 w.heap.size (fun _ => True) (.slice (some ad293) t275.length co37) t275) := ⟨h0_⟩
                have n1_ : Aside0 (w54.heap[gb270]? = some (.cells #[.int .i64 t267, .int .i64 t268, .int .i64 t269] 25 (0, 0))) := ⟨h1_⟩
                have n2_ : Aside0 (w54.heap[gb288]? = some (.cells #[.int .i64 x289000_2, .int .i64 x289001_2, .int .i64 x289002_2, .int .i64 x289003_2, .bool x289004_2] 45 (0, 0))) := ⟨h2_⟩
                have n3_ : Aside0 (w54.heap[gb300]? = some (.cells #[.int .i64 0, .int .i64 0, .int .i64 0, .int .i64 0, .bool false] 45 (0, 0))) := ⟨h3_⟩
                have n4_ : Aside0 (w.heap.size ≤ gb300) := ⟨h4_⟩
                have n5_ : Aside0 (w.heap.size ≤ gb300) := ⟨h5_⟩
                have n6_ : Aside0 (gb270 ≠ gb300) := ⟨h6_⟩
                have n7_ : Aside0 (gb300 ≠ gb270) := ⟨h7_⟩
                have n8_ : Aside0 (gb288 ≠ gb300) := ⟨h8_⟩
                have n9_ : Aside0 (gb300 ≠ gb288) := ⟨h9_⟩
                have n10_ : Aside0 (Below w.heap.size w w54) := ⟨h10_⟩
                clear HO_18
                clear BK270
                clear BK288
                clear HB
                clear h0_ h1_ h2_ h3_ h4_ h5_ h6_ h7_ h8_ h9_ h10_
                have HO_18 := n0_
                have BK270 := n1_
                have BK288 := n2_
                have BK300 := n3_
                have GW300 := n4_
                have GE300 := n5_
                have NB270_300 := n6_
                have NB300_270 := n7_
                have NB288_300 := n8_
                have NB300_288 := n9_
                have HB := n10_
                clear n0_ n1_ n2_ n3_ n4_ n5_ n6_ n7_ n8_ n9_ n10_
                have hHeld : w54.cell? ⟨gb288, 0, none⟩ = some (.int .i64 x289000_2) ∧ w54.cell? ⟨gb288, 1, none⟩ = some (.int .i64 x289001_2) ∧ w54.cell? ⟨gb288, 2, none⟩ = some (.int .i64 x289002_2) ∧ w54.cell? ⟨gb288, 3, none⟩ = some (.int .i64 x289003_2) ∧ w54.cell? ⟨gb288, 4, none⟩ = some (.bool x289004_2) ∧ w54.cell? (ad293.add ((x23_2).toNat * 3)) = some (.int .i64 ((rd_T33 t275 x23_2).f0)) ∧ w54.cell? ⟨(ad293.add ((x23_2).toNat * 3)).block, (ad293.add ((x23_2).toNat * 3)).off + 1, none⟩ = some (.int .i64 ((rd_T33 t275 x23_2).f1)) ∧ w54.cell? ⟨(ad293.add ((x23_2).toNat * 3)).block, (ad293.add ((x23_2).toNat * 3)).off + 2, none⟩ = some (.int .i64 ((rd_T33 t275 x23_2).f2)) := hS_
                refine norm_ (a' := ?_) ?_ ?_
                rotate_left
                ·
                 simp only [putAll, Act.put, List.setIfInBounds_toArray, List.set_cons_zero, List.set_cons_succ]
                 rfl
                refine one_ (i := 13) (N := none) #[true, true, true, true, true, true, true, true, true, true, true, true, true, true, false] rfl rfl (one_of HT_.out (by kernel_rfl)) (by decide) (fun K hK => ?_)
                have hs55 : w54.cell? ⟨gb300, 0, none⟩ = some (.int .i64 0) := (blk_cell BK300.out 0).trans rfl
                have hfs55 := blk_frozen BK300.out 0
                have hns55_0 := NB270_300.out
                have hns55_1 := NB288_300.out
                have hms55_0 := NB300_270.out
                have hms55_1 := NB300_288.out
                have hs56 : w54.cell? ⟨gb300, 1, none⟩ = some (.int .i64 0) := (blk_cell BK300.out 1).trans rfl
                have hfs56 := blk_frozen BK300.out 1
                have hns56_0 := NB270_300.out
                have hns56_1 := NB288_300.out
                have hms56_0 := NB300_270.out
                have hms56_1 := NB300_288.out
                have hs57 : w54.cell? ⟨gb300, 2, none⟩ = some (.int .i64 0) := (blk_cell BK300.out 2).trans rfl
                have hfs57 := blk_frozen BK300.out 2
                have hns57_0 := NB270_300.out
                have hns57_1 := NB288_300.out
                have hms57_0 := NB300_270.out
                have hms57_1 := NB300_288.out
                have hs58 : w54.cell? ⟨gb300, 3, none⟩ = some (.int .i64 0) := (blk_cell BK300.out 3).trans rfl
                have hfs58 := blk_frozen BK300.out 3
                have hns58_0 := NB270_300.out
                have hns58_1 := NB288_300.out
                have hms58_0 := NB300_270.out
                have hms58_1 := NB300_288.out
                have hs59 : w54.cell? ⟨gb300, 4, none⟩ = some (.bool false) := (blk_cell BK300.out 4).trans rfl
                have hfs59 := blk_frozen BK300.out 4
                have hns59_0 := NB270_300.out
                have hns59_1 := NB288_300.out
                have hms59_0 := NB300_270.out
                have hms59_1 := NB300_288.out
                refine skip_ (w1 := ?_) (by rfl) rfl ?_ ?_
                rotate_left
                ·
                 go_simp
                 rfl
                refine hK.out _ _ ⟨((cell_far (p := ⟨gb300, _, none⟩) NB288_300.out _).trans (((cell_far (p := ⟨gb300, _, none⟩) NB288_300.out _).trans (((cell_far (p := ⟨gb300, _, none⟩) NB288_300.out _).trans (((cell_far (p := ⟨gb300, _, none⟩) NB288_300.out _).trans (((cell_far (p := ⟨gb300, _, none⟩) NB288_300.out _).trans (hHeld.1)))))))))), ((cell_far (p := ⟨gb300, _, none⟩) NB288_300.out _).trans (((cell_far (p := ⟨gb300, _, none⟩) NB288_300.out _).trans (((cell_far (p := ⟨gb300, _, none⟩) NB288_300.out _).trans (((cell_far (p := ⟨gb300, _, none⟩) NB288_300.out _).trans (((cell_far (p := ⟨gb300, _, none⟩) NB288_300.out _).trans (hHeld.2.1)))))))))), ((cell_far (p := ⟨gb300, _, none⟩) NB288_300.out _).trans (((cell_far (p := ⟨gb300, _, none⟩) NB288_300.out _).trans (((cell_far (p := ⟨gb300, _, none⟩) NB288_300.out _).trans (((cell_far (p := ⟨gb300, _, none⟩) NB288_300.out _).trans (((cell_far (p := ⟨gb300, _, none⟩) NB288_300.out _).trans (hHeld.2.2.1)))))))))), ((cell_far (p := ⟨gb300, _, none⟩) NB288_300.out _).trans (((cell_far (p := ⟨gb300, _, none⟩) NB288_300.out _).trans (((cell_far (p := ⟨gb300, _, none⟩) NB288_300.out _).trans (((cell_far (p := ⟨gb300, _, none⟩) NB288_300.out _).trans (((cell_far (p := ⟨gb300, _, none⟩) NB288_300.out _).trans (hHeld.2.2.2.1)))))))))), ((cell_far (p := ⟨gb300, _, none⟩) NB288_300.out _).trans (((cell_far (p := ⟨gb300, _, none⟩) NB288_300.out _).trans (((cell_far (p := ⟨gb300, _, none⟩) NB288_300.out _).trans (((cell_far (p := ⟨gb300, _, none⟩) NB288_300.out _).trans (((cell_far (p := ⟨gb300, _, none⟩) NB288_300.out _).trans (hHeld.2.2.2.2.1)))))))))), ((cell_far (p := ⟨gb300, _, none⟩) (by first | exact Kd.own_blk (Kd.R_ne HO_18.out BK300.out (by decide)) | (rw [add_block]; exact Kd.own_blk (Kd.R_ne HO_18.out BK300.out (by decide))) | (show (Addr.add _ _).block ≠ _; rw [add_block]; exact Kd.own_blk (Kd.R_ne HO_18.out BK300.out (by decide))) | (dsimp only; exact Kd.own_blk (Kd.R_ne HO_18.out BK300.out (by decide)))) _).trans (((cell_far (p := ⟨gb300, _, none⟩) (by first | exact Kd.own_blk (Kd.R_ne HO_18.out BK300.out (by decide)) | (rw [add_block]; exact Kd.own_blk (Kd.R_ne HO_18.out BK300.out (by decide))) | (show (Addr.add _ _).block ≠ _; rw [add_block]; exact Kd.own_blk (Kd.R_ne HO_18.out BK300.out (by decide))) | (dsimp only; exact Kd.own_blk (Kd.R_ne HO_18.out BK300.out (by decide)))) _).trans (((cell_far (p := ⟨gb300, _, none⟩) (by first | exact Kd.own_blk (Kd.R_ne HO_18.out BK300.out (by decide)) | (rw [add_block]; exact Kd.own_blk (Kd.R_ne HO_18.out BK300.out (by decide))) | (show (Addr.add _ _).block ≠ _; rw [add_block]; exact Kd.own_blk (Kd.R_ne HO_18.out BK300.out (by decide))) | (dsimp only; exact Kd.own_blk (Kd.R_ne HO_18.out BK300.out (by decide)))) _).trans (((cell_far (p := ⟨gb300, _, none⟩) (by first | exact Kd.own_blk (Kd.R_ne HO_18.out BK300.out (by decide)) | (rw [add_block]; exact Kd.own_blk (Kd.R_ne HO_18.out BK300.out (by decide))) | (show (Addr.add _ _).block ≠ _; rw [add_block]; exact Kd.own_blk (Kd.R_ne HO_18.out BK300.out (by decide))) | (dsimp only; exact Kd.own_blk (Kd.R_ne HO_18.out BK300.out (by decide)))) _).trans (((cell_far (p := ⟨gb300, _, none⟩) (by first | exact Kd.own_blk (Kd.R_ne HO_18.out BK300.out (by decide)) | (rw [add_block]; exact Kd.own_blk (Kd.R_ne HO_18.out BK300.out (by decide))) | (show (Addr.add _ _).block ≠ _; rw [add_block]; exact Kd.own_blk (Kd.R_ne HO_18.out BK300.out (by decide))) | (dsimp only; exact Kd.own_blk (Kd.R_ne HO_18.out BK300.out (by decide)))) _).trans (hHeld.2.2.2.2.2.1)))))))))), ((cell_far (p := ⟨gb300, _, none⟩) (by first | exact Kd.own_blk (Kd.R_ne HO_18.out BK300.out (by decide)) | (rw [add_block]; exact Kd.own_blk (Kd.R_ne HO_18.out BK300.out (by decide))) | (show (Addr.add _ _).block ≠ _; rw [add_block]; exact Kd.own_blk (Kd.R_ne HO_18.out BK300.out (by decide))) | (dsimp only; exact Kd.own_blk (Kd.R_ne HO_18.out BK300.out (by decide)))) _).trans (((cell_far (p := ⟨gb300, _, none⟩) (by first | exact Kd.own_blk (Kd.R_ne HO_18.out BK300.out (by decide)) | (rw [add_block]; exact Kd.own_blk (Kd.R_ne HO_18.out BK300.out (by decide))) | (show (Addr.add _ _).block ≠ _; rw [add_block]; exact Kd.own_blk (Kd.R_ne HO_18.out BK300.out (by decide))) | (dsimp only; exact Kd.own_blk (Kd.R_ne HO_18.out BK300.out (by decide)))) _).trans (((cell_far (p := ⟨gb300, _, none⟩) (by first | exact Kd.own_blk (Kd.R_ne HO_18.out BK300.out (by decide)) | (rw [add_block]; exact Kd.own_blk (Kd.R_ne HO_18.out BK300.out (by decide))) | (show (Addr.add _ _).block ≠ _; rw [add_block]; exact Kd.own_blk (Kd.R_ne HO_18.out BK300.out (by decide))) | (dsimp only; exact Kd.own_blk (Kd.R_ne HO_18.out BK300.out (by decide)))) _).trans (((cell_far (p := ⟨gb300, _, none⟩) (by first | exact Kd.own_blk (Kd.R_ne HO_18.out BK300.out (by decide)) | (rw [add_block]; exact Kd.own_blk (Kd.R_ne HO_18.out BK300.out (by decide))) | (show (Addr.add _ _).block ≠ _; rw [add_block]; exact Kd.own_blk (Kd.R_ne HO_18.out BK300.out (by decide))) | (dsimp only; exact Kd.own_blk (Kd.R_ne HO_18.out BK300.out (by decide)))) _).trans (((cell_far (p := ⟨gb300, _, none⟩) (by first | exact Kd.own_blk (Kd.R_ne HO_18.out BK300.out (by decide)) | (rw [add_block]; exact Kd.own_blk (Kd.R_ne HO_18.out BK300.out (by decide))) | (show (Addr.add _ _).block ≠ _; rw [add_block]; exact Kd.own_blk (Kd.R_ne HO_18.out BK300.out (by decide))) | (dsimp only; exact Kd.own_blk (Kd.R_ne HO_18.out BK300.out (by decide)))) _).trans (hHeld.2.2.2.2.2.2.1)))))))))), ((cell_far (p := ⟨gb300, _, none⟩) (by first | exact Kd.own_blk (Kd.R_ne HO_18.out BK300.out (by decide)) | (rw [add_block]; exact Kd.own_blk (Kd.R_ne HO_18.out BK300.out (by decide))) | (show (Addr.add _ _).block ≠ _; rw [add_block]; exact Kd.own_blk (Kd.R_ne HO_18.out BK300.out (by decide))) | (dsimp only; exact Kd.own_blk (Kd.R_ne HO_18.out BK300.out (by decide)))) _).trans (((cell_far (p := ⟨gb300, _, none⟩) (by first | exact Kd.own_blk (Kd.R_ne HO_18.out BK300.out (by decide)) | (rw [add_block]; exact Kd.own_blk (Kd.R_ne HO_18.out BK300.out (by decide))) | (show (Addr.add _ _).block ≠ _; rw [add_block]; exact Kd.own_blk (Kd.R_ne HO_18.out BK300.out (by decide))) | (dsimp only; exact Kd.own_blk (Kd.R_ne HO_18.out BK300.out (by decide)))) _).trans (((cell_far (p := ⟨gb300, _, none⟩) (by first | exact Kd.own_blk (Kd.R_ne HO_18.out BK300.out (by decide)) | (rw [add_block]; exact Kd.own_blk (Kd.R_ne HO_18.out BK300.out (by decide))) | (show (Addr.add _ _).block ≠ _; rw [add_block]; exact Kd.own_blk (Kd.R_ne HO_18.out BK300.out (by decide))) | (dsimp only; exact Kd.own_blk (Kd.R_ne HO_18.out BK300.out (by decide)))) _).trans (((cell_far (p := ⟨gb300, _, none⟩) (by first | exact Kd.own_blk (Kd.R_ne HO_18.out BK300.out (by decide)) | (rw [add_block]; exact Kd.own_blk (Kd.R_ne HO_18.out BK300.out (by decide))) | (show (Addr.add _ _).block ≠ _; rw [add_block]; exact Kd.own_blk (Kd.R_ne HO_18.out BK300.out (by decide))) | (dsimp only; exact Kd.own_blk (Kd.R_ne HO_18.out BK300.out (by decide)))) _).trans (((cell_far (p := ⟨gb300, _, none⟩) (by first | exact Kd.own_blk (Kd.R_ne HO_18.out BK300.out (by decide)) | (rw [add_block]; exact Kd.own_blk (Kd.R_ne HO_18.out BK300.out (by decide))) | (show (Addr.add _ _).block ≠ _; rw [add_block]; exact Kd.own_blk (Kd.R_ne HO_18.out BK300.out (by decide))) | (dsimp only; exact Kd.own_blk (Kd.R_ne HO_18.out BK300.out (by decide)))) _).trans (hHeld.2.2.2.2.2.2.2))))))))))⟩ (fun hHeld => ?_)
                clear hK K
                refine pure_ (i := 14) (N := some 27) (v := ?_) (a' := ?_) #[true, true, true, true, true, true, true, true, true, true, true, true, true, true, true] rfl rfl (any_of HT_.out (by kernel_rfl)) (fun _ _ _ h => h) (Or.inl ⟨by rfl, ?_⟩) ?_ ?_
                rotate_left
                ·
                 intro w'
                 go_simp
                 with_reducible rfl
                rotate_left
                ·
                 simp only [Act.put, List.setIfInBounds_toArray, List.set_cons_zero, List.set_cons_succ, i64_w, i32_w]
                 rfl
                refine done_ (done_of HT_.out (by kernel_rfl)) ?_
                go_upto_region 27 with (fail)
                go_cut [137] (fun v137 wc => ∃ (kq : Nat) (x137_49 : Bool), v137 = .bool x137_49 ∧ Aside0 (ambidextertop_TopTracking.j5 kq l5 true (Int.tmod (wrap64 (a3)) 421) t275 x19_2 x20_44 x22_44 x23_2 t299 x137_49 t267 t268 t269 t294 t295 t296 t297 t298 = some r) ∧ Aside0 (kq ≤ kj44) ∧ Aside0 (Kd.R k33 33 wc w.heap.size (fun _ => True) (.slice (some ad293) t275.length co37) t275) ∧ Aside0 (wc.heap[gb270]? = some (.cells #[.int .i64 t267, .int .i64 t268, .int .i64 t269] 25 (0, 0))) ∧ Aside0 (wc.heap[gb288]? = some (.cells #[.int .i64 x289000_2, .int .i64 x289001_2, .int .i64 x289002_2, .int .i64 x289003_2, .bool x289004_2] 45 (0, 0))) ∧ Aside0 (wc.heap[gb300]? = some (.cells #[.int .i64 t294, .int .i64 t295, .int .i64 t296, .int .i64 t297, .bool t298] 45 (0, 0))) ∧ Aside0 (Below w.heap.size w wc))
                case first =>
                 have H := HC50.out
                 clear HC50
                 by_cases c60 : t298 = true
                 ·
                  subst c60
                  have H1 : (ambidextertop_TopTracking.j5 kj44 l5 true (Int.tmod (wrap64 (a3)) 421) t275 x19_2 x20_44 x22_44 x23_2 t299 true t267 t268 t269 t294 t295 t296 t297 true) = some r := by rw [if_pos rfl] at H; exact H
                  clear H
                  have H := H1
                  clear H1
                  have H' := Aside0.mk H
                  clear H
                  have hnb61 := NB300_270.out
                  have hnc61 := NB270_300.out
                  have hnb62 := NB300_288.out
                  have hnc62 := NB288_300.out
                  have hcz63_0 : w54.cell? ⟨gb300, 0, none⟩ = some (.int .i64 0) := (blk_cell BK300.out 0).trans rfl
                  have hcz63_1 : w54.cell? ⟨gb300, 1, none⟩ = some (.int .i64 0) := (blk_cell BK300.out 1).trans rfl
                  have hcz63_2 : w54.cell? ⟨gb300, 2, none⟩ = some (.int .i64 0) := (blk_cell BK300.out 2).trans rfl
                  have hcz63_3 : w54.cell? ⟨gb300, 3, none⟩ = some (.int .i64 0) := (blk_cell BK300.out 3).trans rfl
                  have hcz63_4 : w54.cell? ⟨gb300, 4, none⟩ = some (.bool false) := (blk_cell BK300.out 4).trans rfl
                  have hfz63_0 := blk_frozen BK300.out 0
                  have hfz63_1 := blk_frozen BK300.out 1
                  have hfz63_2 := blk_frozen BK300.out 2
                  have hfz63_3 := blk_frozen BK300.out 3
                  have hfz63_4 := blk_frozen BK300.out 4
                  go_wp2
                  go_meet
                  case rel => exact ⟨_, (true), (by first | rfl | (simp; done) | (simp [*]; done)), H', ⟨by have := HJ11.out; have := HK2.out; have := HJ35.out; have := HJ40.out; have := HJ44.out; first | omega | exact Nat.le_refl _⟩, ⟨by (with_reducible repeat (first | apply Kd.R_alloc | apply Kd.R_drewN | apply Kd.R_drew)); exact Kd.R_mono (Kd.R_far (p := ⟨gb300, 4, none⟩) (Kd.R_far (p := ⟨gb300, 3, none⟩) (Kd.R_far (p := ⟨gb300, 2, none⟩) (Kd.R_far (p := ⟨gb300, 1, none⟩) (Kd.R_far (p := ⟨gb300, 0, none⟩) (Kd.R_types HO_18.out BK300.out (by decide)) (fun _ hk => hk.2) (.int .i64 t294)) (fun _ hk => hk.2) (.int .i64 t295)) (fun _ hk => hk.2) (.int .i64 t296)) (fun _ hk => hk.2) (.int .i64 t297)) (fun _ hk => hk.2) (.bool true)) (fun _ hk => trivial)⟩, ⟨by (with_reducible repeat (first | refine blk_drewN ?_ _ | refine blk_drew ?_ | refine blk_alloc ?_ _)); refine blk_far ?_ NB270_300.out _; (with_reducible repeat (first | refine blk_drewN ?_ _ | refine blk_drew ?_ | refine blk_alloc ?_ _)); refine blk_far ?_ NB270_300.out _; (with_reducible repeat (first | refine blk_drewN ?_ _ | refine blk_drew ?_ | refine blk_alloc ?_ _)); refine blk_far ?_ NB270_300.out _; (with_reducible repeat (first | refine blk_drewN ?_ _ | refine blk_drew ?_ | refine blk_alloc ?_ _)); refine blk_far ?_ NB270_300.out _; (with_reducible repeat (first | refine blk_drewN ?_ _ | refine blk_drew ?_ | refine blk_alloc ?_ _)); refine blk_far ?_ NB270_300.out _; (with_reducible repeat (first | refine blk_drewN ?_ _ | refine blk_drew ?_ | refine blk_alloc ?_ _)); exact BK270.out⟩, ⟨by (with_reducible repeat (first | refine blk_drewN ?_ _ | refine blk_drew ?_ | refine blk_alloc ?_ _)); refine blk_far ?_ NB288_300.out _; (with_reducible repeat (first | refine blk_drewN ?_ _ | refine blk_drew ?_ | refine blk_alloc ?_ _)); refine blk_far ?_ NB288_300.out _; (with_reducible repeat (first | refine blk_drewN ?_ _ | refine blk_drew ?_ | refine blk_alloc ?_ _)); refine blk_far ?_ NB288_300.out _; (with_reducible repeat (first | refine blk_drewN ?_ _ | refine blk_drew ?_ | refine blk_alloc ?_ _)); refine blk_far ?_ NB288_300.out _; (with_reducible repeat (first | refine blk_drewN ?_ _ | refine blk_drew ?_ | refine blk_alloc ?_ _)); refine blk_far ?_ NB288_300.out _; (with_reducible repeat (first | refine blk_drewN ?_ _ | refine blk_drew ?_ | refine blk_alloc ?_ _)); exact BK288.out⟩, ⟨by (with_reducible repeat (first | refine blk_drewN ?_ _ | refine blk_drew ?_ | refine blk_alloc ?_ _)); refine blk_put (cs := #[.int .i64 t294, .int .i64 t295, .int .i64 t296, .int .i64 t297, .bool false]) ?_ 4 _ rfl; (with_reducible repeat (first | refine blk_drewN ?_ _ | refine blk_drew ?_ | refine blk_alloc ?_ _)); refine blk_put (cs := #[.int .i64 t294, .int .i64 t295, .int .i64 t296, .int .i64 0, .bool false]) ?_ 3 _ rfl; (with_reducible repeat (first | refine blk_drewN ?_ _ | refine blk_drew ?_ | refine blk_alloc ?_ _)); refine blk_put (cs := #[.int .i64 t294, .int .i64 t295, .int .i64 0, .int .i64 0, .bool false]) ?_ 2 _ rfl; (with_reducible repeat (first | refine blk_drewN ?_ _ | refine blk_drew ?_ | refine blk_alloc ?_ _)); refine blk_put (cs := #[.int .i64 t294, .int .i64 0, .int .i64 0, .int .i64 0, .bool false]) ?_ 1 _ rfl; (with_reducible repeat (first | refine blk_drewN ?_ _ | refine blk_drew ?_ | refine blk_alloc ?_ _)); refine blk_put (cs := #[.int .i64 0, .int .i64 0, .int .i64 0, .int .i64 0, .bool false]) ?_ 0 _ rfl; (with_reducible repeat (first | refine blk_drewN ?_ _ | refine blk_drew ?_ | refine blk_alloc ?_ _)); exact BK300.out⟩, ⟨by repeat (first | (with_reducible first | exact HB.out | apply below_alloc | apply pw_below_drewN | apply below_drew1 | refine below_set ?_ GE270.out | refine below_set ?_ GE288.out | refine below_set ?_ GE300.out) | exact HB.out)⟩⟩
                 ·
                  replace c60 := Bool.eq_false_iff.mpr c60
                  subst c60
                  have H1 : (if t299 > (wrap64 (16 * t267)) then (ambidextertop_TopTracking.j5 kj44 l5 true (Int.tmod (wrap64 (a3)) 421) t275 x19_2 x20_44 x22_44 x23_2 t299 true t267 t268 t269 t294 t295 t296 t297 false) else (ambidextertop_TopTracking.j5 kj44 l5 true (Int.tmod (wrap64 (a3)) 421) t275 x19_2 x20_44 x22_44 x23_2 t299 (decide (t299 < (wrap64 ((-16) * t267)))) t267 t268 t269 t294 t295 t296 t297 false)) = some r := by rw [if_neg (show ¬ (false = true) by decide)] at H; exact H
                  clear H
                  have H := H1
                  clear H1
                  by_cases c64 : t299 > (wrap64 (16 * t267))
                  ·
                   rw [if_pos c64] at H
                   have c64b0 : decide ((wrap64 (16 * t267)) < t299) = true := decide_eq_true c64
                   clear c64
                   (first | rw [c64b0] | (simp only [i64_w, i32_w]; rw [c64b0]) | skip)
                   have H' := Aside0.mk H
                   clear H
                   have hnb65 := NB300_270.out
                   have hnc65 := NB270_300.out
                   have hnb66 := NB300_288.out
                   have hnc66 := NB288_300.out
                   have hcz67_0 : w54.cell? ⟨gb300, 0, none⟩ = some (.int .i64 0) := (blk_cell BK300.out 0).trans rfl
                   have hcz67_1 : w54.cell? ⟨gb300, 1, none⟩ = some (.int .i64 0) := (blk_cell BK300.out 1).trans rfl
                   have hcz67_2 : w54.cell? ⟨gb300, 2, none⟩ = some (.int .i64 0) := (blk_cell BK300.out 2).trans rfl
                   have hcz67_3 : w54.cell? ⟨gb300, 3, none⟩ = some (.int .i64 0) := (blk_cell BK300.out 3).trans rfl
                   have hcz67_4 : w54.cell? ⟨gb300, 4, none⟩ = some (.bool false) := (blk_cell BK300.out 4).trans rfl
                   have hfz67_0 := blk_frozen BK300.out 0
                   have hfz67_1 := blk_frozen BK300.out 1
                   have hfz67_2 := blk_frozen BK300.out 2
                   have hfz67_3 := blk_frozen BK300.out 3
                   have hfz67_4 := blk_frozen BK300.out 4
                   have hnb68 := NB270_288.out
                   have hnc68 := NB288_270.out
                   have hcz69_0 : w54.cell? ⟨gb270, 0, none⟩ = some (.int .i64 t267) := (blk_cell BK270.out 0).trans rfl
                   have hcz69_1 : w54.cell? ⟨gb270, 1, none⟩ = some (.int .i64 t268) := (blk_cell BK270.out 1).trans rfl
                   have hcz69_2 : w54.cell? ⟨gb270, 2, none⟩ = some (.int .i64 t269) := (blk_cell BK270.out 2).trans rfl
                   have hfz69_0 := blk_frozen BK270.out 0
                   have hfz69_1 := blk_frozen BK270.out 1
                   have hfz69_2 := blk_frozen BK270.out 2
                   go_wp2
                   go_meet
                   case rel => exact ⟨_, (true), (by first | rfl | (simp; done) | (simp [*]; done)), H', ⟨by have := HJ11.out; have := HK2.out; have := HJ35.out; have := HJ40.out; have := HJ44.out; first | omega | exact Nat.le_refl _⟩, ⟨by (with_reducible repeat (first | apply Kd.R_alloc | apply Kd.R_drewN | apply Kd.R_drew)); exact Kd.R_mono (Kd.R_far (p := ⟨gb300, 4, none⟩) (Kd.R_far (p := ⟨gb300, 3, none⟩) (Kd.R_far (p := ⟨gb300, 2, none⟩) (Kd.R_far (p := ⟨gb300, 1, none⟩) (Kd.R_far (p := ⟨gb300, 0, none⟩) (Kd.R_types HO_18.out BK300.out (by decide)) (fun _ hk => hk.2) (.int .i64 t294)) (fun _ hk => hk.2) (.int .i64 t295)) (fun _ hk => hk.2) (.int .i64 t296)) (fun _ hk => hk.2) (.int .i64 t297)) (fun _ hk => hk.2) (.bool false)) (fun _ hk => trivial)⟩, ⟨by (with_reducible repeat (first | refine blk_drewN ?_ _ | refine blk_drew ?_ | refine blk_alloc ?_ _)); refine blk_far ?_ NB270_300.out _; (with_reducible repeat (first | refine blk_drewN ?_ _ | refine blk_drew ?_ | refine blk_alloc ?_ _)); refine blk_far ?_ NB270_300.out _; (with_reducible repeat (first | refine blk_drewN ?_ _ | refine blk_drew ?_ | refine blk_alloc ?_ _)); refine blk_far ?_ NB270_300.out _; (with_reducible repeat (first | refine blk_drewN ?_ _ | refine blk_drew ?_ | refine blk_alloc ?_ _)); refine blk_far ?_ NB270_300.out _; (with_reducible repeat (first | refine blk_drewN ?_ _ | refine blk_drew ?_ | refine blk_alloc ?_ _)); refine blk_far ?_ NB270_300.out _; (with_reducible repeat (first | refine blk_drewN ?_ _ | refine blk_drew ?_ | refine blk_alloc ?_ _)); exact BK270.out⟩, ⟨by (with_reducible repeat (first | refine blk_drewN ?_ _ | refine blk_drew ?_ | refine blk_alloc ?_ _)); refine blk_far ?_ NB288_300.out _; (with_reducible repeat (first | refine blk_drewN ?_ _ | refine blk_drew ?_ | refine blk_alloc ?_ _)); refine blk_far ?_ NB288_300.out _; (with_reducible repeat (first | refine blk_drewN ?_ _ | refine blk_drew ?_ | refine blk_alloc ?_ _)); refine blk_far ?_ NB288_300.out _; (with_reducible repeat (first | refine blk_drewN ?_ _ | refine blk_drew ?_ | refine blk_alloc ?_ _)); refine blk_far ?_ NB288_300.out _; (with_reducible repeat (first | refine blk_drewN ?_ _ | refine blk_drew ?_ | refine blk_alloc ?_ _)); refine blk_far ?_ NB288_300.out _; (with_reducible repeat (first | refine blk_drewN ?_ _ | refine blk_drew ?_ | refine blk_alloc ?_ _)); exact BK288.out⟩, ⟨by (with_reducible repeat (first | refine blk_drewN ?_ _ | refine blk_drew ?_ | refine blk_alloc ?_ _)); refine blk_put (cs := #[.int .i64 t294, .int .i64 t295, .int .i64 t296, .int .i64 t297, .bool false]) ?_ 4 _ rfl; (with_reducible repeat (first | refine blk_drewN ?_ _ | refine blk_drew ?_ | refine blk_alloc ?_ _)); refine blk_put (cs := #[.int .i64 t294, .int .i64 t295, .int .i64 t296, .int .i64 0, .bool false]) ?_ 3 _ rfl; (with_reducible repeat (first | refine blk_drewN ?_ _ | refine blk_drew ?_ | refine blk_alloc ?_ _)); refine blk_put (cs := #[.int .i64 t294, .int .i64 t295, .int .i64 0, .int .i64 0, .bool false]) ?_ 2 _ rfl; (with_reducible repeat (first | refine blk_drewN ?_ _ | refine blk_drew ?_ | refine blk_alloc ?_ _)); refine blk_put (cs := #[.int .i64 t294, .int .i64 0, .int .i64 0, .int .i64 0, .bool false]) ?_ 1 _ rfl; (with_reducible repeat (first | refine blk_drewN ?_ _ | refine blk_drew ?_ | refine blk_alloc ?_ _)); refine blk_put (cs := #[.int .i64 0, .int .i64 0, .int .i64 0, .int .i64 0, .bool false]) ?_ 0 _ rfl; (with_reducible repeat (first | refine blk_drewN ?_ _ | refine blk_drew ?_ | refine blk_alloc ?_ _)); exact BK300.out⟩, ⟨by repeat (first | (with_reducible first | exact HB.out | apply below_alloc | apply pw_below_drewN | apply below_drew1 | refine below_set ?_ GE270.out | refine below_set ?_ GE288.out | refine below_set ?_ GE300.out) | exact HB.out)⟩⟩
                  ·
                   rw [if_neg c64] at H
                   have c64b0 : decide ((wrap64 (16 * t267)) < t299) = false := decide_eq_false c64
                   clear c64
                   (first | rw [c64b0] | (simp only [i64_w, i32_w]; rw [c64b0]) | skip)
                   have H' := Aside0.mk H
                   clear H
                   have hnb70 := NB300_270.out
                   have hnc70 := NB270_300.out
                   have hnb71 := NB300_288.out
                   have hnc71 := NB288_300.out
                   have hcz72_0 : w54.cell? ⟨gb300, 0, none⟩ = some (.int .i64 0) := (blk_cell BK300.out 0).trans rfl
                   have hcz72_1 : w54.cell? ⟨gb300, 1, none⟩ = some (.int .i64 0) := (blk_cell BK300.out 1).trans rfl
                   have hcz72_2 : w54.cell? ⟨gb300, 2, none⟩ = some (.int .i64 0) := (blk_cell BK300.out 2).trans rfl
                   have hcz72_3 : w54.cell? ⟨gb300, 3, none⟩ = some (.int .i64 0) := (blk_cell BK300.out 3).trans rfl
                   have hcz72_4 : w54.cell? ⟨gb300, 4, none⟩ = some (.bool false) := (blk_cell BK300.out 4).trans rfl
                   have hfz72_0 := blk_frozen BK300.out 0
                   have hfz72_1 := blk_frozen BK300.out 1
                   have hfz72_2 := blk_frozen BK300.out 2
                   have hfz72_3 := blk_frozen BK300.out 3
                   have hfz72_4 := blk_frozen BK300.out 4
                   have hnb73 := NB270_288.out
                   have hnc73 := NB288_270.out
                   have hcz74_0 : w54.cell? ⟨gb270, 0, none⟩ = some (.int .i64 t267) := (blk_cell BK270.out 0).trans rfl
                   have hcz74_1 : w54.cell? ⟨gb270, 1, none⟩ = some (.int .i64 t268) := (blk_cell BK270.out 1).trans rfl
                   have hcz74_2 : w54.cell? ⟨gb270, 2, none⟩ = some (.int .i64 t269) := (blk_cell BK270.out 2).trans rfl
                   have hfz74_0 := blk_frozen BK270.out 0
                   have hfz74_1 := blk_frozen BK270.out 1
                   have hfz74_2 := blk_frozen BK270.out 2
                   go_wp2
                   go_meet
                   case rel => exact ⟨_, (decide (t299 < (wrap64 ((-16) * t267)))), (by first | rfl | (simp; done) | (simp [*]; done)), H', ⟨by have := HJ11.out; have := HK2.out; have := HJ35.out; have := HJ40.out; have := HJ44.out; first | omega | exact Nat.le_refl _⟩, ⟨by (with_reducible repeat (first | apply Kd.R_alloc | apply Kd.R_drewN | apply Kd.R_drew)); exact Kd.R_mono (Kd.R_far (p := ⟨gb300, 4, none⟩) (Kd.R_far (p := ⟨gb300, 3, none⟩) (Kd.R_far (p := ⟨gb300, 2, none⟩) (Kd.R_far (p := ⟨gb300, 1, none⟩) (Kd.R_far (p := ⟨gb300, 0, none⟩) (Kd.R_types HO_18.out BK300.out (by decide)) (fun _ hk => hk.2) (.int .i64 t294)) (fun _ hk => hk.2) (.int .i64 t295)) (fun _ hk => hk.2) (.int .i64 t296)) (fun _ hk => hk.2) (.int .i64 t297)) (fun _ hk => hk.2) (.bool false)) (fun _ hk => trivial)⟩, ⟨by (with_reducible repeat (first | refine blk_drewN ?_ _ | refine blk_drew ?_ | refine blk_alloc ?_ _)); refine blk_far ?_ NB270_300.out _; (with_reducible repeat (first | refine blk_drewN ?_ _ | refine blk_drew ?_ | refine blk_alloc ?_ _)); refine blk_far ?_ NB270_300.out _; (with_reducible repeat (first | refine blk_drewN ?_ _ | refine blk_drew ?_ | refine blk_alloc ?_ _)); refine blk_far ?_ NB270_300.out _; (with_reducible repeat (first | refine blk_drewN ?_ _ | refine blk_drew ?_ | refine blk_alloc ?_ _)); refine blk_far ?_ NB270_300.out _; (with_reducible repeat (first | refine blk_drewN ?_ _ | refine blk_drew ?_ | refine blk_alloc ?_ _)); refine blk_far ?_ NB270_300.out _; (with_reducible repeat (first | refine blk_drewN ?_ _ | refine blk_drew ?_ | refine blk_alloc ?_ _)); exact BK270.out⟩, ⟨by (with_reducible repeat (first | refine blk_drewN ?_ _ | refine blk_drew ?_ | refine blk_alloc ?_ _)); refine blk_far ?_ NB288_300.out _; (with_reducible repeat (first | refine blk_drewN ?_ _ | refine blk_drew ?_ | refine blk_alloc ?_ _)); refine blk_far ?_ NB288_300.out _; (with_reducible repeat (first | refine blk_drewN ?_ _ | refine blk_drew ?_ | refine blk_alloc ?_ _)); refine blk_far ?_ NB288_300.out _; (with_reducible repeat (first | refine blk_drewN ?_ _ | refine blk_drew ?_ | refine blk_alloc ?_ _)); refine blk_far ?_ NB288_300.out _; (with_reducible repeat (first | refine blk_drewN ?_ _ | refine blk_drew ?_ | refine blk_alloc ?_ _)); refine blk_far ?_ NB288_300.out _; (with_reducible repeat (first | refine blk_drewN ?_ _ | refine blk_drew ?_ | refine blk_alloc ?_ _)); exact BK288.out⟩, ⟨by (with_reducible repeat (first | refine blk_drewN ?_ _ | refine blk_drew ?_ | refine blk_alloc ?_ _)); refine blk_put (cs := #[.int .i64 t294, .int .i64 t295, .int .i64 t296, .int .i64 t297, .bool false]) ?_ 4 _ rfl; (with_reducible repeat (first | refine blk_drewN ?_ _ | refine blk_drew ?_ | refine blk_alloc ?_ _)); refine blk_put (cs := #[.int .i64 t294, .int .i64 t295, .int .i64 t296, .int .i64 0, .bool false]) ?_ 3 _ rfl; (with_reducible repeat (first | refine blk_drewN ?_ _ | refine blk_drew ?_ | refine blk_alloc ?_ _)); refine blk_put (cs := #[.int .i64 t294, .int .i64 t295, .int .i64 0, .int .i64 0, .bool false]) ?_ 2 _ rfl; (with_reducible repeat (first | refine blk_drewN ?_ _ | refine blk_drew ?_ | refine blk_alloc ?_ _)); refine blk_put (cs := #[.int .i64 t294, .int .i64 0, .int .i64 0, .int .i64 0, .bool false]) ?_ 1 _ rfl; (with_reducible repeat (first | refine blk_drewN ?_ _ | refine blk_drew ?_ | refine blk_alloc ?_ _)); refine blk_put (cs := #[.int .i64 0, .int .i64 0, .int .i64 0, .int .i64 0, .bool false]) ?_ 0 _ rfl; (with_reducible repeat (first | refine blk_drewN ?_ _ | refine blk_drew ?_ | refine blk_alloc ?_ _)); exact BK300.out⟩, ⟨by repeat (first | (with_reducible first | exact HB.out | apply below_alloc | apply pw_below_drewN | apply below_drew1 | refine below_set ?_ GE270.out | refine below_set ?_ GE288.out | refine below_set ?_ GE300.out) | exact HB.out)⟩⟩
                case rest =>
                 clear HC50
                 try clear c1
                 try clear c2
                 try clear p2
                 try clear q2
                 try clear hx2
                 try clear c3
                 try clear c4
                 try clear c5
                 try clear c6
                 try clear p6
                 try clear c7
                 try clear c10
                 try clear c14
                 try clear c15
                 try clear c16
                 try clear c20
                 try clear c20b0
                 try clear c20b1
                 try clear c20b2
                 try clear c23
                 try clear c24
                 try clear c25
                 try clear c27
                 try clear p29
                 try clear q29
                 try clear hx29
                 try clear c32
                 try clear c34
                 try clear c34b0
                 try clear c38
                 try clear c38b0
                 try clear c39
                 try clear c39b0
                 try clear c40
                 try clear c40b0
                 try clear c42
                 try clear c43
                 try clear c43b0
                 try clear c44
                 try clear c44b0
                 try clear c46
                 try clear c46b0
                 try clear c46b1
                 try clear c47
                 try clear c47b0
                 try clear c48
                 try clear c48b0
                 try clear c60
                 try clear c61
                 try clear c62
                 try clear c64
                 try clear c64b0
                 try clear p64
                 try clear c65
                 try clear c66
                 try clear c68
                 try clear c70
                 try clear c71
                 try clear c73
                 try clear hcz16_0
                 try clear hcz16_1
                 try clear hcz16_2
                 try clear hcz33_0
                 try clear hcz33_1
                 try clear hcz33_2
                 try clear hcz33_3
                 try clear hcz33_4
                 try clear hcz63_0
                 try clear hcz63_1
                 try clear hcz63_2
                 try clear hcz63_3
                 try clear hcz63_4
                 try clear hcz67_0
                 try clear hcz67_1
                 try clear hcz67_2
                 try clear hcz67_3
                 try clear hcz67_4
                 try clear hcz69_0
                 try clear hcz69_1
                 try clear hcz69_2
                 try clear hcz72_0
                 try clear hcz72_1
                 try clear hcz72_2
                 try clear hcz72_3
                 try clear hcz72_4
                 try clear hcz74_0
                 try clear hcz74_1
                 try clear hcz74_2
                 try clear hfz16_0
                 try clear hfz16_1
                 try clear hfz16_2
                 try clear hfz33_0
                 try clear hfz33_1
                 try clear hfz33_2
                 try clear hfz33_3
                 try clear hfz33_4
                 try clear hfz63_0
                 try clear hfz63_1
                 try clear hfz63_2
                 try clear hfz63_3
                 try clear hfz63_4
                 try clear hfz67_0
                 try clear hfz67_1
                 try clear hfz67_2
                 try clear hfz67_3
                 try clear hfz67_4
                 try clear hfz69_0
                 try clear hfz69_1
                 try clear hfz69_2
                 try clear hfz72_0
                 try clear hfz72_1
                 try clear hfz72_2
                 try clear hfz72_3
                 try clear hfz72_4
                 try clear hfz74_0
                 try clear hfz74_1
                 try clear hfz74_2
                 try clear hx291_0
                 try clear hx292_0
                 try clear hx293_0
                 try clear hx293_1
                 try clear hx293_2
                 try clear p2
                 try clear p29
                 try clear p291
                 try clear p292
                 try clear p293
                 try clear p6
                 try clear q2
                 try clear q29
                 try clear q291
                 try clear q292
                 try clear q293
                 obtain ⟨kq, x137_49, rfl, HA, HJ49, HO_18, BK270, BK288, BK300, HB⟩ := hcut
                 cases kq with
                 | zero => exact absurd HA.out (by simp [ambidextertop_TopTracking.j5])
                 | succ kj49 =>
                  have H := HA.out
                  clear HA
                  simp only [ambidextertop_TopTracking.j5] at H
                  by_cases c75 : x137_49 = true
                  ·
                   subst c75
                   have H1 : (some false) = some r := by rw [if_pos rfl] at H; exact H
                   clear H
                   have H := H1
                   clear H1
                   exact absurd HT.out (by rw [← Option.some.inj H]; decide)
                  ·
                   replace c75 := Bool.eq_false_iff.mpr c75
                   subst c75
                   have H1 : ((encoder_Quantize.f (wrap64 (x19_2 + t299))).bind fun t301 => (if 0 ≤ x23_2 then (if x23_2 < (t275.length : Int) then (if t301 = ((rd_T33 t275 x23_2).f0) then (ambidextertop_TopTracking.l0 kj49 l5 true (Int.tmod (wrap64 (a3)) 421) t275 (wrap64 (x19_2 + t299)) x20_44 x22_44 (wrap64 (x23_2 + 1)) t267 t268 t269 t294 t295 t296 t297 t298) else (some false)) else (none)) else (none))) = some r := by rw [if_neg (show ¬ (false = true) by decide)] at H; exact H
                   clear H
                   have H := H1
                   clear H1
                   replace H := Option.bind_eq_some_iff.mp H
                   obtain ⟨t301, A760, H⟩ := H
                   replace H : (if 0 ≤ x23_2 then (if x23_2 < (t275.length : Int) then (if t301 = ((rd_T33 t275 x23_2).f0) then (ambidextertop_TopTracking.l0 kj49 l5 true (Int.tmod (wrap64 (a3)) 421) t275 (wrap64 (x19_2 + t299)) x20_44 x22_44 (wrap64 (x23_2 + 1)) t267 t268 t269 t294 t295 t296 t297 t298) else (some false)) else (none)) else (none)) = some r := H
                   have A76 := Aside0.mk A760
                   clear A760
                   by_cases c77 : 0 ≤ x23_2
                   ·
                    rw [if_pos c77] at H
                    have c77b0 : decide (0 ≤ x23_2) = true := decide_eq_true c77
                    clear c77
                    by_cases c78 : x23_2 < (t275.length : Int)
                    ·
                     rw [if_pos c78] at H
                     have c78b0 : decide (x23_2 < (t275.length : Int)) = true := decide_eq_true c78
                     clear c78
                     by_cases c79 : t301 = ((rd_T33 t275 x23_2).f0)
                     ·
                      rw [if_pos c79] at H
                      have c79b0 : (t301 == ((rd_T33 t275 x23_2).f0)) = true := beq_iff_eq.mpr c79
                      have c79b1 : (t301 != ((rd_T33 t275 x23_2).f0)) = false := bne_eq_false_iff_eq.mpr c79
                      clear c79
                      have H' := Aside0.mk H
                      clear H
                      have hnb80 := NB300_270.out
                      have hnc80 := NB270_300.out
                      have hnb81 := NB300_288.out
                      have hnc81 := NB288_300.out
                      have hcz82_0 : wc.cell? ⟨gb300, 0, none⟩ = some (.int .i64 t294) := (blk_cell BK300.out 0).trans rfl
                      have hcz82_1 : wc.cell? ⟨gb300, 1, none⟩ = some (.int .i64 t295) := (blk_cell BK300.out 1).trans rfl
                      have hcz82_2 : wc.cell? ⟨gb300, 2, none⟩ = some (.int .i64 t296) := (blk_cell BK300.out 2).trans rfl
                      have hcz82_3 : wc.cell? ⟨gb300, 3, none⟩ = some (.int .i64 t297) := (blk_cell BK300.out 3).trans rfl
                      have hcz82_4 : wc.cell? ⟨gb300, 4, none⟩ = some (.bool t298) := (blk_cell BK300.out 4).trans rfl
                      have hfz82_0 := blk_frozen BK300.out 0
                      have hfz82_1 := blk_frozen BK300.out 1
                      have hfz82_2 := blk_frozen BK300.out 2
                      have hfz82_3 := blk_frozen BK300.out 3
                      have hfz82_4 := blk_frozen BK300.out 4
                      have hnb83 := NB288_270.out
                      have hnc83 := NB270_288.out
                      have hcz84_0 : wc.cell? ⟨gb288, 0, none⟩ = some (.int .i64 x289000_2) := (blk_cell BK288.out 0).trans rfl
                      have hcz84_1 : wc.cell? ⟨gb288, 1, none⟩ = some (.int .i64 x289001_2) := (blk_cell BK288.out 1).trans rfl
                      have hcz84_2 : wc.cell? ⟨gb288, 2, none⟩ = some (.int .i64 x289002_2) := (blk_cell BK288.out 2).trans rfl
                      have hcz84_3 : wc.cell? ⟨gb288, 3, none⟩ = some (.int .i64 x289003_2) := (blk_cell BK288.out 3).trans rfl
                      have hcz84_4 : wc.cell? ⟨gb288, 4, none⟩ = some (.bool x289004_2) := (blk_cell BK288.out 4).trans rfl
                      have hfz84_0 := blk_frozen BK288.out 0
                      have hfz84_1 := blk_frozen BK288.out 1
                      have hfz84_2 := blk_frozen BK288.out 2
                      have hfz84_3 := blk_frozen BK288.out 3
                      have hfz84_4 := blk_frozen BK288.out 4
                      try go_wp2
                      have n0_ : Aside0 (Kd.R k33 33 (((((wc.setCell ⟨gb288, 0, none⟩ (.int .i64 t294)).setCell ⟨gb288, 1, none⟩ (.int .i64 t295)).setCell ⟨gb288, 2, none⟩ (.int .i64 t296)).setCell ⟨gb288, 3, none⟩ (.int .i64 t297)).setCell ⟨gb288, 4, none⟩ (.bool t298)) w.heap.size (fun _ => True) (.slice (some ad293) t275.length co37) t275) := ⟨by (with_reducible repeat (first | apply Kd.R_alloc | apply Kd.R_drewN | apply Kd.R_drew)); exact Kd.R_mono (Kd.R_far (p := ⟨gb288, 4, none⟩) (Kd.R_far (p := ⟨gb288, 3, none⟩) (Kd.R_far (p := ⟨gb288, 2, none⟩) (Kd.R_far (p := ⟨gb288, 1, none⟩) (Kd.R_far (p := ⟨gb288, 0, none⟩) (Kd.R_types HO_18.out BK288.out (by decide)) (fun _ hk => hk.2) (.int .i64 t294)) (fun _ hk => hk.2) (.int .i64 t295)) (fun _ hk => hk.2) (.int .i64 t296)) (fun _ hk => hk.2) (.int .i64 t297)) (fun _ hk => hk.2) (.bool t298)) (fun _ hk => trivial)⟩
                      have n1_ : Aside0 ((((((wc.setCell ⟨gb288, 0, none⟩ (.int .i64 t294)).setCell ⟨gb288, 1, none⟩ (.int .i64 t295)).setCell ⟨gb288, 2, none⟩ (.int .i64 t296)).setCell ⟨gb288, 3, none⟩ (.int .i64 t297)).setCell ⟨gb288, 4, none⟩ (.bool t298)).heap[gb270]? = some (.cells #[.int .i64 t267, .int .i64 t268, .int .i64 t269] 25 (0, 0))) := ⟨by (with_reducible repeat (first | refine blk_drewN ?_ _ | refine blk_drew ?_ | refine blk_alloc ?_ _)); refine blk_far ?_ NB270_288.out _; (with_reducible repeat (first | refine blk_drewN ?_ _ | refine blk_drew ?_ | refine blk_alloc ?_ _)); refine blk_far ?_ NB270_288.out _; (with_reducible repeat (first | refine blk_drewN ?_ _ | refine blk_drew ?_ | refine blk_alloc ?_ _)); refine blk_far ?_ NB270_288.out _; (with_reducible repeat (first | refine blk_drewN ?_ _ | refine blk_drew ?_ | refine blk_alloc ?_ _)); refine blk_far ?_ NB270_288.out _; (with_reducible repeat (first | refine blk_drewN ?_ _ | refine blk_drew ?_ | refine blk_alloc ?_ _)); refine blk_far ?_ NB270_288.out _; (with_reducible repeat (first | refine blk_drewN ?_ _ | refine blk_drew ?_ | refine blk_alloc ?_ _)); exact BK270.out⟩
                      have n2_ : Aside0 ((((((wc.setCell ⟨gb288, 0, none⟩ (.int .i64 t294)).setCell ⟨gb288, 1, none⟩ (.int .i64 t295)).setCell ⟨gb288, 2, none⟩ (.int .i64 t296)).setCell ⟨gb288, 3, none⟩ (.int .i64 t297)).setCell ⟨gb288, 4, none⟩ (.bool t298)).heap[gb288]? = some (.cells #[.int .i64 t294, .int .i64 t295, .int .i64 t296, .int .i64 t297, .bool t298] 45 (0, 0))) := ⟨by (with_reducible repeat (first | refine blk_drewN ?_ _ | refine blk_drew ?_ | refine blk_alloc ?_ _)); refine blk_put (cs := #[.int .i64 t294, .int .i64 t295, .int .i64 t296, .int .i64 t297, .bool x289004_2]) ?_ 4 _ rfl; (with_reducible repeat (first | refine blk_drewN ?_ _ | refine blk_drew ?_ | refine blk_alloc ?_ _)); refine blk_put (cs := #[.int .i64 t294, .int .i64 t295, .int .i64 t296, .int .i64 x289003_2, .bool x289004_2]) ?_ 3 _ rfl; (with_reducible repeat (first | refine blk_drewN ?_ _ | refine blk_drew ?_ | refine blk_alloc ?_ _)); refine blk_put (cs := #[.int .i64 t294, .int .i64 t295, .int .i64 x289002_2, .int .i64 x289003_2, .bool x289004_2]) ?_ 2 _ rfl; (with_reducible repeat (first | refine blk_drewN ?_ _ | refine blk_drew ?_ | refine blk_alloc ?_ _)); refine blk_put (cs := #[.int .i64 t294, .int .i64 x289001_2, .int .i64 x289002_2, .int .i64 x289003_2, .bool x289004_2]) ?_ 1 _ rfl; (with_reducible repeat (first | refine blk_drewN ?_ _ | refine blk_drew ?_ | refine blk_alloc ?_ _)); refine blk_put (cs := #[.int .i64 x289000_2, .int .i64 x289001_2, .int .i64 x289002_2, .int .i64 x289003_2, .bool x289004_2]) ?_ 0 _ rfl; (with_reducible repeat (first | refine blk_drewN ?_ _ | refine blk_drew ?_ | refine blk_alloc ?_ _)); exact BK288.out⟩
                      have n3_ : Aside0 ((((((wc.setCell ⟨gb288, 0, none⟩ (.int .i64 t294)).setCell ⟨gb288, 1, none⟩ (.int .i64 t295)).setCell ⟨gb288, 2, none⟩ (.int .i64 t296)).setCell ⟨gb288, 3, none⟩ (.int .i64 t297)).setCell ⟨gb288, 4, none⟩ (.bool t298)).heap[gb300]? = some (.cells #[.int .i64 t294, .int .i64 t295, .int .i64 t296, .int .i64 t297, .bool t298] 45 (0, 0))) := ⟨by (with_reducible repeat (first | refine blk_drewN ?_ _ | refine blk_drew ?_ | refine blk_alloc ?_ _)); refine blk_far ?_ NB300_288.out _; (with_reducible repeat (first | refine blk_drewN ?_ _ | refine blk_drew ?_ | refine blk_alloc ?_ _)); refine blk_far ?_ NB300_288.out _; (with_reducible repeat (first | refine blk_drewN ?_ _ | refine blk_drew ?_ | refine blk_alloc ?_ _)); refine blk_far ?_ NB300_288.out _; (with_reducible repeat (first | refine blk_drewN ?_ _ | refine blk_drew ?_ | refine blk_alloc ?_ _)); refine blk_far ?_ NB300_288.out _; (with_reducible repeat (first | refine blk_drewN ?_ _ | refine blk_drew ?_ | refine blk_alloc ?_ _)); refine blk_far ?_ NB300_288.out _; (with_reducible repeat (first | refine blk_drewN ?_ _ | refine blk_drew ?_ | refine blk_alloc ?_ _)); exact BK300.out⟩
                      have n4_ : Aside0 (Below w.heap.size w (((((wc.setCell ⟨gb288, 0, none⟩ (.int .i64 t294)).setCell ⟨gb288, 1, none⟩ (.int .i64 t295)).setCell ⟨gb288, 2, none⟩ (.int .i64 t296)).setCell ⟨gb288, 3, none⟩ (.int .i64 t297)).setCell ⟨gb288, 4, none⟩ (.bool t298))) := ⟨by repeat (first | (with_reducible first | exact HB.out | apply below_alloc | apply pw_below_drewN | apply below_drew1 | refine below_set ?_ GE270.out | refine below_set ?_ GE288.out | refine below_set ?_ GE300.out) | exact HB.out)⟩
                      (try clear HO_18)
                      (try clear BK270)
                      (try clear BK288)
                      (try clear BK300)
                      (try clear HB)
                      generalize (((((wc.setCell ⟨gb288, 0, none⟩ (.int .i64 t294)).setCell ⟨gb288, 1, none⟩ (.int .i64 t295)).setCell ⟨gb288, 2, none⟩ (.int .i64 t296)).setCell ⟨gb288, 3, none⟩ (.int .i64 t297)).setCell ⟨gb288, 4, none⟩ (.bool t298)) = w85 at n0_ n1_ n2_ n3_ n4_ ⊢
                      have HO_18 := n0_
                      have BK270 := n1_
                      have BK288 := n2_
                      have BK300 := n3_
                      have HB := n4_
                      clear n0_ n1_ n2_ n3_ n4_
                      have n0_ := Aside0.mk (Kd.R_drew HO_18.out)
                      have n1_ := Aside0.mk (blk_drew BK270.out)
                      have n2_ := Aside0.mk (blk_drew BK288.out)
                      have n3_ := Aside0.mk (blk_drew BK300.out)
                      have n4_ := Aside0.mk (below_drew1 HB.out)
                      clear HO_18
                      clear BK270
                      clear BK288
                      clear BK300
                      clear HB
                      have HO_18 := n0_
                      have BK270 := n1_
                      have BK288 := n2_
                      have BK300 := n3_
                      have HB := n4_
                      clear n0_ n1_ n2_ n3_ n4_
                      have p302 : 0 ≤ (x23_2 : Int) := of_decide_eq_true (by first | (with_reducible assumption) | assumption)
                      have q302 : x23_2 < (t275.length : Int) := of_decide_eq_true (by first | (with_reducible assumption) | assumption)
                      obtain ⟨ad302, e302, hx302_0, hx302_1, hx302_2⟩ := at_T33 (Kd.R_reads' HO_18.out).2.2 x23_2 p302 q302
                      obtain rfl : ad293 = ad302 := (by injection e302)
                      replace p302 := eq_true p302
                      replace q302 := eq_true q302
                      refine start_ (n := 8) (S := fun w' => w'.cell? (ad293.add ((x23_2).toNat * 3)) = some (.int .i64 ((rd_T33 t275 x23_2).f0)) ∧ w'.cell? ⟨(ad293.add ((x23_2).toNat * 3)).block, (ad293.add ((x23_2).toNat * 3)).off + 1, none⟩ = some (.int .i64 ((rd_T33 t275 x23_2).f1)) ∧ w'.cell? ⟨(ad293.add ((x23_2).toNat * 3)).block, (ad293.add ((x23_2).toNat * 3)).off + 2, none⟩ = some (.int .i64 ((rd_T33 t275 x23_2).f2))) (ds := []) #[false, false, false, false, false, false, false, false] (by kernel_rfl) rfl rfl ⟨hx302_0, hx302_1, hx302_2⟩ (fun hHeld => ?_); refine with_tabW ambidextertop_TopTracking.tab31 ambidextertop_TopTracking.bits31 (fun HT_ HW_ => ?_)
                      generalize w85.drew = w86 at HO_18 BK270 BK288 BK300 HB hx302_0 hx302_1 hx302_2 hHeld ⊢
                      refine pure_ (i := 0) (N := some 142) (v := ?_) (a' := ?_) #[true, false, false, false, false, false, false, false] rfl rfl (any_of HT_.out (by kernel_rfl)) (fun _ _ _ h => h) (Or.inl ⟨by rfl, ?_⟩) ?_ ?_
                      rotate_left
                      ·
                       intro w'
                       go_simp
                       with_reducible rfl
                      rotate_left
                      ·
                       simp only [Act.put, List.setIfInBounds_toArray, List.set_cons_zero, List.set_cons_succ, i64_w, i32_w]
                       rfl
                      refine pure_ (i := 2) (N := some 144) (v := ?_) (a' := ?_) #[true, false, true, false, false, false, false, false] rfl rfl (any_of HT_.out (by kernel_rfl)) (fun _ _ _ h => h) (Or.inl ⟨by rfl, ?_⟩) ?_ ?_
                      rotate_left
                      ·
                       intro w'
                       go_simp
                       with_reducible rfl
                      rotate_left
                      ·
                       simp only [Act.put, List.setIfInBounds_toArray, List.set_cons_zero, List.set_cons_succ, i64_w, i32_w]
                       rfl
                      refine pure_ (i := 3) (N := some 145) (v := ?_) (a' := ?_) #[true, false, true, true, false, false, false, false] rfl rfl (any_of HT_.out (by kernel_rfl)) (fun _ _ _ h => h) (Or.inl ⟨by rfl, ?_⟩) ?_ ?_
                      rotate_left
                      ·
                       intro w'
                       go_simp
                       with_reducible rfl
                      rotate_left
                      ·
                       simp only [Act.put, List.setIfInBounds_toArray, List.set_cons_zero, List.set_cons_succ, i64_w, i32_w]
                       rfl
                      refine pure_ (i := 4) (N := some 146) (v := ?_) (a' := ?_) #[true, false, true, true, true, false, false, false] rfl rfl (any_of HT_.out (by kernel_rfl)) (fun _ _ _ h => h) (Or.inl ⟨by rfl, ?_⟩) ?_ ?_
                      rotate_left
                      ·
                       intro w'
                       go_simp
                       with_reducible rfl
                      rotate_left
                      ·
                       simp only [Act.put, List.setIfInBounds_toArray, List.set_cons_zero, List.set_cons_succ, i64_w, i32_w]
                       rfl
                      refine pure_ (i := 5) (N := some 147) (v := ?_) (a' := ?_) #[true, false, true, true, true, true, false, false] rfl rfl (any_of HT_.out (by kernel_rfl)) (fun _ _ _ h => h) (Or.inl ⟨by rfl, ?_⟩) ?_ ?_
                      rotate_left
                      ·
                       intro w'
                       go_simp
                       with_reducible rfl
                      rotate_left
                      ·
                       simp only [Act.put, List.setIfInBounds_toArray, List.set_cons_zero, List.set_cons_succ, i64_w, i32_w]
                       rfl
                      refine take_ (i := 6) (N := some 148) (v := ?_) (a' := ?_) #[true, false, true, true, true, true, true, false] rfl rfl (take_ofW HT_.out HW_.out (by kernel_rfl)) (fun _ _ _ h => h) (Or.inl ⟨by rfl, ?_⟩) hHeld ?_ ?_
                      rotate_left
                      ·
                       rintro w' ⟨s0, s1, s2⟩
                       go_simp
                       with_reducible rfl
                      rotate_left
                      ·
                       simp only [Act.put, List.setIfInBounds_toArray, List.set_cons_zero, List.set_cons_succ, i64_w, i32_w]
                       rfl
                      refine one_ (i := 1) (N := some 143) #[true, true, true, true, true, true, true, false] rfl rfl (one_of HT_.out (by kernel_rfl)) (by decide) (fun K hK => ?_)
                      refine goes_ Try.func23 (by kernel_rfl) rfl #[.int .i64 (wrap64 (x19_2 + t299))] (by rfl) rfl rfl (by (try simp only [List.map_toArray, List.map_cons, List.map_nil]); first | done | rfl | (simp only [List.length_drop, List.length_take]; rfl)) ?_
                      with_reducible refine (encoder_Quantize.calls (wrap64 (x19_2 + t299)) t301 _ A76.out).mono ?_
                      rintro e w' ⟨rfl, ⟨nd, rfl⟩⟩
                      refine ⟨_, rfl, ?_⟩
                      refine hK.out _ _ ⟨hHeld.1, hHeld.2.1, hHeld.2.2⟩ (fun hHeld => ?_)
                      clear hK K
                      refine norm_ (a' := ?_) ?_ ?_
                      rotate_left
                      ·
                       show Act.put _ (some 143) _ = _
                       simp only [Act.put, List.setIfInBounds_toArray, List.set_cons_zero, List.set_cons_succ, i64_w, i32_w]
                       rfl
                      refine pure_ (i := 7) (N := some 149) (v := ?_) (a' := ?_) #[true, true, true, true, true, true, true, true] rfl rfl (any_of HT_.out (by kernel_rfl)) (fun _ _ _ h => h) (Or.inl ⟨by rfl, ?_⟩) ?_ ?_
                      rotate_left
                      ·
                       intro w'
                       go_simp
                       with_reducible rfl
                      rotate_left
                      ·
                       simp only [Act.put, List.setIfInBounds_toArray, List.set_cons_zero, List.set_cons_succ, i64_w, i32_w]
                       rfl
                      refine done_ (done_of HT_.out (by kernel_rfl)) ?_
                      try go_wp2
                      go_roundg kj49
                      case measure => have := HJ11.out; have := HK2.out; have := HJ35.out; have := HJ40.out; have := HJ44.out; have := HJ49.out; omega
                      case rel => exact ⟨(wrap64 (x19_2 + t299)), (x20_44), (x22_44), (wrap64 (x23_2 + 1)), (t294), (t295), (t296), (t297), (t298), (by first | rfl | (simp; done) | (simp [*]; done)), (by first | rfl | (simp; done) | (simp [*]; done)), (by first | rfl | (simp; done) | (simp [*]; done)), (by first | rfl | (simp; done) | (simp [*]; done)), H', ⟨by have := HJ11.out; have := HK2.out; have := HJ35.out; have := HJ40.out; have := HJ44.out; have := HJ49.out; omega⟩, ⟨by (with_reducible repeat (first | apply Kd.R_alloc | apply Kd.R_drewN | apply Kd.R_drew)); exact HO_18.out⟩, ⟨by (with_reducible repeat (first | refine blk_drewN ?_ _ | refine blk_drew ?_ | refine blk_alloc ?_ _)); exact BK270.out⟩, ⟨by (with_reducible repeat (first | refine blk_drewN ?_ _ | refine blk_drew ?_ | refine blk_alloc ?_ _)); exact BK288.out⟩, ⟨by repeat (first | (with_reducible first | exact HB.out | apply below_alloc | apply pw_below_drewN | apply below_drew1 | refine below_set ?_ GE270.out | refine below_set ?_ GE288.out | refine below_set ?_ GE300.out) | exact HB.out)⟩⟩
                     ·
                      rw [if_neg c79] at H
                      have c79b0 : (t301 == ((rd_T33 t275 x23_2).f0)) = false := beq_eq_false_iff_ne.mpr c79
                      have c79b1 : (t301 != ((rd_T33 t275 x23_2).f0)) = true := bne_iff_ne.mpr c79
                      exact absurd HT.out (by rw [← Option.some.inj H]; decide)
                    ·
                     rw [if_neg c78] at H
                     exact absurd H (by simp)
                   ·
                    rw [if_neg c77] at H
                    exact absurd H (by simp)
               ·
                rw [if_neg c48] at H
                exact absurd H (by simp)
              ·
               rw [if_neg c47] at H
               exact absurd H (by simp)
       ·
        rw [if_neg c34] at H
        have c34b0 : decide (x23_2 < (t275.length : Int)) = false := decide_eq_false c34
        clear c34
        have H1 : ((encoder_Quantize.f x19_2).bind fun t289 => (some (t289 == (Int.tmod (wrap64 (a3)) 421)))) = some r := by first | (rw [if_pos rfl] at H; exact H) | (rw [if_pos True.intro] at H; exact H)
        clear H
        have H := H1
        clear H1
        replace H := Option.bind_eq_some_iff.mp H
        obtain ⟨t289, A870, H⟩ := H
        replace H : (some (t289 == (Int.tmod (wrap64 (a3)) 421))) = some r := H
        have A87 := Aside0.mk A870
        clear A870
        obtain rfl := Option.some.inj H
        obtain ⟨Ao88, co88, eo88⟩ := Kd.R_slice HO_18.out
        subst eo88
        go_wp2_with (first | (go_at_call 23; (with_reducible refine (encoder_Quantize.calls x19_2 t289 _ A87.out).mono ?_); rintro e w' ⟨rfl, ⟨nd, rfl⟩⟩))
        go_ret
        exact ⟨by first | rfl | (simp [errW_none, errW_some] <;> rfl) | (simp [*, errW_none, errW_some] <;> rfl), by repeat (first | (with_reducible first | exact HB.out | apply below_alloc | apply pw_below_drewN | apply below_drew1 | refine below_set ?_ GE270.out | refine below_set ?_ GE288.out) | exact HB.out)⟩
 ·
  replace c10 := Bool.eq_false_iff.mpr c10
  subst c10
  have H1 : (if true = true then (some ((t271.length : Int) == 0)) else (some false)) = some r := by rw [if_neg (show ¬ (false = true) by decide)] at H; exact H
  clear H
  have H := H1
  clear H1
  have H1 : (some ((t271.length : Int) == 0)) = some r := by first | (rw [if_pos rfl] at H; exact H) | (rw [if_pos True.intro] at H; exact H)
  clear H
  have H := H1
  clear H1
  obtain rfl := Option.some.inj H
  go_enter Try.func4, Try.ntmps4
  go_wp2_with (first | ((with_reducible refine gate_callee (f := 14) rfl ?_); refine goesL_ (some 28) rfl rfl Try.func14 (by kernel_rfl) rfl #[] rfl (by (try simp only [List.map_toArray, List.map_cons, List.map_nil]); first | done | rfl | (simp only [List.length_drop, List.length_take]; rfl)) ?_; (with_reducible refine (ambidextertop_head25.calls k  true _ A7.out).mono ?_); rintro e w89 ⟨rfl, hb⟩; refine ⟨_, rfl, ?_⟩; have n0_ := Aside0.mk (below_step (by repeat (first | (with_reducible first | exact HB.out | apply below_alloc | apply pw_below_drewN | apply below_drew1) | exact HB.out)) hb); clear HB; have HB := n0_; clear n0_; (try clear hb); (try clear hb2); (try clear hk); (try clear hi)) | ((with_reducible refine gate_callee (f := 15) rfl ?_); refine goesL_ (some 32) rfl rfl Try.func15 (by kernel_rfl) rfl #[.int .u8 a0, .int .u8 a1, .int .u8 a2] rfl (by (try simp only [List.map_toArray, List.map_cons, List.map_nil]); first | done | rfl | (simp only [List.length_drop, List.length_take]; rfl)) ?_; (with_reducible refine (ambidextertop_limR14.calls a0 a1 a2 t267 t268 t269 _ A8.out).mono ?_); rintro e w90 ⟨rfl, hb⟩; refine ⟨_, rfl, ?_⟩; have n0_ := Aside0.mk (below_step (by repeat (first | (with_reducible first | exact HB.out | apply below_alloc | apply pw_below_drewN | apply below_drew1) | exact HB.out)) hb); clear HB; have HB := n0_; clear n0_; (try clear hb); (try clear hb2); (try clear hk); (try clear hi)) | ((with_reducible refine gate_dst (N := 14) rfl ?_); (try (refine gate_guard (by rfl) ?_; dsimp only)); refine box_event ?hg (N := 14) ?hd (cs := #[.int .i64 0, .int .i64 0, .int .i64 0]) (t := 25) ?hr ?_; (case hd => rfl); (case hg => rfl); (case hr => first | (go_simp; done) | (go_simp; rfl)); intro gb270 hg w91 hbox hb; have n0_ := Aside0.mk (below_step (by repeat (first | (with_reducible first | exact HB.out | apply below_alloc | apply pw_below_drewN | apply below_drew1) | exact HB.out)) hb); have n1_ := Aside0.mk (hbox); have n2_ := Aside0.mk ((by rw [hg]; exact (below_size (by repeat (first | (with_reducible first | exact HB.out | apply below_alloc | apply pw_below_drewN | apply below_drew1) | exact HB.out))) : w.heap.size ≤ gb270)); have n3_ := Aside0.mk ((by rw [hg]; exact (below_size (by repeat (first | (with_reducible first | exact HB.out | apply below_alloc | apply pw_below_drewN | apply below_drew1) | exact HB.out))) : w.heap.size ≤ gb270)); clear HB; have HB := n0_; have BK270 := n1_; have GW270 := n2_; have GE270 := n3_; clear n0_ n1_ n2_ n3_; clear hb hbox hg; have hcz92_0 : w91.cell? ⟨gb270, 0, none⟩ = some (.int .i64 0) := (blk_cell BK270.out 0).trans rfl; have hcz92_1 : w91.cell? ⟨gb270, 1, none⟩ = some (.int .i64 0) := (blk_cell BK270.out 1).trans rfl; have hcz92_2 : w91.cell? ⟨gb270, 2, none⟩ = some (.int .i64 0) := (blk_cell BK270.out 2).trans rfl; have hfz92_0 := blk_frozen BK270.out 0; have hfz92_1 := blk_frozen BK270.out 1; have hfz92_2 := blk_frozen BK270.out 2) | ((with_reducible refine gate_callee (f := 16) rfl ?_); refine goesL_ (some 39) rfl rfl Try.func16 (by kernel_rfl) rfl #[.agg #[.int .i64 t267, .int .i64 t268, .int .i64 t269], .int .i64 (Int.tmod (wrap64 (a3)) 421)] rfl (by (try simp only [List.map_toArray, List.map_cons, List.map_nil]); first | done | rfl | (simp only [List.length_drop, List.length_take]; rfl)) ?_; (with_reducible refine (mintime_Profile.calls k t267 t268 t269 (Int.tmod (wrap64 (a3)) 421) t271 false _ A9.out).mono ?_); rintro e w93 ⟨v272, rfl, ho0, hb⟩; refine ⟨_, rfl, ?_⟩; have n0_ := Aside0.mk (Kd.R_lower ho0 (below_size (by repeat (first | (with_reducible first | exact HB.out | apply below_alloc | apply pw_below_drewN | apply below_drew1 | refine below_set ?_ GE270.out) | exact HB.out)))); have n1_ := Aside0.mk (blk_below (g := gb270) (o := .cells #[.int .i64 t267, .int .i64 t268, .int .i64 t269] 25 (0, 0)) (by (with_reducible repeat (first | refine blk_drewN ?_ _ | refine blk_drew ?_ | refine blk_alloc ?_ _)); refine blk_put (cs := #[.int .i64 t267, .int .i64 t268, .int .i64 0]) ?_ 2 _ rfl; (with_reducible repeat (first | refine blk_drewN ?_ _ | refine blk_drew ?_ | refine blk_alloc ?_ _)); refine blk_put (cs := #[.int .i64 t267, .int .i64 0, .int .i64 0]) ?_ 1 _ rfl; (with_reducible repeat (first | refine blk_drewN ?_ _ | refine blk_drew ?_ | refine blk_alloc ?_ _)); refine blk_put (cs := #[.int .i64 0, .int .i64 0, .int .i64 0]) ?_ 0 _ rfl; (with_reducible repeat (first | refine blk_drewN ?_ _ | refine blk_drew ?_ | refine blk_alloc ?_ _)); exact BK270.out) hb); have n2_ := Aside0.mk (below_step (by repeat (first | (with_reducible first | exact HB.out | apply below_alloc | apply pw_below_drewN | apply below_drew1 | refine below_set ?_ GE270.out) | exact HB.out)) hb); clear BK270; clear HB; have HO273 := n0_; have BK270 := n1_; have HB := n2_; clear n0_ n1_ n2_; (try clear hb); (try clear hb2); (try clear hk); (try clear hi); (try clear ho0); obtain ⟨Ao94, co94, eo94⟩ := Kd.R_slice HO273.out; subst eo94))
  go_ret
  exact ⟨by first | rfl | (simp [errW_none, errW_some] <;> rfl) | (simp [*, errW_none, errW_some] <;> rfl), by repeat (first | (with_reducible first | exact HB.out | apply below_alloc | apply pw_below_drewN | apply below_drew1 | refine below_set ?_ GE270.out) | exact HB.out)⟩

end Go.Proofs.Ytmmaodlngnjmlaa.P
