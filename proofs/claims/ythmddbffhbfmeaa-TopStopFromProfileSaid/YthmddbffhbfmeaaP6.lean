-- Written by this session's own program, for this seat. Lean checks it.
import Derived.Test.YthmddbffhbfmeaaP0
import Derived.Test.YthmddbffhbfmeaaP1
import Derived.Test.YthmddbffhbfmeaaP3
import Derived.Test.YthmddbffhbfmeaaP4
import Derived.Test.YthmddbffhbfmeaaP5
import Derived.Test.YthmddbffhbfmeaaXFar
namespace Go.Proofs.Ythmddbffhbfmeaa.P
open Go.RowKit Go.Proofs.YthmddbffhbfmeaaW.PrintWords Go.Proofs.YthmddbffhbfmeaaW.PrintLast Go.Proofs.YthmddbffhbfmeaaW.PrintMore
attribute [local go_sem] max2_int min2_int max_two min_two max_three min_three max_four min_four   -- for this text's walks alone
set_option linter.unusedVariables false
set_option linter.unusedSimpArgs false

attribute [local go_sem high] eqA31

/-! ### ambidextertop_TopStopFromProfile: function 3 -/
mutual
def ambidextertop_TopStopFromProfile.j0 : Nat → Int → Int → Int → Int → Int → Int → Bool → Option (Bool)
 | 0, _, _, _, _, _, _, _ => none
 | k + 1, x0, x1, x2, x3, x4, x5, x13 => (ambidextertop_limR14.f x0 x1 x2).bind fun bt263 => ((mintime_Profile.f k bt263.1 bt263.2.1 bt263.2.2 (Int.tmod (wrap64 (x3)) 421)).bind fun bt267 => (if bt267.2 = true then (ambidextertop_TopStopFromProfile.j1 k x4 x5 x13 bt267.1 ((bt267.1.length : Int) == 0) bt263.1 bt263.2.1 bt263.2.2) else (ambidextertop_TopStopFromProfile.j1 k x4 x5 x13 bt267.1 true bt263.1 bt263.2.1 bt263.2.2)))
def ambidextertop_TopStopFromProfile.j1 : Nat → Int → Int → Bool → List Int → Bool → Int → Int → Int → Option (Bool)
 | 0, _, _, _, _, _, _, _, _ => none
 | k + 1, x4, x5, x13, x15, x49, x267000, x267001, x267002 => if x49 = true then (some x13) else (if (wrap64 ((x15.length : Int) + 1)) = 0 then (none) else (if 0 ≤ (Int.tmod (wrap64 (x4)) (wrap64 ((x15.length : Int) + 1))) then (if (Int.tmod (wrap64 (x4)) (wrap64 ((x15.length : Int) + 1))) ≤ (x15.length : Int) then ((profile_Final.f 0 0 0 (x15.take ((Int.tmod (wrap64 (x4)) (wrap64 ((x15.length : Int) + 1))) : Int).toNat)).bind fun bt275 => ((braking_StopMotion.f k x267000 x267001 x267002 bt275.1 bt275.2.1 bt275.2.2 (Int.tmod (wrap64 (x5)) 3)).bind fun t279 => ((braking_Duration.f k x267000 x267001 x267002 bt275.1 bt275.2.1 bt275.2.2 (Int.tmod (wrap64 (x5)) 3)).bind fun t282 => (if (t279.length : Int) = t282 then (if bt275.2.1 = 0 then (ambidextertop_TopStopFromProfile.j2 k x13 (Int.tmod (wrap64 (x5)) 3) t279 (!(((t279.length : Int) == 0) == (bt275.2.2 == 0))) x267000 x267001 x267002 bt275.1 bt275.2.1 bt275.2.2) else (ambidextertop_TopStopFromProfile.j2 k x13 (Int.tmod (wrap64 (x5)) 3) t279 (!(((t279.length : Int) == 0) == false)) x267000 x267001 x267002 bt275.1 bt275.2.1 bt275.2.2)) else (ambidextertop_TopStopFromProfile.j2 k x13 (Int.tmod (wrap64 (x5)) 3) t279 true x267000 x267001 x267002 bt275.1 bt275.2.1 bt275.2.2))))) else (none)) else (none)))
def ambidextertop_TopStopFromProfile.j2 : Nat → Bool → Int → List (S31) → Bool → Int → Int → Int → Int → Int → Int → Option (Bool)
 | 0, _, _, _, _, _, _, _, _, _, _ => none
 | k + 1, x13, x18, x19, x88, x267000, x267001, x267002, x279000, x279001, x279002 => if x88 = true then (some false) else (if (x19.length : Int) = 0 then (if x13 = true then ((braking_Distance.f k x267000 x267001 x267002 x279000 x279001 x279002 x18).bind fun t283 => (some (t283 == 0))) else (some false)) else (if 0 ≤ (wrap64 ((x19.length : Int) - 1)) then (if (wrap64 ((x19.length : Int) - 1)) < (x19.length : Int) then (if ((rd_T31 x19 (wrap64 ((x19.length : Int) - 1))).f1) = 0 then (ambidextertop_TopStopFromProfile.j3 k x13 x18 x19 (((rd_T31 x19 (wrap64 ((x19.length : Int) - 1))).f2) != 0) x267000 x267001 x267002 x279000 x279001 x279002) else (ambidextertop_TopStopFromProfile.j3 k x13 x18 x19 true x267000 x267001 x267002 x279000 x279001 x279002)) else (none)) else (none)))
def ambidextertop_TopStopFromProfile.j3 : Nat → Bool → Int → List (S31) → Bool → Int → Int → Int → Int → Int → Int → Option (Bool)
 | 0, _, _, _, _, _, _, _, _, _, _ => none
 | k + 1, x13, x18, x19, x113, x267000, x267001, x267002, x279000, x279001, x279002 => if x113 = true then (some false) else ((braking_Distance.f k x267000 x267001 x267002 x279000 x279001 x279002 x18).bind fun t286 => (ambidextertop_TopStopFromProfile.l0 k x13 x18 x19 t286 ([] : List Int) 0 x267000 x267001 x267002 x279000 x279001 x279002 x279000 x279001 x279002))
def ambidextertop_TopStopFromProfile.l0 : Nat → Bool → Int → List (S31) → Int → List Int → Int → Int → Int → Int → Int → Int → Int → Int → Int → Int → Option (Bool)
 | 0, _, _, _, _, _, _, _, _, _, _, _, _, _, _, _ => none
 | k + 1, x13, x18, x19, x21, x22, x24, x267000, x267001, x267002, x279000, x279001, x279002, x288000, x288001, x288002 => if x24 < (x19.length : Int) then (if 0 ≤ x24 then (if (wrap64 (((rd_T31 x19 x24).f0) - x279000)) > x21 then (some false) else (if (wrap64 (x279000 - ((rd_T31 x19 x24).f0))) > x21 then (some false) else (if x22.length < 17592186044416 then (ambidextertop_TopStopFromProfile.l0 k x13 x18 x19 x21 (x22 ++ [wrap64 (((rd_T31 x19 x24).f2) - x288002)]) (wrap64 (x24 + 1)) x267000 x267001 x267002 x279000 x279001 x279002 ((rd_T31 x19 x24).f0) ((rd_T31 x19 x24).f1) ((rd_T31 x19 x24).f2)) else (none)))) else (none)) else (if x18 = 0 then (if x13 = true then (if (x19.length : Int) ≤ 2 then (some (decide (x21 ≤ 4))) else (some false)) else (some false)) else ((profile_Simulate.f x279000 x279001 x279002 x22).bind fun t295 => (ambidextertop_TopStopFromProfile.l1 k x13 x19 x22 t295 0 x267000 x267001 x267002)))
def ambidextertop_TopStopFromProfile.l1 : Nat → Bool → List (S31) → List Int → List (S31) → Int → Int → Int → Int → Option (Bool)
 | 0, _, _, _, _, _, _, _, _ => none
 | k + 1, x13, x19, x22, x25, x26, x267000, x267001, x267002 => if x26 < (x22.length : Int) then (if x26 ≥ (x25.length : Int) then (some false) else (if 0 ≤ x26 then (if x26 < (x25.length : Int) then (if x26 < (x19.length : Int) then (if (!(((rd_T31 x25 x26).f0) == ((rd_T31 x19 x26).f0)) || (!(((rd_T31 x25 x26).f1) == ((rd_T31 x19 x26).f1)) || (!(((rd_T31 x25 x26).f2) == ((rd_T31 x19 x26).f2))))) = true then (some false) else (if (rd x22 x26) > x267002 then (some false) else (if (rd x22 x26) < (wrap64 (-x267002)) then (some false) else (if ((rd_T31 x19 x26).f2) > x267001 then (some false) else (if ((rd_T31 x19 x26).f2) < (wrap64 (-x267001)) then (some false) else (ambidextertop_TopStopFromProfile.l1 k x13 x19 x22 x25 (wrap64 (x26 + 1)) x267000 x267001 x267002)))))) else (none)) else (none)) else (none))) else (if x13 = true then (some ((x25.length : Int) == (x19.length : Int))) else (some false))
end
def ambidextertop_TopStopFromProfile.f (k : Nat) (a0 : Int) (a1 : Int) (a2 : Int) (a3 : Int) (a4 : Int) (a5 : Int) : Option (Bool) := (ambidextertop_head28.f k).bind fun t261 => (if t261 = true then ((ambidextertop_head25.f k).bind fun t262 => (ambidextertop_TopStopFromProfile.j0 k a0 a1 a2 a3 a4 a5 t262)) else (ambidextertop_TopStopFromProfile.j0 k a0 a1 a2 a3 a4 a5 false))
theorem ambidextertop_TopStopFromProfile.mono_l : ∀ k, (∀ y0 y1 y2 y3 y4 y5 y6, LeO (ambidextertop_TopStopFromProfile.j0 k y0 y1 y2 y3 y4 y5 y6) (ambidextertop_TopStopFromProfile.j0 (k + 1) y0 y1 y2 y3 y4 y5 y6)) ∧ (∀ y0 y1 y2 y3 y4 y5 y6 y7, LeO (ambidextertop_TopStopFromProfile.j1 k y0 y1 y2 y3 y4 y5 y6 y7) (ambidextertop_TopStopFromProfile.j1 (k + 1) y0 y1 y2 y3 y4 y5 y6 y7)) ∧ (∀ y0 y1 y2 y3 y4 y5 y6 y7 y8 y9, LeO (ambidextertop_TopStopFromProfile.j2 k y0 y1 y2 y3 y4 y5 y6 y7 y8 y9) (ambidextertop_TopStopFromProfile.j2 (k + 1) y0 y1 y2 y3 y4 y5 y6 y7 y8 y9)) ∧ (∀ y0 y1 y2 y3 y4 y5 y6 y7 y8 y9, LeO (ambidextertop_TopStopFromProfile.j3 k y0 y1 y2 y3 y4 y5 y6 y7 y8 y9) (ambidextertop_TopStopFromProfile.j3 (k + 1) y0 y1 y2 y3 y4 y5 y6 y7 y8 y9)) ∧ (∀ y0 y1 y2 y3 y4 y5 y6 y7 y8 y9 y10 y11 y12 y13 y14, LeO (ambidextertop_TopStopFromProfile.l0 k y0 y1 y2 y3 y4 y5 y6 y7 y8 y9 y10 y11 y12 y13 y14) (ambidextertop_TopStopFromProfile.l0 (k + 1) y0 y1 y2 y3 y4 y5 y6 y7 y8 y9 y10 y11 y12 y13 y14)) ∧ (∀ y0 y1 y2 y3 y4 y5 y6 y7, LeO (ambidextertop_TopStopFromProfile.l1 k y0 y1 y2 y3 y4 y5 y6 y7) (ambidextertop_TopStopFromProfile.l1 (k + 1) y0 y1 y2 y3 y4 y5 y6 y7))
 | 0 => ⟨fun _ _ _ _ _ _ _ r h => by simp [ambidextertop_TopStopFromProfile.j0] at h, fun _ _ _ _ _ _ _ _ r h => by simp [ambidextertop_TopStopFromProfile.j1] at h, fun _ _ _ _ _ _ _ _ _ _ r h => by simp [ambidextertop_TopStopFromProfile.j2] at h, fun _ _ _ _ _ _ _ _ _ _ r h => by simp [ambidextertop_TopStopFromProfile.j3] at h, fun _ _ _ _ _ _ _ _ _ _ _ _ _ _ _ r h => by simp [ambidextertop_TopStopFromProfile.l0] at h, fun _ _ _ _ _ _ _ _ r h => by simp [ambidextertop_TopStopFromProfile.l1] at h⟩
 | k + 1 => by
  obtain ⟨ih0, ih1, ih2, ih3, ih4, ih5⟩ := ambidextertop_TopStopFromProfile.mono_l k
  refine ⟨?_, ?_, ?_, ?_, ?_, ?_⟩
  ·
   intro y0 y1 y2 y3 y4 y5 y6
   unfold ambidextertop_TopStopFromProfile.j0
   repeat' first
   | (with_reducible exact ih0 _ _ _ _ _ _ _)
   | (with_reducible exact ih1 _ _ _ _ _ _ _ _)
   | (with_reducible exact ih2 _ _ _ _ _ _ _ _ _ _)
   | (with_reducible exact ih3 _ _ _ _ _ _ _ _ _ _)
   | (with_reducible exact ih4 _ _ _ _ _ _ _ _ _ _ _ _ _ _ _)
   | (with_reducible exact ih5 _ _ _ _ _ _ _ _)
   | (with_reducible exact ambidextertop_head25.mono _)
   | (with_reducible exact ambidextertop_head28.mono _)
   | (with_reducible exact braking_Distance.mono _ _ _ _ _ _ _ _)
   | (with_reducible exact braking_Duration.mono _ _ _ _ _ _ _ _)
   | (with_reducible exact braking_StopMotion.mono _ _ _ _ _ _ _ _)
   | (with_reducible exact mintime_Profile.mono _ _ _ _ _)
   | (with_reducible exact LeO.refl _)
   | (with_reducible exact LeO.none _)
   | (with_reducible refine LeO.ite ?_ ?_)
   | (with_reducible refine LeO.bind ?_ (fun _ => ?_))
   | exact ih0 _ _ _ _ _ _ _
   | exact ih1 _ _ _ _ _ _ _ _
   | exact ih2 _ _ _ _ _ _ _ _ _ _
   | exact ih3 _ _ _ _ _ _ _ _ _ _
   | exact ih4 _ _ _ _ _ _ _ _ _ _ _ _ _ _ _
   | exact ih5 _ _ _ _ _ _ _ _
   | exact ambidextertop_head25.mono _
   | exact ambidextertop_head28.mono _
   | exact braking_Distance.mono _ _ _ _ _ _ _ _
   | exact braking_Duration.mono _ _ _ _ _ _ _ _
   | exact braking_StopMotion.mono _ _ _ _ _ _ _ _
   | exact mintime_Profile.mono _ _ _ _ _
   | exact LeO.none _
   | refine LeO.ite ?_ ?_
   | refine LeO.bind ?_ (fun _ => ?_)
  ·
   intro y0 y1 y2 y3 y4 y5 y6 y7
   unfold ambidextertop_TopStopFromProfile.j1
   repeat' first
   | (with_reducible exact ih0 _ _ _ _ _ _ _)
   | (with_reducible exact ih1 _ _ _ _ _ _ _ _)
   | (with_reducible exact ih2 _ _ _ _ _ _ _ _ _ _)
   | (with_reducible exact ih3 _ _ _ _ _ _ _ _ _ _)
   | (with_reducible exact ih4 _ _ _ _ _ _ _ _ _ _ _ _ _ _ _)
   | (with_reducible exact ih5 _ _ _ _ _ _ _ _)
   | (with_reducible exact ambidextertop_head25.mono _)
   | (with_reducible exact ambidextertop_head28.mono _)
   | (with_reducible exact braking_Distance.mono _ _ _ _ _ _ _ _)
   | (with_reducible exact braking_Duration.mono _ _ _ _ _ _ _ _)
   | (with_reducible exact braking_StopMotion.mono _ _ _ _ _ _ _ _)
   | (with_reducible exact mintime_Profile.mono _ _ _ _ _)
   | (with_reducible exact LeO.refl _)
   | (with_reducible exact LeO.none _)
   | (with_reducible refine LeO.ite ?_ ?_)
   | (with_reducible refine LeO.bind ?_ (fun _ => ?_))
   | exact ih0 _ _ _ _ _ _ _
   | exact ih1 _ _ _ _ _ _ _ _
   | exact ih2 _ _ _ _ _ _ _ _ _ _
   | exact ih3 _ _ _ _ _ _ _ _ _ _
   | exact ih4 _ _ _ _ _ _ _ _ _ _ _ _ _ _ _
   | exact ih5 _ _ _ _ _ _ _ _
   | exact ambidextertop_head25.mono _
   | exact ambidextertop_head28.mono _
   | exact braking_Distance.mono _ _ _ _ _ _ _ _
   | exact braking_Duration.mono _ _ _ _ _ _ _ _
   | exact braking_StopMotion.mono _ _ _ _ _ _ _ _
   | exact mintime_Profile.mono _ _ _ _ _
   | exact LeO.none _
   | refine LeO.ite ?_ ?_
   | refine LeO.bind ?_ (fun _ => ?_)
  ·
   intro y0 y1 y2 y3 y4 y5 y6 y7 y8 y9
   unfold ambidextertop_TopStopFromProfile.j2
   repeat' first
   | (with_reducible exact ih0 _ _ _ _ _ _ _)
   | (with_reducible exact ih1 _ _ _ _ _ _ _ _)
   | (with_reducible exact ih2 _ _ _ _ _ _ _ _ _ _)
   | (with_reducible exact ih3 _ _ _ _ _ _ _ _ _ _)
   | (with_reducible exact ih4 _ _ _ _ _ _ _ _ _ _ _ _ _ _ _)
   | (with_reducible exact ih5 _ _ _ _ _ _ _ _)
   | (with_reducible exact ambidextertop_head25.mono _)
   | (with_reducible exact ambidextertop_head28.mono _)
   | (with_reducible exact braking_Distance.mono _ _ _ _ _ _ _ _)
   | (with_reducible exact braking_Duration.mono _ _ _ _ _ _ _ _)
   | (with_reducible exact braking_StopMotion.mono _ _ _ _ _ _ _ _)
   | (with_reducible exact mintime_Profile.mono _ _ _ _ _)
   | (with_reducible exact LeO.refl _)
   | (with_reducible exact LeO.none _)
   | (with_reducible refine LeO.ite ?_ ?_)
   | (with_reducible refine LeO.bind ?_ (fun _ => ?_))
   | exact ih0 _ _ _ _ _ _ _
   | exact ih1 _ _ _ _ _ _ _ _
   | exact ih2 _ _ _ _ _ _ _ _ _ _
   | exact ih3 _ _ _ _ _ _ _ _ _ _
   | exact ih4 _ _ _ _ _ _ _ _ _ _ _ _ _ _ _
   | exact ih5 _ _ _ _ _ _ _ _
   | exact ambidextertop_head25.mono _
   | exact ambidextertop_head28.mono _
   | exact braking_Distance.mono _ _ _ _ _ _ _ _
   | exact braking_Duration.mono _ _ _ _ _ _ _ _
   | exact braking_StopMotion.mono _ _ _ _ _ _ _ _
   | exact mintime_Profile.mono _ _ _ _ _
   | exact LeO.none _
   | refine LeO.ite ?_ ?_
   | refine LeO.bind ?_ (fun _ => ?_)
  ·
   intro y0 y1 y2 y3 y4 y5 y6 y7 y8 y9
   unfold ambidextertop_TopStopFromProfile.j3
   repeat' first
   | (with_reducible exact ih0 _ _ _ _ _ _ _)
   | (with_reducible exact ih1 _ _ _ _ _ _ _ _)
   | (with_reducible exact ih2 _ _ _ _ _ _ _ _ _ _)
   | (with_reducible exact ih3 _ _ _ _ _ _ _ _ _ _)
   | (with_reducible exact ih4 _ _ _ _ _ _ _ _ _ _ _ _ _ _ _)
   | (with_reducible exact ih5 _ _ _ _ _ _ _ _)
   | (with_reducible exact ambidextertop_head25.mono _)
   | (with_reducible exact ambidextertop_head28.mono _)
   | (with_reducible exact braking_Distance.mono _ _ _ _ _ _ _ _)
   | (with_reducible exact braking_Duration.mono _ _ _ _ _ _ _ _)
   | (with_reducible exact braking_StopMotion.mono _ _ _ _ _ _ _ _)
   | (with_reducible exact mintime_Profile.mono _ _ _ _ _)
   | (with_reducible exact LeO.refl _)
   | (with_reducible exact LeO.none _)
   | (with_reducible refine LeO.ite ?_ ?_)
   | (with_reducible refine LeO.bind ?_ (fun _ => ?_))
   | exact ih0 _ _ _ _ _ _ _
   | exact ih1 _ _ _ _ _ _ _ _
   | exact ih2 _ _ _ _ _ _ _ _ _ _
   | exact ih3 _ _ _ _ _ _ _ _ _ _
   | exact ih4 _ _ _ _ _ _ _ _ _ _ _ _ _ _ _
   | exact ih5 _ _ _ _ _ _ _ _
   | exact ambidextertop_head25.mono _
   | exact ambidextertop_head28.mono _
   | exact braking_Distance.mono _ _ _ _ _ _ _ _
   | exact braking_Duration.mono _ _ _ _ _ _ _ _
   | exact braking_StopMotion.mono _ _ _ _ _ _ _ _
   | exact mintime_Profile.mono _ _ _ _ _
   | exact LeO.none _
   | refine LeO.ite ?_ ?_
   | refine LeO.bind ?_ (fun _ => ?_)
  ·
   intro y0 y1 y2 y3 y4 y5 y6 y7 y8 y9 y10 y11 y12 y13 y14
   unfold ambidextertop_TopStopFromProfile.l0
   repeat' first
   | (with_reducible exact ih0 _ _ _ _ _ _ _)
   | (with_reducible exact ih1 _ _ _ _ _ _ _ _)
   | (with_reducible exact ih2 _ _ _ _ _ _ _ _ _ _)
   | (with_reducible exact ih3 _ _ _ _ _ _ _ _ _ _)
   | (with_reducible exact ih4 _ _ _ _ _ _ _ _ _ _ _ _ _ _ _)
   | (with_reducible exact ih5 _ _ _ _ _ _ _ _)
   | (with_reducible exact ambidextertop_head25.mono _)
   | (with_reducible exact ambidextertop_head28.mono _)
   | (with_reducible exact braking_Distance.mono _ _ _ _ _ _ _ _)
   | (with_reducible exact braking_Duration.mono _ _ _ _ _ _ _ _)
   | (with_reducible exact braking_StopMotion.mono _ _ _ _ _ _ _ _)
   | (with_reducible exact mintime_Profile.mono _ _ _ _ _)
   | (with_reducible exact LeO.refl _)
   | (with_reducible exact LeO.none _)
   | (with_reducible refine LeO.ite ?_ ?_)
   | (with_reducible refine LeO.bind ?_ (fun _ => ?_))
   | exact ih0 _ _ _ _ _ _ _
   | exact ih1 _ _ _ _ _ _ _ _
   | exact ih2 _ _ _ _ _ _ _ _ _ _
   | exact ih3 _ _ _ _ _ _ _ _ _ _
   | exact ih4 _ _ _ _ _ _ _ _ _ _ _ _ _ _ _
   | exact ih5 _ _ _ _ _ _ _ _
   | exact ambidextertop_head25.mono _
   | exact ambidextertop_head28.mono _
   | exact braking_Distance.mono _ _ _ _ _ _ _ _
   | exact braking_Duration.mono _ _ _ _ _ _ _ _
   | exact braking_StopMotion.mono _ _ _ _ _ _ _ _
   | exact mintime_Profile.mono _ _ _ _ _
   | exact LeO.none _
   | refine LeO.ite ?_ ?_
   | refine LeO.bind ?_ (fun _ => ?_)
  ·
   intro y0 y1 y2 y3 y4 y5 y6 y7
   unfold ambidextertop_TopStopFromProfile.l1
   repeat' first
   | (with_reducible exact ih0 _ _ _ _ _ _ _)
   | (with_reducible exact ih1 _ _ _ _ _ _ _ _)
   | (with_reducible exact ih2 _ _ _ _ _ _ _ _ _ _)
   | (with_reducible exact ih3 _ _ _ _ _ _ _ _ _ _)
   | (with_reducible exact ih4 _ _ _ _ _ _ _ _ _ _ _ _ _ _ _)
   | (with_reducible exact ih5 _ _ _ _ _ _ _ _)
   | (with_reducible exact ambidextertop_head25.mono _)
   | (with_reducible exact ambidextertop_head28.mono _)
   | (with_reducible exact braking_Distance.mono _ _ _ _ _ _ _ _)
   | (with_reducible exact braking_Duration.mono _ _ _ _ _ _ _ _)
   | (with_reducible exact braking_StopMotion.mono _ _ _ _ _ _ _ _)
   | (with_reducible exact mintime_Profile.mono _ _ _ _ _)
   | (with_reducible exact LeO.refl _)
   | (with_reducible exact LeO.none _)
   | (with_reducible refine LeO.ite ?_ ?_)
   | (with_reducible refine LeO.bind ?_ (fun _ => ?_))
   | exact ih0 _ _ _ _ _ _ _
   | exact ih1 _ _ _ _ _ _ _ _
   | exact ih2 _ _ _ _ _ _ _ _ _ _
   | exact ih3 _ _ _ _ _ _ _ _ _ _
   | exact ih4 _ _ _ _ _ _ _ _ _ _ _ _ _ _ _
   | exact ih5 _ _ _ _ _ _ _ _
   | exact ambidextertop_head25.mono _
   | exact ambidextertop_head28.mono _
   | exact braking_Distance.mono _ _ _ _ _ _ _ _
   | exact braking_Duration.mono _ _ _ _ _ _ _ _
   | exact braking_StopMotion.mono _ _ _ _ _ _ _ _
   | exact mintime_Profile.mono _ _ _ _ _
   | exact LeO.none _
   | refine LeO.ite ?_ ?_
   | refine LeO.bind ?_ (fun _ => ?_)
theorem ambidextertop_TopStopFromProfile.mono : ∀ a0 a1 a2 a3 a4 a5 k, LeO (ambidextertop_TopStopFromProfile.f k a0 a1 a2 a3 a4 a5) (ambidextertop_TopStopFromProfile.f (k + 1) a0 a1 a2 a3 a4 a5) := by
 intro a0 a1 a2 a3 a4 a5 k
 obtain ⟨ih0, ih1, ih2, ih3, ih4, ih5⟩ := ambidextertop_TopStopFromProfile.mono_l k
 unfold ambidextertop_TopStopFromProfile.f
 repeat' first
   | (with_reducible exact ih0 _ _ _ _ _ _ _)
   | (with_reducible exact ih1 _ _ _ _ _ _ _ _)
   | (with_reducible exact ih2 _ _ _ _ _ _ _ _ _ _)
   | (with_reducible exact ih3 _ _ _ _ _ _ _ _ _ _)
   | (with_reducible exact ih4 _ _ _ _ _ _ _ _ _ _ _ _ _ _ _)
   | (with_reducible exact ih5 _ _ _ _ _ _ _ _)
   | (with_reducible exact ambidextertop_head25.mono _)
   | (with_reducible exact ambidextertop_head28.mono _)
   | (with_reducible exact braking_Distance.mono _ _ _ _ _ _ _ _)
   | (with_reducible exact braking_Duration.mono _ _ _ _ _ _ _ _)
   | (with_reducible exact braking_StopMotion.mono _ _ _ _ _ _ _ _)
   | (with_reducible exact mintime_Profile.mono _ _ _ _ _)
   | (with_reducible exact LeO.refl _)
   | (with_reducible exact LeO.none _)
   | (with_reducible refine LeO.ite ?_ ?_)
   | (with_reducible refine LeO.bind ?_ (fun _ => ?_))
   | exact ih0 _ _ _ _ _ _ _
   | exact ih1 _ _ _ _ _ _ _ _
   | exact ih2 _ _ _ _ _ _ _ _ _ _
   | exact ih3 _ _ _ _ _ _ _ _ _ _
   | exact ih4 _ _ _ _ _ _ _ _ _ _ _ _ _ _ _
   | exact ih5 _ _ _ _ _ _ _ _
   | exact ambidextertop_head25.mono _
   | exact ambidextertop_head28.mono _
   | exact braking_Distance.mono _ _ _ _ _ _ _ _
   | exact braking_Duration.mono _ _ _ _ _ _ _ _
   | exact braking_StopMotion.mono _ _ _ _ _ _ _ _
   | exact mintime_Profile.mono _ _ _ _ _
   | exact LeO.none _
   | refine LeO.ite ?_ ?_
   | refine LeO.bind ?_ (fun _ => ?_)
def ambidextertop_TopStopFromProfile.T22 : Bool × List (List Nat × List Nat) := (true, [([], []), ([], []), ([0, 1], [0, 1]), ([2], [2]), ([3], [3]), ([], []), ([5], [5]), ([4, 6], [4, 6]), ([], []), ([7, 8], [7, 8]), ([9], [9]), ([10], [10]), ([11, 10], [10, 11]), ([10], [10]), ([10], [10]), ([13, 14, 10], [10, 13, 14]), ([15, 10], [10, 15]), ([16, 10], [10, 16]), ([12, 17, 10], [10, 12, 17]), ([10], [10]), ([18, 19, 10], [10, 18, 19]), ([10, 20], [10, 20])])
def ambidextertop_TopStopFromProfile.B22 : List Nat := [0, 0, 3, 7, 15, 0, 32, 127, 0, 511, 1023, 2047, 4095, 2047, 2047, 26623, 59391, 124927, 262143, 2047, 1048575, 2097151]
theorem ambidextertop_TopStopFromProfile.tab22 : rtab .any (opsOf Try.f3 22) = ambidextertop_TopStopFromProfile.T22 := by kernel_rfl
theorem ambidextertop_TopStopFromProfile.bits22 : waitsOk ambidextertop_TopStopFromProfile.T22.2 ambidextertop_TopStopFromProfile.B22 = true := by kernel_rfl
def ambidextertop_TopStopFromProfile.T24 : Bool × List (List Nat × List Nat) := (true, [([], []), ([], []), ([], []), ([1, 2], [1, 2]), ([3], [3]), ([4], [4]), ([], []), ([6], [6]), ([5, 7], [5, 7]), ([8], [8]), ([0, 9], [0, 9]), ([10, 10, 0, 1, 2, 3, 4, 5, 6, 7, 8, 9, 10], [0, 10])])
def ambidextertop_TopStopFromProfile.B24 : List Nat := [0, 0, 0, 6, 14, 30, 0, 64, 254, 510, 1023, 2047]
theorem ambidextertop_TopStopFromProfile.tab24 : rtab .any (opsOf Try.f3 24) = ambidextertop_TopStopFromProfile.T24 := by kernel_rfl
theorem ambidextertop_TopStopFromProfile.bits24 : waitsOk ambidextertop_TopStopFromProfile.T24.2 ambidextertop_TopStopFromProfile.B24 = true := by kernel_rfl
def ambidextertop_TopStopFromProfile.T32 : Bool × List (List Nat × List Nat) := (true, [([], []), ([], []), ([1], [1]), ([0, 2], [0, 2]), ([3], [3]), ([4], [4]), ([4], [4]), ([5, 6, 4], [4, 5, 6]), ([7, 4], [4, 7]), ([4], [4]), ([4], [4]), ([9, 10, 4], [4, 9, 10]), ([11, 4], [4, 11]), ([8, 12, 4], [4, 8, 12]), ([4, 13], [4, 13]), ([14, 4], [14]), ([15], [15]), ([15], [15]), ([16, 17, 15], [15, 16, 17]), ([18, 15], [15, 18]), ([15], [15]), ([20, 15], [15, 20]), ([19, 21, 15], [15, 19, 21]), ([15, 22], [15, 22]), ([23, 15], [23]), ([24], [24]), ([24], [24]), ([25, 26, 24], [24, 25, 26]), ([27, 24], [24, 27]), ([24], [24]), ([29, 24], [24, 29]), ([30, 24], [24, 30]), ([28, 31, 24], [24, 28, 31]), ([24, 32], [24, 32]), ([33, 24], [33]), ([34], [34]), ([34], [34]), ([35, 36, 34], [34, 35, 36]), ([37, 34], [34, 37]), ([38, 34], [34, 38]), ([34], [34]), ([40, 34], [34, 40]), ([39, 41, 34], [34, 39, 41]), ([34, 42], [34, 42]), ([43, 34], [43]), ([44], [44]), ([44], [44]), ([45, 46, 44], [44, 45, 46]), ([47, 44], [44, 47]), ([48, 44], [44, 48]), ([44], [44]), ([50, 44], [44, 50]), ([51, 44], [44, 51]), ([49, 52, 44], [44, 49, 52]), ([44, 53], [44, 53])])
def ambidextertop_TopStopFromProfile.B32 : List Nat := [0, 0, 2, 7, 15, 31, 31, 127, 255, 31, 31, 1567, 3615, 8191, 16383, 32767, 65535, 65535, 262143, 524287, 65535, 1114111, 4194303, 8388607, 16777215, 33554431, 33554431, 134217727, 268435455, 33554431, 570425343, 1644167167, 4294967295, 8589934591, 17179869183, 34359738367, 34359738367, 137438953471, 274877906943, 549755813887, 34359738367, 1133871366143, 4398046511103, 8796093022207, 17592186044415, 35184372088831, 35184372088831, 140737488355327, 281474976710655, 562949953421311, 35184372088831, 1161084278931455, 3412884092616703, 9007199254740991, 18014398509481983]
theorem ambidextertop_TopStopFromProfile.tab32 : rtab .any (opsOf Try.f3 32) = ambidextertop_TopStopFromProfile.T32 := by kernel_rfl
theorem ambidextertop_TopStopFromProfile.bits32 : waitsOk ambidextertop_TopStopFromProfile.T32.2 ambidextertop_TopStopFromProfile.B32 = true := by kernel_rfl
set_option maxHeartbeats 8000000 in
set_option maxRecDepth 100000 in
theorem ambidextertop_TopStopFromProfile.calls0 (k : Nat) (a0 : Int) (a1 : Int) (a2 : Int) (a3 : Int) (a4 : Int) (a5 : Int) (r : Bool) (w : World) (h : ambidextertop_TopStopFromProfile.f k a0 a1 a2 a3 a4 a5 = some r) (hT : r = true) :
  Calls Try.prog 3 #[.int .u8 a0, .int .u8 a1, .int .u8 a2, .int .u16 a3, .int .u16 a4, .int .u8 a5] w fun e w' => e = .returned (.bool r) ∧ Below w.heap.size w w' := by
 have hu25 := Try.underlying25
 have hu31 := Try.underlying31
 have HB := Aside0.mk (Below.refl w.heap.size w)
 have H : ((ambidextertop_head28.f k).bind fun t261 => (if t261 = true then ((ambidextertop_head25.f k).bind fun t262 => (ambidextertop_TopStopFromProfile.j0 k a0 a1 a2 a3 a4 a5 t262)) else (ambidextertop_TopStopFromProfile.j0 k a0 a1 a2 a3 a4 a5 false))) = some r := h
 clear h
 have HT := Aside0.mk hT
 clear hT
 have HC7 := Aside0.mk H
 clear H
 go_enter Try.func3, Try.ntmps3
 go_upto_region 1 with (fail)
 go_cut [13] (fun v13 wc => ∃ (kq : Nat) (x13_6 : Bool), v13 = .bool x13_6 ∧ Aside0 (ambidextertop_TopStopFromProfile.j0 kq a0 a1 a2 a3 a4 a5 x13_6 = some r) ∧ Aside0 (kq ≤ k) ∧ Aside0 (Below w.heap.size w wc))
 case first =>
  have H := HC7.out
  clear HC7
  replace H := Option.bind_eq_some_iff.mp H
  obtain ⟨t261, A80, H⟩ := H
  obtain rfl := ambidextertop_head28.is_true k A80
  replace H : (if true = true then ((ambidextertop_head25.f k).bind fun t262 => (ambidextertop_TopStopFromProfile.j0 k a0 a1 a2 a3 a4 a5 t262)) else (ambidextertop_TopStopFromProfile.j0 k a0 a1 a2 a3 a4 a5 false)) = some r := H
  have A8 := Aside0.mk A80
  clear A80
  have H1 : ((ambidextertop_head25.f k).bind fun t262 => (ambidextertop_TopStopFromProfile.j0 k a0 a1 a2 a3 a4 a5 t262)) = some r := by first | (rw [if_pos rfl] at H; exact H) | (rw [if_pos True.intro] at H; exact H)
  clear H
  have H := H1
  clear H1
  replace H := Option.bind_eq_some_iff.mp H
  obtain ⟨t262, A90, H⟩ := H
  obtain rfl := ambidextertop_head25.is_true k A90
  replace H : (ambidextertop_TopStopFromProfile.j0 k a0 a1 a2 a3 a4 a5 true) = some r := H
  have A9 := Aside0.mk A90
  clear A90
  have H' := Aside0.mk H
  clear H
  go_wp2_with (first | ((with_reducible refine gate_callee (f := 7) rfl ?_); refine goesL_ (some 27) rfl rfl Try.func7 (by kernel_rfl) rfl #[] rfl (by (try simp only [List.map_toArray, List.map_cons, List.map_nil]); first | done | rfl | (simp only [List.length_drop, List.length_take]; rfl)) ?_; (with_reducible refine (ambidextertop_head28.calls k  true _ A8.out).mono ?_); rintro e w10 ⟨rfl, hb⟩; refine ⟨_, rfl, ?_⟩; have n0_ := Aside0.mk (below_step (by repeat (first | (with_reducible first | exact HB.out | apply below_alloc | apply pw_below_drewN | apply below_drew1) | exact HB.out)) hb); clear HB; have HB := n0_; clear n0_; (try clear hb); (try clear hb2); (try clear hk); (try clear hi)) | (go_at_call 8; (with_reducible refine (ambidextertop_head25.calls k  true _ A9.out).mono ?_); rintro e w11 ⟨rfl, hb⟩; have n0_ := Aside0.mk (below_step (by repeat (first | (with_reducible first | exact HB.out | apply below_alloc | apply pw_below_drewN | apply below_drew1) | exact HB.out)) hb); clear HB; have HB := n0_; clear n0_; (try clear hb); (try clear hb2); (try clear hk); (try clear hi)))
  go_meet
  case rel => exact ⟨_, (true), (by first | rfl | (simp; done) | (simp [*]; done)), H', ⟨by first | omega | exact Nat.le_refl _⟩, ⟨by repeat (first | (with_reducible first | exact HB.out | apply below_alloc | apply pw_below_drewN | apply below_drew1) | exact HB.out)⟩⟩
 case rest => as_aux_lemma =>
  clear HC7
  try clear p2
  try clear c3
  try clear c7
  obtain ⟨kq, x13_6, rfl, HA, HJ6, HB⟩ := hcut
  cases kq with
  | zero => exact absurd HA.out (by simp [ambidextertop_TopStopFromProfile.j0])
  | succ kj6 =>
   have H := HA.out
   clear HA
   simp only [ambidextertop_TopStopFromProfile.j0] at H
   replace H := Option.bind_eq_some_iff.mp H
   obtain ⟨⟨t263, t264, t265⟩, A120, H⟩ := H
   replace H : ((mintime_Profile.f kj6 t263 t264 t265 (Int.tmod (wrap64 (a3)) 421)).bind fun bt267 => (if bt267.2 = true then (ambidextertop_TopStopFromProfile.j1 kj6 a4 a5 x13_6 bt267.1 ((bt267.1.length : Int) == 0) t263 t264 t265) else (ambidextertop_TopStopFromProfile.j1 kj6 a4 a5 x13_6 bt267.1 true t263 t264 t265))) = some r := H
   have A12 := Aside0.mk A120
   clear A120
   replace H := Option.bind_eq_some_iff.mp H
   obtain ⟨⟨t267, t270⟩, A130, H⟩ := H
   replace H : (if t270 = true then (ambidextertop_TopStopFromProfile.j1 kj6 a4 a5 x13_6 t267 ((t267.length : Int) == 0) t263 t264 t265) else (ambidextertop_TopStopFromProfile.j1 kj6 a4 a5 x13_6 t267 true t263 t264 t265)) = some r := H
   have A13 := Aside0.mk A130
   clear A130
   have HC14 := Aside0.mk H
   clear H
   go_upto_region 4 with (first | ((with_reducible refine gate_callee (f := 9) rfl ?_); refine goesL_ (some 34) rfl rfl Try.func9 (by kernel_rfl) rfl #[.int .u8 a0, .int .u8 a1, .int .u8 a2] rfl (by (try simp only [List.map_toArray, List.map_cons, List.map_nil]); first | done | rfl | (simp only [List.length_drop, List.length_take]; rfl)) ?_; (with_reducible refine (ambidextertop_limR14.calls a0 a1 a2 t263 t264 t265 _ A12.out).mono ?_); rintro e w15 ⟨rfl, hb⟩; refine ⟨_, rfl, ?_⟩; have n0_ := Aside0.mk (below_step (by repeat (first | (with_reducible first | exact HB.out | apply below_alloc | apply pw_below_drewN | apply below_drew1) | exact HB.out)) hb); clear HB; have HB := n0_; clear n0_; (try clear hb); (try clear hb2); (try clear hk); (try clear hi)) | ((with_reducible refine gate_dst (N := 14) rfl ?_); (try (refine gate_guard (by rfl) ?_; dsimp only)); refine box_event ?hg (N := 14) ?hd (cs := #[.int .i64 0, .int .i64 0, .int .i64 0]) (t := 25) ?hr ?_; (case hd => rfl); (case hg => rfl); (case hr => first | (go_simp; done) | (go_simp; rfl)); intro gb266 hg w16 hbox hb; have n0_ := Aside0.mk (below_step (by repeat (first | (with_reducible first | exact HB.out | apply below_alloc | apply pw_below_drewN | apply below_drew1) | exact HB.out)) hb); have n1_ := Aside0.mk (hbox); have n2_ := Aside0.mk ((by rw [hg]; exact (below_size (by repeat (first | (with_reducible first | exact HB.out | apply below_alloc | apply pw_below_drewN | apply below_drew1) | exact HB.out))) : w.heap.size ≤ gb266)); have n3_ := Aside0.mk ((by rw [hg]; exact (below_size (by repeat (first | (with_reducible first | exact HB.out | apply below_alloc | apply pw_below_drewN | apply below_drew1) | exact HB.out))) : w.heap.size ≤ gb266)); clear HB; have HB := n0_; have BK266 := n1_; have GW266 := n2_; have GE266 := n3_; clear n0_ n1_ n2_ n3_; clear hb hbox hg; have hcz17_0 : w16.cell? ⟨gb266, 0, none⟩ = some (.int .i64 0) := (blk_cell BK266.out 0).trans rfl; have hcz17_1 : w16.cell? ⟨gb266, 1, none⟩ = some (.int .i64 0) := (blk_cell BK266.out 1).trans rfl; have hcz17_2 : w16.cell? ⟨gb266, 2, none⟩ = some (.int .i64 0) := (blk_cell BK266.out 2).trans rfl; have hfz17_0 := blk_frozen BK266.out 0; have hfz17_1 := blk_frozen BK266.out 1; have hfz17_2 := blk_frozen BK266.out 2) | ((with_reducible refine gate_callee (f := 10) rfl ?_); refine goesL_ (some 40) rfl rfl Try.func10 (by kernel_rfl) rfl #[.agg #[.int .i64 t263, .int .i64 t264, .int .i64 t265], .int .i64 (Int.tmod (wrap64 (a3)) 421)] rfl (by (try simp only [List.map_toArray, List.map_cons, List.map_nil]); first | done | rfl | (simp only [List.length_drop, List.length_take]; rfl)) ?_; (with_reducible refine (mintime_Profile.calls kj6 t263 t264 t265 (Int.tmod (wrap64 (a3)) 421) t267 t270 _ A13.out).mono ?_); rintro e w18 ⟨v268, rfl, ho0, hb⟩; refine ⟨_, rfl, ?_⟩; have n0_ := Aside0.mk (Kd.R_lower ho0 (below_size (by repeat (first | (with_reducible first | exact HB.out | apply below_alloc | apply pw_below_drewN | apply below_drew1 | refine below_set ?_ GE266.out) | exact HB.out)))); have n1_ := Aside0.mk (blk_below (g := gb266) (o := .cells #[.int .i64 t263, .int .i64 t264, .int .i64 t265] 25 (0, 0)) (by (with_reducible repeat (first | refine blk_drewN ?_ _ | refine blk_drew ?_ | refine blk_alloc ?_ _)); refine blk_put (cs := #[.int .i64 t263, .int .i64 t264, .int .i64 0]) ?_ 2 _ rfl; (with_reducible repeat (first | refine blk_drewN ?_ _ | refine blk_drew ?_ | refine blk_alloc ?_ _)); refine blk_put (cs := #[.int .i64 t263, .int .i64 0, .int .i64 0]) ?_ 1 _ rfl; (with_reducible repeat (first | refine blk_drewN ?_ _ | refine blk_drew ?_ | refine blk_alloc ?_ _)); refine blk_put (cs := #[.int .i64 0, .int .i64 0, .int .i64 0]) ?_ 0 _ rfl; (with_reducible repeat (first | refine blk_drewN ?_ _ | refine blk_drew ?_ | refine blk_alloc ?_ _)); exact BK266.out) hb); have n2_ := Aside0.mk (below_step (by repeat (first | (with_reducible first | exact HB.out | apply below_alloc | apply pw_below_drewN | apply below_drew1 | refine below_set ?_ GE266.out) | exact HB.out)) hb); clear BK266; clear HB; have HO269 := n0_; have BK266 := n1_; have HB := n2_; clear n0_ n1_ n2_; (try clear hb); (try clear hb2); (try clear hk); (try clear hi); (try clear ho0)))
   (try simp only [Act.put, List.setIfInBounds_toArray, List.set_cons_zero, List.set_cons_succ])
   go_cut [49] (fun v49 wc => ∃ (kq : Nat) (x49_13 : Bool), v49 = .bool x49_13 ∧ Aside0 (ambidextertop_TopStopFromProfile.j1 kq a4 a5 x13_6 t267 x49_13 t263 t264 t265 = some r) ∧ Aside0 (kq ≤ kj6) ∧ Aside0 (Kd.R (Kd.int .i64) 3 wc w.heap.size (fun _ => True) v268 t267) ∧ Aside0 (wc.heap[gb266]? = some (.cells #[.int .i64 t263, .int .i64 t264, .int .i64 t265] 25 (0, 0))) ∧ Aside0 (Below w.heap.size w wc))
   case first =>
    have H := HC14.out
    clear HC14
    by_cases c19 : t270 = true
    ·
     subst c19
     have H1 : (ambidextertop_TopStopFromProfile.j1 kj6 a4 a5 x13_6 t267 ((t267.length : Int) == 0) t263 t264 t265) = some r := by rw [if_pos rfl] at H; exact H
     clear H
     have H := H1
     clear H1
     have H' := Aside0.mk H
     clear H
     obtain ⟨Ao20, co20, eo20⟩ := Kd.R_slice HO269.out
     subst eo20
     go_wp2
     go_meet
     case rel => exact ⟨_, (((t267.length : Int) == 0)), (by first | rfl | (simp; done) | (simp [*]; done)), H', ⟨by have := HJ6.out; first | omega | exact Nat.le_refl _⟩, ⟨by (with_reducible repeat (first | apply Kd.R_alloc | apply Kd.R_drewN | apply Kd.R_drew)); exact HO269.out⟩, ⟨by (with_reducible repeat (first | refine blk_drewN ?_ _ | refine blk_drew ?_ | refine blk_alloc ?_ _)); exact BK266.out⟩, ⟨by repeat (first | (with_reducible first | exact HB.out | apply below_alloc | apply pw_below_drewN | apply below_drew1 | refine below_set ?_ GE266.out) | exact HB.out)⟩⟩
    ·
     replace c19 := Bool.eq_false_iff.mpr c19
     subst c19
     have H1 : (ambidextertop_TopStopFromProfile.j1 kj6 a4 a5 x13_6 t267 true t263 t264 t265) = some r := by rw [if_neg (show ¬ (false = true) by decide)] at H; exact H
     clear H
     have H := H1
     clear H1
     have H' := Aside0.mk H
     clear H
     go_wp2
     go_meet
     case rel => exact ⟨_, (true), (by first | rfl | (simp; done) | (simp [*]; done)), H', ⟨by have := HJ6.out; first | omega | exact Nat.le_refl _⟩, ⟨by (with_reducible repeat (first | apply Kd.R_alloc | apply Kd.R_drewN | apply Kd.R_drew)); exact HO269.out⟩, ⟨by (with_reducible repeat (first | refine blk_drewN ?_ _ | refine blk_drew ?_ | refine blk_alloc ?_ _)); exact BK266.out⟩, ⟨by repeat (first | (with_reducible first | exact HB.out | apply below_alloc | apply pw_below_drewN | apply below_drew1 | refine below_set ?_ GE266.out) | exact HB.out)⟩⟩
   case rest => as_aux_lemma =>
    clear HC14
    try clear c1
    try clear p2
    try clear c3
    try clear p6
    try clear c7
    try clear c9
    try clear c10
    try clear c19
    try clear hcz17_0
    try clear hcz17_1
    try clear hcz17_2
    try clear hfz17_0
    try clear hfz17_1
    try clear hfz17_2
    try clear p2
    obtain ⟨kq, x49_13, rfl, HA, HJ13, HO_15, BK266, HB⟩ := hcut
    cases kq with
    | zero => exact absurd HA.out (by simp [ambidextertop_TopStopFromProfile.j1])
    | succ kj13 =>
     have H := HA.out
     clear HA
     simp only [ambidextertop_TopStopFromProfile.j1] at H
     by_cases c21 : x49_13 = true
     ·
      subst c21
      have H1 : (some x13_6) = some r := by rw [if_pos rfl] at H; exact H
      clear H
      have H := H1
      clear H1
      obtain rfl := Option.some.inj H
      go_wp2
      go_ret
      exact ⟨by first | rfl | (simp [errW_none, errW_some] <;> rfl) | (simp [*, errW_none, errW_some] <;> rfl), by repeat (first | (with_reducible first | exact HB.out | apply below_alloc | apply pw_below_drewN | apply below_drew1 | refine below_set ?_ GE266.out) | exact HB.out)⟩
     ·
      replace c21 := Bool.eq_false_iff.mpr c21
      subst c21
      have H1 : (if (wrap64 ((t267.length : Int) + 1)) = 0 then (none) else (if 0 ≤ (Int.tmod (wrap64 (a4)) (wrap64 ((t267.length : Int) + 1))) then (if (Int.tmod (wrap64 (a4)) (wrap64 ((t267.length : Int) + 1))) ≤ (t267.length : Int) then ((profile_Final.f 0 0 0 (t267.take ((Int.tmod (wrap64 (a4)) (wrap64 ((t267.length : Int) + 1))) : Int).toNat)).bind fun bt275 => ((braking_StopMotion.f kj13 t263 t264 t265 bt275.1 bt275.2.1 bt275.2.2 (Int.tmod (wrap64 (a5)) 3)).bind fun t279 => ((braking_Duration.f kj13 t263 t264 t265 bt275.1 bt275.2.1 bt275.2.2 (Int.tmod (wrap64 (a5)) 3)).bind fun t282 => (if (t279.length : Int) = t282 then (if bt275.2.1 = 0 then (ambidextertop_TopStopFromProfile.j2 kj13 x13_6 (Int.tmod (wrap64 (a5)) 3) t279 (!(((t279.length : Int) == 0) == (bt275.2.2 == 0))) t263 t264 t265 bt275.1 bt275.2.1 bt275.2.2) else (ambidextertop_TopStopFromProfile.j2 kj13 x13_6 (Int.tmod (wrap64 (a5)) 3) t279 (!(((t279.length : Int) == 0) == false)) t263 t264 t265 bt275.1 bt275.2.1 bt275.2.2)) else (ambidextertop_TopStopFromProfile.j2 kj13 x13_6 (Int.tmod (wrap64 (a5)) 3) t279 true t263 t264 t265 bt275.1 bt275.2.1 bt275.2.2))))) else (none)) else (none))) = some r := by rw [if_neg (show ¬ (false = true) by decide)] at H; exact H
      clear H
      have H := H1
      clear H1
      by_cases c22 : (wrap64 ((t267.length : Int) + 1)) = 0
      ·
       rw [if_pos c22] at H
       exact absurd H (by simp)
      ·
       rw [if_neg c22] at H
       have c22b0 : ((wrap64 ((t267.length : Int) + 1)) == 0) = false := beq_eq_false_iff_ne.mpr c22
       have c22b1 : ((wrap64 ((t267.length : Int) + 1)) != 0) = true := bne_iff_ne.mpr c22
       obtain ⟨ji23, hji23⟩ : ∃ j_ : Int, (Int.tmod (wrap64 (a4)) (wrap64 ((t267.length : Int) + 1))) = j_ := ⟨_, rfl⟩
       replace H : (if 0 ≤ (ji23) then (if (ji23) ≤ (t267.length : Int) then ((profile_Final.f 0 0 0 (t267.take ((ji23) : Int).toNat)).bind fun bt275 => ((braking_StopMotion.f kj13 t263 t264 t265 bt275.1 bt275.2.1 bt275.2.2 (Int.tmod (wrap64 (a5)) 3)).bind fun t279 => ((braking_Duration.f kj13 t263 t264 t265 bt275.1 bt275.2.1 bt275.2.2 (Int.tmod (wrap64 (a5)) 3)).bind fun t282 => (if (t279.length : Int) = t282 then (if bt275.2.1 = 0 then (ambidextertop_TopStopFromProfile.j2 kj13 x13_6 (Int.tmod (wrap64 (a5)) 3) t279 (!(((t279.length : Int) == 0) == (bt275.2.2 == 0))) t263 t264 t265 bt275.1 bt275.2.1 bt275.2.2) else (ambidextertop_TopStopFromProfile.j2 kj13 x13_6 (Int.tmod (wrap64 (a5)) 3) t279 (!(((t279.length : Int) == 0) == false)) t263 t264 t265 bt275.1 bt275.2.1 bt275.2.2)) else (ambidextertop_TopStopFromProfile.j2 kj13 x13_6 (Int.tmod (wrap64 (a5)) 3) t279 true t263 t264 t265 bt275.1 bt275.2.1 bt275.2.2))))) else (none)) else (none)) = some r := by first | (rw [hji23] at H; exact H) | (simp only [hji23] at H ⊢; exact H)
       by_cases c24 : 0 ≤ (ji23)
       ·
        rw [if_pos c24] at H
        have c24b0 := eq_true c24
        have c24b1 : decide (0 ≤ (ji23)) = true := decide_eq_true c24
        clear c24
        by_cases c25 : (ji23) ≤ (t267.length : Int)
        ·
         rw [if_pos c25] at H
         have c25b0 := eq_true c25
         have c25b1 : decide ((ji23) ≤ (t267.length : Int)) = true := decide_eq_true c25
         clear c25
         obtain ⟨y271, hy271⟩ : ∃ y_ : List Int, y_ = (t267.take ((ji23) : Int).toNat) := ⟨_, rfl⟩
         replace H : ((profile_Final.f 0 0 0 y271).bind fun bt275 => ((braking_StopMotion.f kj13 t263 t264 t265 bt275.1 bt275.2.1 bt275.2.2 (Int.tmod (wrap64 (a5)) 3)).bind fun t279 => ((braking_Duration.f kj13 t263 t264 t265 bt275.1 bt275.2.1 bt275.2.2 (Int.tmod (wrap64 (a5)) 3)).bind fun t282 => (if (t279.length : Int) = t282 then (if bt275.2.1 = 0 then (ambidextertop_TopStopFromProfile.j2 kj13 x13_6 (Int.tmod (wrap64 (a5)) 3) t279 (!(((t279.length : Int) == 0) == (bt275.2.2 == 0))) t263 t264 t265 bt275.1 bt275.2.1 bt275.2.2) else (ambidextertop_TopStopFromProfile.j2 kj13 x13_6 (Int.tmod (wrap64 (a5)) 3) t279 (!(((t279.length : Int) == 0) == false)) t263 t264 t265 bt275.1 bt275.2.1 bt275.2.2)) else (ambidextertop_TopStopFromProfile.j2 kj13 x13_6 (Int.tmod (wrap64 (a5)) 3) t279 true t263 t264 t265 bt275.1 bt275.2.1 bt275.2.2))))) = some r := by first | (rw [hy271]; with_reducible exact H) | (have H2_ := (Option.bind_some _ _).symm.trans H; rw [hy271]; with_reducible exact H2_) | (have H2_ := (Option.bind_some _ _).symm.trans H; with_reducible exact H2_) | with_reducible exact H | (rw [hy271]; exact H) | exact H
         have Ny271 := Aside0.mk hy271
         clear hy271
         replace H := Option.bind_eq_some_iff.mp H
         obtain ⟨⟨t275, t276, t277⟩, A260, H⟩ := H
         replace H : ((braking_StopMotion.f kj13 t263 t264 t265 t275 t276 t277 (Int.tmod (wrap64 (a5)) 3)).bind fun t279 => ((braking_Duration.f kj13 t263 t264 t265 t275 t276 t277 (Int.tmod (wrap64 (a5)) 3)).bind fun t282 => (if (t279.length : Int) = t282 then (if t276 = 0 then (ambidextertop_TopStopFromProfile.j2 kj13 x13_6 (Int.tmod (wrap64 (a5)) 3) t279 (!(((t279.length : Int) == 0) == (t277 == 0))) t263 t264 t265 t275 t276 t277) else (ambidextertop_TopStopFromProfile.j2 kj13 x13_6 (Int.tmod (wrap64 (a5)) 3) t279 (!(((t279.length : Int) == 0) == false)) t263 t264 t265 t275 t276 t277)) else (ambidextertop_TopStopFromProfile.j2 kj13 x13_6 (Int.tmod (wrap64 (a5)) 3) t279 true t263 t264 t265 t275 t276 t277)))) = some r := H
         have A26 := Aside0.mk A260
         clear A260
         replace H := Option.bind_eq_some_iff.mp H
         obtain ⟨t279, A270, H⟩ := H
         replace H : ((braking_Duration.f kj13 t263 t264 t265 t275 t276 t277 (Int.tmod (wrap64 (a5)) 3)).bind fun t282 => (if (t279.length : Int) = t282 then (if t276 = 0 then (ambidextertop_TopStopFromProfile.j2 kj13 x13_6 (Int.tmod (wrap64 (a5)) 3) t279 (!(((t279.length : Int) == 0) == (t277 == 0))) t263 t264 t265 t275 t276 t277) else (ambidextertop_TopStopFromProfile.j2 kj13 x13_6 (Int.tmod (wrap64 (a5)) 3) t279 (!(((t279.length : Int) == 0) == false)) t263 t264 t265 t275 t276 t277)) else (ambidextertop_TopStopFromProfile.j2 kj13 x13_6 (Int.tmod (wrap64 (a5)) 3) t279 true t263 t264 t265 t275 t276 t277))) = some r := H
         have A27 := Aside0.mk A270
         clear A270
         have HC28 := Aside0.mk H
         clear H
         obtain ⟨Ao29, co29, eo29⟩ := Kd.R_slice HO_15.out
         subst eo29
         have q30 : ((ji23) : Int) ≤ ((t267.length : Int) : Int) := of_decide_eq_true (by first | (with_reducible assumption) | assumption)
         obtain ⟨i030, hi030, _, hsz30, _⟩ := info_parts info3
         have hroom30 : t267.length ≤ co29 := (Kd.R_reads' HO_15.out).2.1
         have hC30 : Kd.C (Kd.int .i64) _ Ao29 t267.length t267 := (Kd.R_reads' HO_15.out).2.2
         have hcut30 := cut_to (P := Try.prog) 27 3 .i64 Try.underlying27 hi030 Ao29 t267.length co29 (ji23) (of_decide_eq_true (by first | (with_reducible assumption) | assumption)) q30 hroom30
         have hr30 := Kd.C_take (m := ((ji23) : Int).toNat) hC30 (by omega)
         have hy30 : y271.length = ((ji23) : Int).toNat := (by rw [Ny271.out, List.length_take]; omega)
         rw [← Ny271.out] at hr30
         rw [← hy30] at hcut30
         have HR274 := Aside0.mk hr30
         have HC274 := Aside0.mk (show y271.length ≤ co29 from by omega)
         clear hr30 hC30 hroom30 hi030 hsz30
         have KY30 := Aside0.mk hy30
         clear hy30
         have KL30 := Aside0.mk (show ((ji23) : Int).toNat ≤ t267.length from by omega)
         replace q30 := eq_true q30
         go_upto_region 9 with (first | ((with_reducible refine gate_callee (f := 11) rfl ?_); refine goesL_ (some 60) rfl rfl Try.func11 (by kernel_rfl) rfl #[.agg #[.int .i64 0, .int .i64 0, .int .i64 0], .slice Ao29 y271.length co29] rfl (by (try simp only [List.map_toArray, List.map_cons, List.map_nil]); first | done | rfl | (simp only [List.length_drop, List.length_take]; rfl)) ?_; (with_reducible refine (profile_Final.calls 0 0 0 _ _ y271 t275 t276 t277 _ ?side1 ?side2 A26.out).mono ?_); (case side1 => repeat (first | exact (by repeat (first | (with_reducible exact HR274.out) | (with_reducible refine Kd.C_alloc ?_ _) | (with_reducible refine Kd.C_drewN ?_ _) | (with_reducible refine Kd.C_drew ?_) | exact HR274.out)) | (with_reducible refine Kd.C_alloc ?_ _) | (with_reducible refine Kd.C_drewN ?_ _) | (with_reducible refine Kd.C_drew ?_))); (case side2 => exact HC274.out); rintro e w31 ⟨rfl, hb⟩; refine ⟨_, rfl, ?_⟩; have n0_ := Aside0.mk (Kd.R_below (by (with_reducible repeat (first | apply Kd.R_alloc | apply Kd.R_drewN | apply Kd.R_drew)); exact HO_15.out) hb); have n1_ := Aside0.mk (blk_below (g := gb266) (o := .cells #[.int .i64 t263, .int .i64 t264, .int .i64 t265] 25 (0, 0)) (by (with_reducible repeat (first | refine blk_drewN ?_ _ | refine blk_drew ?_ | refine blk_alloc ?_ _)); exact BK266.out) hb); have n2_ := Aside0.mk (Kd.C_below (by repeat (first | (with_reducible exact HR274.out) | (with_reducible refine Kd.C_alloc ?_ _) | (with_reducible refine Kd.C_drewN ?_ _) | (with_reducible refine Kd.C_drew ?_) | exact HR274.out)) hb); have n3_ := Aside0.mk (below_step (by repeat (first | (with_reducible first | exact HB.out | apply below_alloc | apply pw_below_drewN | apply below_drew1 | refine below_set ?_ GE266.out) | exact HB.out)) hb); clear HO_15; clear BK266; clear HR274; clear HB; have HO_15 := n0_; have BK266 := n1_; have HR274 := n2_; have HB := n3_; clear n0_ n1_ n2_ n3_; (try clear hb); (try clear hb2); (try clear hk); (try clear hi)) | ((with_reducible refine gate_dst (N := 17) rfl ?_); (try (refine gate_guard (by rfl) ?_; dsimp only)); refine box_event ?hg (N := 17) ?hd (cs := #[.int .i64 0, .int .i64 0, .int .i64 0]) (t := 31) ?hr ?_; (case hd => rfl); (case hg => rfl); (case hr => first | (go_simp; done) | (go_simp; rfl)); intro gb278 hg w32 hbox hb; have n0_ := Aside0.mk (Kd.R_below (by (with_reducible repeat (first | apply Kd.R_alloc | apply Kd.R_drewN | apply Kd.R_drew)); exact HO_15.out) hb); have n1_ := Aside0.mk (blk_below (g := gb266) (o := .cells #[.int .i64 t263, .int .i64 t264, .int .i64 t265] 25 (0, 0)) (by (with_reducible repeat (first | refine blk_drewN ?_ _ | refine blk_drew ?_ | refine blk_alloc ?_ _)); exact BK266.out) hb); have n2_ := Aside0.mk (Kd.C_below (by repeat (first | (with_reducible exact HR274.out) | (with_reducible refine Kd.C_alloc ?_ _) | (with_reducible refine Kd.C_drewN ?_ _) | (with_reducible refine Kd.C_drew ?_) | exact HR274.out)) hb); have n3_ := Aside0.mk (below_step (by repeat (first | (with_reducible first | exact HB.out | apply below_alloc | apply pw_below_drewN | apply below_drew1 | refine below_set ?_ GE266.out) | exact HB.out)) hb); have n4_ := Aside0.mk (hbox); have n5_ := Aside0.mk ((by rw [hg]; exact (below_size (by repeat (first | (with_reducible first | exact HB.out | apply below_alloc | apply pw_below_drewN | apply below_drew1 | refine below_set ?_ GE266.out) | exact HB.out))) : w.heap.size ≤ gb278)); have n6_ := Aside0.mk ((by rw [hg]; exact (below_size (by repeat (first | (with_reducible first | exact HB.out | apply below_alloc | apply pw_below_drewN | apply below_drew1 | refine below_set ?_ GE266.out) | exact HB.out))) : w.heap.size ≤ gb278)); have n7_ := Aside0.mk ((by rw [hg]; exact Nat.ne_of_lt (blk_lt (g := gb266) (o := .cells #[.int .i64 t263, .int .i64 t264, .int .i64 t265] 25 (0, 0)) (by (with_reducible repeat (first | refine blk_drewN ?_ _ | refine blk_drew ?_ | refine blk_alloc ?_ _)); exact BK266.out)) : gb266 ≠ gb278)); have n8_ := Aside0.mk ((by rw [hg]; exact Nat.ne_of_gt (blk_lt (g := gb266) (o := .cells #[.int .i64 t263, .int .i64 t264, .int .i64 t265] 25 (0, 0)) (by (with_reducible repeat (first | refine blk_drewN ?_ _ | refine blk_drew ?_ | refine blk_alloc ?_ _)); exact BK266.out)) : gb278 ≠ gb266)); clear HO_15; clear BK266; clear HR274; clear HB; have HO_15 := n0_; have BK266 := n1_; have HR274 := n2_; have HB := n3_; have BK278 := n4_; have GW278 := n5_; have GE278 := n6_; have NB266_278 := n7_; have NB278_266 := n8_; clear n0_ n1_ n2_ n3_ n4_ n5_ n6_ n7_ n8_; clear hb hbox hg; have hnb33 := NB278_266.out; have hnc33 := NB266_278.out; have hcz34_0 : w32.cell? ⟨gb278, 0, none⟩ = some (.int .i64 0) := (blk_cell BK278.out 0).trans rfl; have hcz34_1 : w32.cell? ⟨gb278, 1, none⟩ = some (.int .i64 0) := (blk_cell BK278.out 1).trans rfl; have hcz34_2 : w32.cell? ⟨gb278, 2, none⟩ = some (.int .i64 0) := (blk_cell BK278.out 2).trans rfl; have hfz34_0 := blk_frozen BK278.out 0; have hfz34_1 := blk_frozen BK278.out 1; have hfz34_2 := blk_frozen BK278.out 2; have hcz35_0 : w32.cell? ⟨gb266, 0, none⟩ = some (.int .i64 t263) := (blk_cell BK266.out 0).trans rfl; have hcz35_1 : w32.cell? ⟨gb266, 1, none⟩ = some (.int .i64 t264) := (blk_cell BK266.out 1).trans rfl; have hcz35_2 : w32.cell? ⟨gb266, 2, none⟩ = some (.int .i64 t265) := (blk_cell BK266.out 2).trans rfl; have hfz35_0 := blk_frozen BK266.out 0; have hfz35_1 := blk_frozen BK266.out 1; have hfz35_2 := blk_frozen BK266.out 2) | ((with_reducible refine gate_callee (f := 12) rfl ?_); refine goesL_ (some 67) rfl rfl Try.func12 (by kernel_rfl) rfl #[.agg #[.int .i64 t263, .int .i64 t264, .int .i64 t265], .agg #[.int .i64 t275, .int .i64 t276, .int .i64 t277], .int .i64 (Int.tmod (wrap64 (a5)) 3)] rfl (by (try simp only [List.map_toArray, List.map_cons, List.map_nil]); first | done | rfl | (simp only [List.length_drop, List.length_take]; rfl)) ?_; (with_reducible refine (braking_StopMotion.calls kj13 t263 t264 t265 t275 t276 t277 (Int.tmod (wrap64 (a5)) 3) t279 _ A27.out).mono ?_); rintro e w36 ⟨v280, rfl, ho0, hb⟩; refine ⟨_, rfl, ?_⟩; have n0_ := Aside0.mk (Kd.R_below (by (with_reducible repeat (first | apply Kd.R_alloc | apply Kd.R_drewN | apply Kd.R_drew)); exact (Kd.R_mono (Kd.R_far (p := ⟨gb278, 2, none⟩) (Kd.R_far (p := ⟨gb278, 1, none⟩) (Kd.R_far (p := ⟨gb278, 0, none⟩) (Kd.R_types HO_15.out BK278.out (by decide)) (fun _ hk => hk.2) (.int .i64 t275)) (fun _ hk => hk.2) (.int .i64 t276)) (fun _ hk => hk.2) (.int .i64 t277)) (fun _ h_ => h_.1))) hb); have n1_ := Aside0.mk (Kd.R_lower (Kd.R_newB ho0 (g := gb278) (o := .cells #[.int .i64 t275, .int .i64 t276, .int .i64 t277] 31 (0, 0)) (by (with_reducible repeat (first | refine blk_drewN ?_ _ | refine blk_drew ?_ | refine blk_alloc ?_ _)); refine blk_put (cs := #[.int .i64 t275, .int .i64 t276, .int .i64 0]) ?_ 2 _ rfl; (with_reducible repeat (first | refine blk_drewN ?_ _ | refine blk_drew ?_ | refine blk_alloc ?_ _)); refine blk_put (cs := #[.int .i64 t275, .int .i64 0, .int .i64 0]) ?_ 1 _ rfl; (with_reducible repeat (first | refine blk_drewN ?_ _ | refine blk_drew ?_ | refine blk_alloc ?_ _)); refine blk_put (cs := #[.int .i64 0, .int .i64 0, .int .i64 0]) ?_ 0 _ rfl; (with_reducible repeat (first | refine blk_drewN ?_ _ | refine blk_drew ?_ | refine blk_alloc ?_ _)); exact BK278.out)) (below_size (by repeat (first | (with_reducible first | exact HB.out | apply below_alloc | apply pw_below_drewN | apply below_drew1 | refine below_set ?_ GE266.out | refine below_set ?_ GE278.out) | exact HB.out)))); have n2_ := Aside0.mk (blk_below (g := gb266) (o := .cells #[.int .i64 t263, .int .i64 t264, .int .i64 t265] 25 (0, 0)) (by (with_reducible repeat (first | refine blk_drewN ?_ _ | refine blk_drew ?_ | refine blk_alloc ?_ _)); refine blk_far ?_ NB266_278.out _; (with_reducible repeat (first | refine blk_drewN ?_ _ | refine blk_drew ?_ | refine blk_alloc ?_ _)); refine blk_far ?_ NB266_278.out _; (with_reducible repeat (first | refine blk_drewN ?_ _ | refine blk_drew ?_ | refine blk_alloc ?_ _)); refine blk_far ?_ NB266_278.out _; (with_reducible repeat (first | refine blk_drewN ?_ _ | refine blk_drew ?_ | refine blk_alloc ?_ _)); exact BK266.out) hb); have n3_ := Aside0.mk (blk_below (g := gb278) (o := .cells #[.int .i64 t275, .int .i64 t276, .int .i64 t277] 31 (0, 0)) (by (with_reducible repeat (first | refine blk_drewN ?_ _ | refine blk_drew ?_ | refine blk_alloc ?_ _)); refine blk_put (cs := #[.int .i64 t275, .int .i64 t276, .int .i64 0]) ?_ 2 _ rfl; (with_reducible repeat (first | refine blk_drewN ?_ _ | refine blk_drew ?_ | refine blk_alloc ?_ _)); refine blk_put (cs := #[.int .i64 t275, .int .i64 0, .int .i64 0]) ?_ 1 _ rfl; (with_reducible repeat (first | refine blk_drewN ?_ _ | refine blk_drew ?_ | refine blk_alloc ?_ _)); refine blk_put (cs := #[.int .i64 0, .int .i64 0, .int .i64 0]) ?_ 0 _ rfl; (with_reducible repeat (first | refine blk_drewN ?_ _ | refine blk_drew ?_ | refine blk_alloc ?_ _)); exact BK278.out) hb); have n4_ := Aside0.mk (below_step (by repeat (first | (with_reducible first | exact HB.out | apply below_alloc | apply pw_below_drewN | apply below_drew1 | refine below_set ?_ GE266.out | refine below_set ?_ GE278.out) | exact HB.out)) hb); clear HO_15; clear BK266; clear BK278; clear HB; have HO_15 := n0_; have HO281 := n1_; have BK266 := n2_; have BK278 := n3_; have HB := n4_; clear n0_ n1_ n2_ n3_ n4_; (try clear hb); (try clear hb2); (try clear hk); (try clear hi); (try clear ho0)))
         (try simp only [Act.put, List.setIfInBounds_toArray, List.set_cons_zero, List.set_cons_succ])
         go_cut [88] (fun v88 wc => ∃ (kq : Nat) (x88_27 : Bool), v88 = .bool x88_27 ∧ Aside0 (ambidextertop_TopStopFromProfile.j2 kq x13_6 (Int.tmod (wrap64 (a5)) 3) t279 x88_27 t263 t264 t265 t275 t276 t277 = some r) ∧ Aside0 (kq ≤ kj13) ∧ Aside0 (Kd.R k31 31 wc w.heap.size (fun k_ => k_ ≠ gb278) v280 t279) ∧ Aside0 (wc.heap[gb266]? = some (.cells #[.int .i64 t263, .int .i64 t264, .int .i64 t265] 25 (0, 0))) ∧ Aside0 (wc.heap[gb278]? = some (.cells #[.int .i64 t275, .int .i64 t276, .int .i64 t277] 31 (0, 0))) ∧ Aside0 (Below w.heap.size w wc))
         case first =>
          have H := HC28.out
          clear HC28
          replace H := Option.bind_eq_some_iff.mp H
          obtain ⟨t282, A370, H⟩ := H
          replace H : (if (t279.length : Int) = t282 then (if t276 = 0 then (ambidextertop_TopStopFromProfile.j2 kj13 x13_6 (Int.tmod (wrap64 (a5)) 3) t279 (!(((t279.length : Int) == 0) == (t277 == 0))) t263 t264 t265 t275 t276 t277) else (ambidextertop_TopStopFromProfile.j2 kj13 x13_6 (Int.tmod (wrap64 (a5)) 3) t279 (!(((t279.length : Int) == 0) == false)) t263 t264 t265 t275 t276 t277)) else (ambidextertop_TopStopFromProfile.j2 kj13 x13_6 (Int.tmod (wrap64 (a5)) 3) t279 true t263 t264 t265 t275 t276 t277)) = some r := H
          have A37 := Aside0.mk A370
          clear A370
          by_cases c38 : (t279.length : Int) = t282
          ·
           rw [if_pos c38] at H
           have c38b0 : ((t279.length : Int) == t282) = true := beq_iff_eq.mpr c38
           have c38b1 : ((t279.length : Int) != t282) = false := bne_eq_false_iff_eq.mpr c38
           clear c38
           (first | rw [c38b0] | (simp only [i64_w, i32_w]; rw [c38b0]) | skip)
           by_cases c39 : t276 = 0
           ·
            rw [if_pos c39] at H
            have c39b0 : (t276 == 0) = true := beq_iff_eq.mpr c39
            have c39b1 : (t276 != 0) = false := bne_eq_false_iff_eq.mpr c39
            clear c39
            have H' := Aside0.mk H
            clear H
            obtain ⟨Ao40, co40, eo40⟩ := Kd.R_slice HO281.out
            subst eo40
            have hnb41 := NB266_278.out
            have hnc41 := NB278_266.out
            have hcz42_0 : w36.cell? ⟨gb266, 0, none⟩ = some (.int .i64 t263) := (blk_cell BK266.out 0).trans rfl
            have hcz42_1 : w36.cell? ⟨gb266, 1, none⟩ = some (.int .i64 t264) := (blk_cell BK266.out 1).trans rfl
            have hcz42_2 : w36.cell? ⟨gb266, 2, none⟩ = some (.int .i64 t265) := (blk_cell BK266.out 2).trans rfl
            have hfz42_0 := blk_frozen BK266.out 0
            have hfz42_1 := blk_frozen BK266.out 1
            have hfz42_2 := blk_frozen BK266.out 2
            have hcz43_0 : w36.cell? ⟨gb278, 0, none⟩ = some (.int .i64 t275) := (blk_cell BK278.out 0).trans rfl
            have hcz43_1 : w36.cell? ⟨gb278, 1, none⟩ = some (.int .i64 t276) := (blk_cell BK278.out 1).trans rfl
            have hcz43_2 : w36.cell? ⟨gb278, 2, none⟩ = some (.int .i64 t277) := (blk_cell BK278.out 2).trans rfl
            have hfz43_0 := blk_frozen BK278.out 0
            have hfz43_1 := blk_frozen BK278.out 1
            have hfz43_2 := blk_frozen BK278.out 2
            go_wp2_with (first | ((with_reducible refine gate_callee (f := 13) rfl ?_); refine goesL_ (some 73) rfl rfl Try.func13 (by kernel_rfl) rfl #[.agg #[.int .i64 t263, .int .i64 t264, .int .i64 t265], .agg #[.int .i64 t275, .int .i64 t276, .int .i64 t277], .int .i64 (Int.tmod (wrap64 (a5)) 3)] rfl (by (try simp only [List.map_toArray, List.map_cons, List.map_nil]); first | done | rfl | (simp only [List.length_drop, List.length_take]; rfl)) ?_; (with_reducible refine (braking_Duration.calls kj13 t263 t264 t265 t275 t276 t277 (Int.tmod (wrap64 (a5)) 3) t282 _ A37.out).mono ?_); rintro e w44 ⟨rfl, hb⟩; refine ⟨_, rfl, ?_⟩; have n0_ := Aside0.mk (Kd.R_below (by (with_reducible repeat (first | apply Kd.R_alloc | apply Kd.R_drewN | apply Kd.R_drew)); exact HO_15.out) hb); have n1_ := Aside0.mk (Kd.R_below (by (with_reducible repeat (first | apply Kd.R_alloc | apply Kd.R_drewN | apply Kd.R_drew)); exact HO281.out) hb); have n2_ := Aside0.mk (blk_below (g := gb266) (o := .cells #[.int .i64 t263, .int .i64 t264, .int .i64 t265] 25 (0, 0)) (by (with_reducible repeat (first | refine blk_drewN ?_ _ | refine blk_drew ?_ | refine blk_alloc ?_ _)); exact BK266.out) hb); have n3_ := Aside0.mk (blk_below (g := gb278) (o := .cells #[.int .i64 t275, .int .i64 t276, .int .i64 t277] 31 (0, 0)) (by (with_reducible repeat (first | refine blk_drewN ?_ _ | refine blk_drew ?_ | refine blk_alloc ?_ _)); exact BK278.out) hb); have n4_ := Aside0.mk (below_step (by repeat (first | (with_reducible first | exact HB.out | apply below_alloc | apply pw_below_drewN | apply below_drew1 | refine below_set ?_ GE266.out | refine below_set ?_ GE278.out) | exact HB.out)) hb); clear HO_15; clear HO281; clear BK266; clear BK278; clear HB; have HO_15 := n0_; have HO281 := n1_; have BK266 := n2_; have BK278 := n3_; have HB := n4_; clear n0_ n1_ n2_ n3_ n4_; (try clear hb); (try clear hb2); (try clear hk); (try clear hi); have hcz45_0 : w44.cell? ⟨gb278, 0, none⟩ = some (.int .i64 t275) := (blk_cell BK278.out 0).trans rfl; have hcz45_1 : w44.cell? ⟨gb278, 1, none⟩ = some (.int .i64 t276) := (blk_cell BK278.out 1).trans rfl; have hcz45_2 : w44.cell? ⟨gb278, 2, none⟩ = some (.int .i64 t277) := (blk_cell BK278.out 2).trans rfl; have hfz45_0 := blk_frozen BK278.out 0; have hfz45_1 := blk_frozen BK278.out 1; have hfz45_2 := blk_frozen BK278.out 2))
            go_meet
            case rel => exact ⟨_, ((!(((t279.length : Int) == 0) == (t277 == 0)))), (by first | rfl | (simp; done) | (simp [*]; done)), H', ⟨by have := HJ6.out; have := HJ13.out; first | omega | exact Nat.le_refl _⟩, ⟨by (with_reducible repeat (first | apply Kd.R_alloc | apply Kd.R_drewN | apply Kd.R_drew)); exact Kd.R_mono HO281.out (fun _ hk => hk.2)⟩, ⟨by (with_reducible repeat (first | refine blk_drewN ?_ _ | refine blk_drew ?_ | refine blk_alloc ?_ _)); exact BK266.out⟩, ⟨by (with_reducible repeat (first | refine blk_drewN ?_ _ | refine blk_drew ?_ | refine blk_alloc ?_ _)); exact BK278.out⟩, ⟨by repeat (first | (with_reducible first | exact HB.out | apply below_alloc | apply pw_below_drewN | apply below_drew1 | refine below_set ?_ GE266.out | refine below_set ?_ GE278.out) | exact HB.out)⟩⟩
           ·
            rw [if_neg c39] at H
            have c39b0 : (t276 == 0) = false := beq_eq_false_iff_ne.mpr c39
            have c39b1 : (t276 != 0) = true := bne_iff_ne.mpr c39
            have H' := Aside0.mk H
            clear H
            obtain ⟨Ao46, co46, eo46⟩ := Kd.R_slice HO281.out
            subst eo46
            have hnb47 := NB266_278.out
            have hnc47 := NB278_266.out
            have hcz48_0 : w36.cell? ⟨gb266, 0, none⟩ = some (.int .i64 t263) := (blk_cell BK266.out 0).trans rfl
            have hcz48_1 : w36.cell? ⟨gb266, 1, none⟩ = some (.int .i64 t264) := (blk_cell BK266.out 1).trans rfl
            have hcz48_2 : w36.cell? ⟨gb266, 2, none⟩ = some (.int .i64 t265) := (blk_cell BK266.out 2).trans rfl
            have hfz48_0 := blk_frozen BK266.out 0
            have hfz48_1 := blk_frozen BK266.out 1
            have hfz48_2 := blk_frozen BK266.out 2
            have hcz49_0 : w36.cell? ⟨gb278, 0, none⟩ = some (.int .i64 t275) := (blk_cell BK278.out 0).trans rfl
            have hcz49_1 : w36.cell? ⟨gb278, 1, none⟩ = some (.int .i64 t276) := (blk_cell BK278.out 1).trans rfl
            have hcz49_2 : w36.cell? ⟨gb278, 2, none⟩ = some (.int .i64 t277) := (blk_cell BK278.out 2).trans rfl
            have hfz49_0 := blk_frozen BK278.out 0
            have hfz49_1 := blk_frozen BK278.out 1
            have hfz49_2 := blk_frozen BK278.out 2
            go_wp2_with (first | ((with_reducible refine gate_callee (f := 13) rfl ?_); refine goesL_ (some 73) rfl rfl Try.func13 (by kernel_rfl) rfl #[.agg #[.int .i64 t263, .int .i64 t264, .int .i64 t265], .agg #[.int .i64 t275, .int .i64 t276, .int .i64 t277], .int .i64 (Int.tmod (wrap64 (a5)) 3)] rfl (by (try simp only [List.map_toArray, List.map_cons, List.map_nil]); first | done | rfl | (simp only [List.length_drop, List.length_take]; rfl)) ?_; (with_reducible refine (braking_Duration.calls kj13 t263 t264 t265 t275 t276 t277 (Int.tmod (wrap64 (a5)) 3) t282 _ A37.out).mono ?_); rintro e w50 ⟨rfl, hb⟩; refine ⟨_, rfl, ?_⟩; have n0_ := Aside0.mk (Kd.R_below (by (with_reducible repeat (first | apply Kd.R_alloc | apply Kd.R_drewN | apply Kd.R_drew)); exact HO_15.out) hb); have n1_ := Aside0.mk (Kd.R_below (by (with_reducible repeat (first | apply Kd.R_alloc | apply Kd.R_drewN | apply Kd.R_drew)); exact HO281.out) hb); have n2_ := Aside0.mk (blk_below (g := gb266) (o := .cells #[.int .i64 t263, .int .i64 t264, .int .i64 t265] 25 (0, 0)) (by (with_reducible repeat (first | refine blk_drewN ?_ _ | refine blk_drew ?_ | refine blk_alloc ?_ _)); exact BK266.out) hb); have n3_ := Aside0.mk (blk_below (g := gb278) (o := .cells #[.int .i64 t275, .int .i64 t276, .int .i64 t277] 31 (0, 0)) (by (with_reducible repeat (first | refine blk_drewN ?_ _ | refine blk_drew ?_ | refine blk_alloc ?_ _)); exact BK278.out) hb); have n4_ := Aside0.mk (below_step (by repeat (first | (with_reducible first | exact HB.out | apply below_alloc | apply pw_below_drewN | apply below_drew1 | refine below_set ?_ GE266.out | refine below_set ?_ GE278.out) | exact HB.out)) hb); clear HO_15; clear HO281; clear BK266; clear BK278; clear HB; have HO_15 := n0_; have HO281 := n1_; have BK266 := n2_; have BK278 := n3_; have HB := n4_; clear n0_ n1_ n2_ n3_ n4_; (try clear hb); (try clear hb2); (try clear hk); (try clear hi); have hcz51_0 : w50.cell? ⟨gb278, 0, none⟩ = some (.int .i64 t275) := (blk_cell BK278.out 0).trans rfl; have hcz51_1 : w50.cell? ⟨gb278, 1, none⟩ = some (.int .i64 t276) := (blk_cell BK278.out 1).trans rfl; have hcz51_2 : w50.cell? ⟨gb278, 2, none⟩ = some (.int .i64 t277) := (blk_cell BK278.out 2).trans rfl; have hfz51_0 := blk_frozen BK278.out 0; have hfz51_1 := blk_frozen BK278.out 1; have hfz51_2 := blk_frozen BK278.out 2))
            go_meet
            case rel => exact ⟨_, ((!(((t279.length : Int) == 0) == false))), (by first | rfl | (simp; done) | (simp [*]; done)), H', ⟨by have := HJ6.out; have := HJ13.out; first | omega | exact Nat.le_refl _⟩, ⟨by (with_reducible repeat (first | apply Kd.R_alloc | apply Kd.R_drewN | apply Kd.R_drew)); exact Kd.R_mono HO281.out (fun _ hk => hk.2)⟩, ⟨by (with_reducible repeat (first | refine blk_drewN ?_ _ | refine blk_drew ?_ | refine blk_alloc ?_ _)); exact BK266.out⟩, ⟨by (with_reducible repeat (first | refine blk_drewN ?_ _ | refine blk_drew ?_ | refine blk_alloc ?_ _)); exact BK278.out⟩, ⟨by repeat (first | (with_reducible first | exact HB.out | apply below_alloc | apply pw_below_drewN | apply below_drew1 | refine below_set ?_ GE266.out | refine below_set ?_ GE278.out) | exact HB.out)⟩⟩
          ·
           rw [if_neg c38] at H
           have c38b0 : ((t279.length : Int) == t282) = false := beq_eq_false_iff_ne.mpr c38
           have c38b1 : ((t279.length : Int) != t282) = true := bne_iff_ne.mpr c38
           (first | rw [c38b0] | (simp only [i64_w, i32_w]; rw [c38b0]) | skip)
           have H' := Aside0.mk H
           clear H
           obtain ⟨Ao52, co52, eo52⟩ := Kd.R_slice HO281.out
           subst eo52
           have hnb53 := NB266_278.out
           have hnc53 := NB278_266.out
           have hcz54_0 : w36.cell? ⟨gb266, 0, none⟩ = some (.int .i64 t263) := (blk_cell BK266.out 0).trans rfl
           have hcz54_1 : w36.cell? ⟨gb266, 1, none⟩ = some (.int .i64 t264) := (blk_cell BK266.out 1).trans rfl
           have hcz54_2 : w36.cell? ⟨gb266, 2, none⟩ = some (.int .i64 t265) := (blk_cell BK266.out 2).trans rfl
           have hfz54_0 := blk_frozen BK266.out 0
           have hfz54_1 := blk_frozen BK266.out 1
           have hfz54_2 := blk_frozen BK266.out 2
           have hcz55_0 : w36.cell? ⟨gb278, 0, none⟩ = some (.int .i64 t275) := (blk_cell BK278.out 0).trans rfl
           have hcz55_1 : w36.cell? ⟨gb278, 1, none⟩ = some (.int .i64 t276) := (blk_cell BK278.out 1).trans rfl
           have hcz55_2 : w36.cell? ⟨gb278, 2, none⟩ = some (.int .i64 t277) := (blk_cell BK278.out 2).trans rfl
           have hfz55_0 := blk_frozen BK278.out 0
           have hfz55_1 := blk_frozen BK278.out 1
           have hfz55_2 := blk_frozen BK278.out 2
           go_wp2_with (first | ((with_reducible refine gate_callee (f := 13) rfl ?_); refine goesL_ (some 73) rfl rfl Try.func13 (by kernel_rfl) rfl #[.agg #[.int .i64 t263, .int .i64 t264, .int .i64 t265], .agg #[.int .i64 t275, .int .i64 t276, .int .i64 t277], .int .i64 (Int.tmod (wrap64 (a5)) 3)] rfl (by (try simp only [List.map_toArray, List.map_cons, List.map_nil]); first | done | rfl | (simp only [List.length_drop, List.length_take]; rfl)) ?_; (with_reducible refine (braking_Duration.calls kj13 t263 t264 t265 t275 t276 t277 (Int.tmod (wrap64 (a5)) 3) t282 _ A37.out).mono ?_); rintro e w56 ⟨rfl, hb⟩; refine ⟨_, rfl, ?_⟩; have n0_ := Aside0.mk (Kd.R_below (by (with_reducible repeat (first | apply Kd.R_alloc | apply Kd.R_drewN | apply Kd.R_drew)); exact HO_15.out) hb); have n1_ := Aside0.mk (Kd.R_below (by (with_reducible repeat (first | apply Kd.R_alloc | apply Kd.R_drewN | apply Kd.R_drew)); exact HO281.out) hb); have n2_ := Aside0.mk (blk_below (g := gb266) (o := .cells #[.int .i64 t263, .int .i64 t264, .int .i64 t265] 25 (0, 0)) (by (with_reducible repeat (first | refine blk_drewN ?_ _ | refine blk_drew ?_ | refine blk_alloc ?_ _)); exact BK266.out) hb); have n3_ := Aside0.mk (blk_below (g := gb278) (o := .cells #[.int .i64 t275, .int .i64 t276, .int .i64 t277] 31 (0, 0)) (by (with_reducible repeat (first | refine blk_drewN ?_ _ | refine blk_drew ?_ | refine blk_alloc ?_ _)); exact BK278.out) hb); have n4_ := Aside0.mk (below_step (by repeat (first | (with_reducible first | exact HB.out | apply below_alloc | apply pw_below_drewN | apply below_drew1 | refine below_set ?_ GE266.out | refine below_set ?_ GE278.out) | exact HB.out)) hb); clear HO_15; clear HO281; clear BK266; clear BK278; clear HB; have HO_15 := n0_; have HO281 := n1_; have BK266 := n2_; have BK278 := n3_; have HB := n4_; clear n0_ n1_ n2_ n3_ n4_; (try clear hb); (try clear hb2); (try clear hk); (try clear hi)))
           go_meet
           case rel => exact ⟨_, (true), (by first | rfl | (simp; done) | (simp [*]; done)), H', ⟨by have := HJ6.out; have := HJ13.out; first | omega | exact Nat.le_refl _⟩, ⟨by (with_reducible repeat (first | apply Kd.R_alloc | apply Kd.R_drewN | apply Kd.R_drew)); exact Kd.R_mono HO281.out (fun _ hk => hk.2)⟩, ⟨by (with_reducible repeat (first | refine blk_drewN ?_ _ | refine blk_drew ?_ | refine blk_alloc ?_ _)); exact BK266.out⟩, ⟨by (with_reducible repeat (first | refine blk_drewN ?_ _ | refine blk_drew ?_ | refine blk_alloc ?_ _)); exact BK278.out⟩, ⟨by repeat (first | (with_reducible first | exact HB.out | apply below_alloc | apply pw_below_drewN | apply below_drew1 | refine below_set ?_ GE266.out | refine below_set ?_ GE278.out) | exact HB.out)⟩⟩
         case rest => as_aux_lemma =>
          clear HC28
          try clear c1
          try clear c2
          try clear p2
          try clear c3
          try clear q3
          try clear c4
          try clear c5
          try clear p6
          try clear c7
          try clear c9
          try clear c10
          try clear c11
          try clear c12
          try clear c13
          try clear c19
          try clear c21
          try clear c22
          try clear c22b0
          try clear c22b1
          try clear c24
          try clear c24b0
          try clear c24b1
          try clear c25
          try clear c25b0
          try clear c25b1
          try clear q30
          try clear c33
          try clear c38
          try clear c38b0
          try clear c38b1
          try clear c39
          try clear c39b0
          try clear c39b1
          try clear c41
          try clear c47
          try clear c53
          try clear hcz17_0
          try clear hcz17_1
          try clear hcz17_2
          try clear hcz34_0
          try clear hcz34_1
          try clear hcz34_2
          try clear hcz35_0
          try clear hcz35_1
          try clear hcz35_2
          try clear hcz42_0
          try clear hcz42_1
          try clear hcz42_2
          try clear hcz43_0
          try clear hcz43_1
          try clear hcz43_2
          try clear hcz45_0
          try clear hcz45_1
          try clear hcz45_2
          try clear hcz48_0
          try clear hcz48_1
          try clear hcz48_2
          try clear hcz49_0
          try clear hcz49_1
          try clear hcz49_2
          try clear hcz51_0
          try clear hcz51_1
          try clear hcz51_2
          try clear hcz54_0
          try clear hcz54_1
          try clear hcz54_2
          try clear hcz55_0
          try clear hcz55_1
          try clear hcz55_2
          try clear hfz17_0
          try clear hfz17_1
          try clear hfz17_2
          try clear hfz34_0
          try clear hfz34_1
          try clear hfz34_2
          try clear hfz35_0
          try clear hfz35_1
          try clear hfz35_2
          try clear hfz42_0
          try clear hfz42_1
          try clear hfz42_2
          try clear hfz43_0
          try clear hfz43_1
          try clear hfz43_2
          try clear hfz45_0
          try clear hfz45_1
          try clear hfz45_2
          try clear hfz48_0
          try clear hfz48_1
          try clear hfz48_2
          try clear hfz49_0
          try clear hfz49_1
          try clear hfz49_2
          try clear hfz51_0
          try clear hfz51_1
          try clear hfz51_2
          try clear hfz54_0
          try clear hfz54_1
          try clear hfz54_2
          try clear hfz55_0
          try clear hfz55_1
          try clear hfz55_2
          try clear p2
          try clear p6
          try clear q30
          obtain ⟨kq, x88_27, rfl, HA, HJ27, HO_19, BK266, BK278, HB⟩ := hcut
          cases kq with
          | zero => exact absurd HA.out (by simp [ambidextertop_TopStopFromProfile.j2])
          | succ kj27 =>
           have H := HA.out
           clear HA
           simp only [ambidextertop_TopStopFromProfile.j2] at H
           by_cases c57 : x88_27 = true
           ·
            subst c57
            have H1 : (some false) = some r := by rw [if_pos rfl] at H; exact H
            clear H
            have H := H1
            clear H1
            exact absurd HT.out (by rw [← Option.some.inj H]; decide)
           ·
            replace c57 := Bool.eq_false_iff.mpr c57
            subst c57
            have H1 : (if (t279.length : Int) = 0 then (if x13_6 = true then ((braking_Distance.f kj27 t263 t264 t265 t275 t276 t277 (Int.tmod (wrap64 (a5)) 3)).bind fun t283 => (some (t283 == 0))) else (some false)) else (if 0 ≤ (wrap64 ((t279.length : Int) - 1)) then (if (wrap64 ((t279.length : Int) - 1)) < (t279.length : Int) then (if ((rd_T31 t279 (wrap64 ((t279.length : Int) - 1))).f1) = 0 then (ambidextertop_TopStopFromProfile.j3 kj27 x13_6 (Int.tmod (wrap64 (a5)) 3) t279 (((rd_T31 t279 (wrap64 ((t279.length : Int) - 1))).f2) != 0) t263 t264 t265 t275 t276 t277) else (ambidextertop_TopStopFromProfile.j3 kj27 x13_6 (Int.tmod (wrap64 (a5)) 3) t279 true t263 t264 t265 t275 t276 t277)) else (none)) else (none))) = some r := by rw [if_neg (show ¬ (false = true) by decide)] at H; exact H
            clear H
            have H := H1
            clear H1
            by_cases c58 : (t279.length : Int) = 0
            ·
             rw [if_pos c58] at H
             have c58b0 : ((t279.length : Int) == 0) = true := beq_iff_eq.mpr c58
             have c58b1 : ((t279.length : Int) != 0) = false := bne_eq_false_iff_eq.mpr c58
             clear c58
             by_cases c59 : x13_6 = true
             ·
              subst c59
              have H1 : ((braking_Distance.f kj27 t263 t264 t265 t275 t276 t277 (Int.tmod (wrap64 (a5)) 3)).bind fun t283 => (some (t283 == 0))) = some r := by rw [if_pos rfl] at H; exact H
              clear H
              have H := H1
              clear H1
              replace H := Option.bind_eq_some_iff.mp H
              obtain ⟨t283, A600, H⟩ := H
              replace H : (some (t283 == 0)) = some r := H
              have A60 := Aside0.mk A600
              clear A600
              obtain rfl := Option.some.inj H
              obtain ⟨Ao61, co61, eo61⟩ := Kd.R_slice HO_19.out
              subst eo61
              have hnb62 := NB266_278.out
              have hnc62 := NB278_266.out
              have hcz63_0 : wc.cell? ⟨gb266, 0, none⟩ = some (.int .i64 t263) := (blk_cell BK266.out 0).trans rfl
              have hcz63_1 : wc.cell? ⟨gb266, 1, none⟩ = some (.int .i64 t264) := (blk_cell BK266.out 1).trans rfl
              have hcz63_2 : wc.cell? ⟨gb266, 2, none⟩ = some (.int .i64 t265) := (blk_cell BK266.out 2).trans rfl
              have hfz63_0 := blk_frozen BK266.out 0
              have hfz63_1 := blk_frozen BK266.out 1
              have hfz63_2 := blk_frozen BK266.out 2
              have hcz64_0 : wc.cell? ⟨gb278, 0, none⟩ = some (.int .i64 t275) := (blk_cell BK278.out 0).trans rfl
              have hcz64_1 : wc.cell? ⟨gb278, 1, none⟩ = some (.int .i64 t276) := (blk_cell BK278.out 1).trans rfl
              have hcz64_2 : wc.cell? ⟨gb278, 2, none⟩ = some (.int .i64 t277) := (blk_cell BK278.out 2).trans rfl
              have hfz64_0 := blk_frozen BK278.out 0
              have hfz64_1 := blk_frozen BK278.out 1
              have hfz64_2 := blk_frozen BK278.out 2
              go_wp2_with (first | (go_at_call 14; (with_reducible refine (braking_Distance.calls kj27 t263 t264 t265 t275 t276 t277 (Int.tmod (wrap64 (a5)) 3) t283 _ A60.out).mono ?_); rintro e w65 ⟨rfl, hb⟩; have n0_ := Aside0.mk (Kd.R_below (by (with_reducible repeat (first | apply Kd.R_alloc | apply Kd.R_drewN | apply Kd.R_drew)); exact HO_19.out) hb); have n1_ := Aside0.mk (blk_below (g := gb266) (o := .cells #[.int .i64 t263, .int .i64 t264, .int .i64 t265] 25 (0, 0)) (by (with_reducible repeat (first | refine blk_drewN ?_ _ | refine blk_drew ?_ | refine blk_alloc ?_ _)); exact BK266.out) hb); have n2_ := Aside0.mk (blk_below (g := gb278) (o := .cells #[.int .i64 t275, .int .i64 t276, .int .i64 t277] 31 (0, 0)) (by (with_reducible repeat (first | refine blk_drewN ?_ _ | refine blk_drew ?_ | refine blk_alloc ?_ _)); exact BK278.out) hb); have n3_ := Aside0.mk (below_step (by repeat (first | (with_reducible first | exact HB.out | apply below_alloc | apply pw_below_drewN | apply below_drew1 | refine below_set ?_ GE266.out | refine below_set ?_ GE278.out) | exact HB.out)) hb); clear HO_19; clear BK266; clear BK278; clear HB; have HO_19 := n0_; have BK266 := n1_; have BK278 := n2_; have HB := n3_; clear n0_ n1_ n2_ n3_; (try clear hb); (try clear hb2); (try clear hk); (try clear hi)))
              go_ret
              exact ⟨by first | rfl | (simp [errW_none, errW_some] <;> rfl) | (simp only [← hji23]; first | rfl | (simp [errW_none, errW_some] <;> rfl)) | (simp [*, errW_none, errW_some] <;> rfl), by repeat (first | (with_reducible first | exact HB.out | apply below_alloc | apply pw_below_drewN | apply below_drew1 | refine below_set ?_ GE266.out | refine below_set ?_ GE278.out) | exact HB.out)⟩
             ·
              replace c59 := Bool.eq_false_iff.mpr c59
              subst c59
              have H1 : (some false) = some r := by rw [if_neg (show ¬ (false = true) by decide)] at H; exact H
              clear H
              have H := H1
              clear H1
              exact absurd HT.out (by rw [← Option.some.inj H]; decide)
            ·
             rw [if_neg c58] at H
             have c58b0 : ((t279.length : Int) == 0) = false := beq_eq_false_iff_ne.mpr c58
             have c58b1 : ((t279.length : Int) != 0) = true := bne_iff_ne.mpr c58
             have c58b2 : ¬ (t279 = []) := fun h_ => c58 (by rw [h_]; rfl)
             obtain ⟨ji66, hji66⟩ : ∃ j_ : Int, (wrap64 ((t279.length : Int) - 1)) = j_ := ⟨_, rfl⟩
             replace H : (if 0 ≤ (ji66) then (if (ji66) < (t279.length : Int) then (if ((rd_T31 t279 (ji66)).f1) = 0 then (ambidextertop_TopStopFromProfile.j3 kj27 x13_6 (Int.tmod (wrap64 (a5)) 3) t279 (((rd_T31 t279 (ji66)).f2) != 0) t263 t264 t265 t275 t276 t277) else (ambidextertop_TopStopFromProfile.j3 kj27 x13_6 (Int.tmod (wrap64 (a5)) 3) t279 true t263 t264 t265 t275 t276 t277)) else (none)) else (none)) = some r := by first | (rw [hji66] at H; exact H) | (simp only [hji66] at H ⊢; exact H)
             have hji66w : (IntKind.i64.wrap ((t279.length : Int) - 1)) = ji66 := (i64_w _).trans hji66
             by_cases c67 : 0 ≤ (ji66)
             ·
              rw [if_pos c67] at H
              have c67b0 : decide (0 ≤ (ji66)) = true := decide_eq_true c67
              clear c67
              by_cases c68 : (ji66) < (t279.length : Int)
              ·
               rw [if_pos c68] at H
               have c68b0 : decide ((ji66) < (t279.length : Int)) = true := decide_eq_true c68
               clear c68
               have HC69 := Aside0.mk H
               clear H
               obtain ⟨Ao70, co70, eo70⟩ := Kd.R_slice HO_19.out
               subst eo70
               have p284 : 0 ≤ ((ji66) : Int) := of_decide_eq_true (by first | (with_reducible assumption) | assumption)
               have q284 : (ji66) < (t279.length : Int) := of_decide_eq_true (by first | (with_reducible assumption) | assumption)
               obtain ⟨ad284, e284, hx284_0, hx284_1, hx284_2⟩ := at_T31 (Kd.R_reads' HO_19.out).2.2 (ji66) p284 q284
               cases e284
               replace p284 := eq_true p284
               replace q284 := eq_true q284
               go_upto_region 14 with (first | ((with_reducible refine gate_dst (N := 20) rfl ?_); (try (refine gate_guard (by rfl) ?_; dsimp only)); refine box_event ?hg (N := 20) ?hd (cs := #[.int .i64 0, .int .i64 0, .int .i64 0]) (t := 31) ?hr ?_; (case hd => rfl); (case hg => rfl); (case hr => first | (go_simp; done) | (go_simp; rfl)); intro gb285 hg w71 hbox hb; have n0_ := Aside0.mk (Kd.R_below (Kd.R_elderB (by (with_reducible repeat (first | apply Kd.R_alloc | apply Kd.R_drewN | apply Kd.R_drew)); exact HO_19.out) gb285 (Nat.le_of_eq hg.symm)) hb); have n1_ := Aside0.mk (blk_below (g := gb266) (o := .cells #[.int .i64 t263, .int .i64 t264, .int .i64 t265] 25 (0, 0)) (by (with_reducible repeat (first | refine blk_drewN ?_ _ | refine blk_drew ?_ | refine blk_alloc ?_ _)); exact BK266.out) hb); have n2_ := Aside0.mk (blk_below (g := gb278) (o := .cells #[.int .i64 t275, .int .i64 t276, .int .i64 t277] 31 (0, 0)) (by (with_reducible repeat (first | refine blk_drewN ?_ _ | refine blk_drew ?_ | refine blk_alloc ?_ _)); exact BK278.out) hb); have n3_ := Aside0.mk (below_step (by repeat (first | (with_reducible first | exact HB.out | apply below_alloc | apply pw_below_drewN | apply below_drew1 | refine below_set ?_ GE266.out | refine below_set ?_ GE278.out) | exact HB.out)) hb); have n4_ := Aside0.mk (hbox); have n5_ := Aside0.mk ((by rw [hg]; exact (below_size (by repeat (first | (with_reducible first | exact HB.out | apply below_alloc | apply pw_below_drewN | apply below_drew1 | refine below_set ?_ GE266.out | refine below_set ?_ GE278.out) | exact HB.out))) : w.heap.size ≤ gb285)); have n6_ := Aside0.mk ((by rw [hg]; exact (below_size (by repeat (first | (with_reducible first | exact HB.out | apply below_alloc | apply pw_below_drewN | apply below_drew1 | refine below_set ?_ GE266.out | refine below_set ?_ GE278.out) | exact HB.out))) : w.heap.size ≤ gb285)); have n7_ := Aside0.mk ((by rw [hg]; exact Nat.ne_of_lt (blk_lt (g := gb266) (o := .cells #[.int .i64 t263, .int .i64 t264, .int .i64 t265] 25 (0, 0)) (by (with_reducible repeat (first | refine blk_drewN ?_ _ | refine blk_drew ?_ | refine blk_alloc ?_ _)); exact BK266.out)) : gb266 ≠ gb285)); have n8_ := Aside0.mk ((by rw [hg]; exact Nat.ne_of_gt (blk_lt (g := gb266) (o := .cells #[.int .i64 t263, .int .i64 t264, .int .i64 t265] 25 (0, 0)) (by (with_reducible repeat (first | refine blk_drewN ?_ _ | refine blk_drew ?_ | refine blk_alloc ?_ _)); exact BK266.out)) : gb285 ≠ gb266)); have n9_ := Aside0.mk ((by rw [hg]; exact Nat.ne_of_lt (blk_lt (g := gb278) (o := .cells #[.int .i64 t275, .int .i64 t276, .int .i64 t277] 31 (0, 0)) (by (with_reducible repeat (first | refine blk_drewN ?_ _ | refine blk_drew ?_ | refine blk_alloc ?_ _)); exact BK278.out)) : gb278 ≠ gb285)); have n10_ := Aside0.mk ((by rw [hg]; exact Nat.ne_of_gt (blk_lt (g := gb278) (o := .cells #[.int .i64 t275, .int .i64 t276, .int .i64 t277] 31 (0, 0)) (by (with_reducible repeat (first | refine blk_drewN ?_ _ | refine blk_drew ?_ | refine blk_alloc ?_ _)); exact BK278.out)) : gb285 ≠ gb278)); clear HO_19; clear BK266; clear BK278; clear HB; have HO_19 := n0_; have BK266 := n1_; have BK278 := n2_; have HB := n3_; have BK285 := n4_; have GW285 := n5_; have GE285 := n6_; have NB266_285 := n7_; have NB285_266 := n8_; have NB278_285 := n9_; have NB285_278 := n10_; clear n0_ n1_ n2_ n3_ n4_ n5_ n6_ n7_ n8_ n9_ n10_; clear hb hbox hg; have hnb72 := NB285_266.out; have hnc72 := NB266_285.out; have hnb73 := NB285_278.out; have hnc73 := NB278_285.out; have hcz74_0 : w71.cell? ⟨gb285, 0, none⟩ = some (.int .i64 0) := (blk_cell BK285.out 0).trans rfl; have hcz74_1 : w71.cell? ⟨gb285, 1, none⟩ = some (.int .i64 0) := (blk_cell BK285.out 1).trans rfl; have hcz74_2 : w71.cell? ⟨gb285, 2, none⟩ = some (.int .i64 0) := (blk_cell BK285.out 2).trans rfl; have hfz74_0 := blk_frozen BK285.out 0; have hfz74_1 := blk_frozen BK285.out 1; have hfz74_2 := blk_frozen BK285.out 2))
               (try simp only [Act.put, List.setIfInBounds_toArray, List.set_cons_zero, List.set_cons_succ])
               go_cut [113] (fun v113 wc => ∃ (kq : Nat) (x113_68 : Bool), v113 = .bool x113_68 ∧ Aside0 (ambidextertop_TopStopFromProfile.j3 kq x13_6 (Int.tmod (wrap64 (a5)) 3) t279 x113_68 t263 t264 t265 t275 t276 t277 = some r) ∧ Aside0 (kq ≤ kj27) ∧ Aside0 (Kd.R k31 31 wc w.heap.size (fun k_ => k_ ≠ gb278 ∧ k_ ≠ gb285) (.slice (some ad284) t279.length co70) t279) ∧ Aside0 (wc.heap[gb266]? = some (.cells #[.int .i64 t263, .int .i64 t264, .int .i64 t265] 25 (0, 0))) ∧ Aside0 (wc.heap[gb278]? = some (.cells #[.int .i64 t275, .int .i64 t276, .int .i64 t277] 31 (0, 0))) ∧ Aside0 (wc.heap[gb285]? = some (.cells #[.int .i64 ((rd_T31 t279 (ji66)).f0), .int .i64 ((rd_T31 t279 (ji66)).f1), .int .i64 ((rd_T31 t279 (ji66)).f2)] 31 (0, 0))) ∧ Aside0 (Below w.heap.size w wc))
               case first =>
                have H := HC69.out
                clear HC69
                by_cases c75 : ((rd_T31 t279 (ji66)).f1) = 0
                ·
                 rw [if_pos c75] at H
                 have c75b0 : (((rd_T31 t279 (ji66)).f1) == 0) = true := beq_iff_eq.mpr c75
                 have c75b1 : (((rd_T31 t279 (ji66)).f1) != 0) = false := bne_eq_false_iff_eq.mpr c75
                 clear c75
                 (first | rw [c75b0] | (simp only [i64_w, i32_w]; rw [c75b0]) | skip)
                 have H' := Aside0.mk H
                 clear H
                 have hnb76 := NB285_266.out
                 have hnc76 := NB266_285.out
                 have hnb77 := NB285_278.out
                 have hnc77 := NB278_285.out
                 have hcz78_0 : w71.cell? ⟨gb285, 0, none⟩ = some (.int .i64 0) := (blk_cell BK285.out 0).trans rfl
                 have hcz78_1 : w71.cell? ⟨gb285, 1, none⟩ = some (.int .i64 0) := (blk_cell BK285.out 1).trans rfl
                 have hcz78_2 : w71.cell? ⟨gb285, 2, none⟩ = some (.int .i64 0) := (blk_cell BK285.out 2).trans rfl
                 have hfz78_0 := blk_frozen BK285.out 0
                 have hfz78_1 := blk_frozen BK285.out 1
                 have hfz78_2 := blk_frozen BK285.out 2
                 go_wp2
                 go_meet
                 case rel => exact ⟨_, ((((rd_T31 t279 (ji66)).f2) != 0)), (by first | rfl | (simp; done) | (simp only [← hji66] <;> (first | rfl | simp)) | (simp [*]; done)), H', ⟨by have := HJ6.out; have := HJ13.out; have := HJ27.out; first | omega | exact Nat.le_refl _⟩, ⟨by (with_reducible repeat (first | apply Kd.R_alloc | apply Kd.R_drewN | apply Kd.R_drew)); exact Kd.R_mono (Kd.R_far (p := ⟨gb285, 2, none⟩) (Kd.R_far (p := ⟨gb285, 1, none⟩) (Kd.R_far (p := ⟨gb285, 0, none⟩) (Kd.R_mono HO_19.out (fun k_ hk => (⟨hk, hk.2⟩ : _ ∧ k_ ≠ gb285))) (fun _ hk => hk.2) (.int .i64 ((rd_T31 t279 (ji66)).f0))) (fun _ hk => hk.2) (.int .i64 ((rd_T31 t279 (ji66)).f1))) (fun _ hk => hk.2) (.int .i64 ((rd_T31 t279 (ji66)).f2))) (fun _ hk => ⟨hk.1.1, hk.1.2⟩)⟩, ⟨by (with_reducible repeat (first | refine blk_drewN ?_ _ | refine blk_drew ?_ | refine blk_alloc ?_ _)); refine blk_far ?_ NB266_285.out _; (with_reducible repeat (first | refine blk_drewN ?_ _ | refine blk_drew ?_ | refine blk_alloc ?_ _)); refine blk_far ?_ NB266_285.out _; (with_reducible repeat (first | refine blk_drewN ?_ _ | refine blk_drew ?_ | refine blk_alloc ?_ _)); refine blk_far ?_ NB266_285.out _; (with_reducible repeat (first | refine blk_drewN ?_ _ | refine blk_drew ?_ | refine blk_alloc ?_ _)); exact BK266.out⟩, ⟨by (with_reducible repeat (first | refine blk_drewN ?_ _ | refine blk_drew ?_ | refine blk_alloc ?_ _)); refine blk_far ?_ NB278_285.out _; (with_reducible repeat (first | refine blk_drewN ?_ _ | refine blk_drew ?_ | refine blk_alloc ?_ _)); refine blk_far ?_ NB278_285.out _; (with_reducible repeat (first | refine blk_drewN ?_ _ | refine blk_drew ?_ | refine blk_alloc ?_ _)); refine blk_far ?_ NB278_285.out _; (with_reducible repeat (first | refine blk_drewN ?_ _ | refine blk_drew ?_ | refine blk_alloc ?_ _)); exact BK278.out⟩, ⟨by (with_reducible repeat (first | refine blk_drewN ?_ _ | refine blk_drew ?_ | refine blk_alloc ?_ _)); refine blk_put (cs := #[.int .i64 ((rd_T31 t279 (ji66)).f0), .int .i64 ((rd_T31 t279 (ji66)).f1), .int .i64 0]) ?_ 2 _ rfl; (with_reducible repeat (first | refine blk_drewN ?_ _ | refine blk_drew ?_ | refine blk_alloc ?_ _)); refine blk_put (cs := #[.int .i64 ((rd_T31 t279 (ji66)).f0), .int .i64 0, .int .i64 0]) ?_ 1 _ rfl; (with_reducible repeat (first | refine blk_drewN ?_ _ | refine blk_drew ?_ | refine blk_alloc ?_ _)); refine blk_put (cs := #[.int .i64 0, .int .i64 0, .int .i64 0]) ?_ 0 _ rfl; (with_reducible repeat (first | refine blk_drewN ?_ _ | refine blk_drew ?_ | refine blk_alloc ?_ _)); exact BK285.out⟩, ⟨by repeat (first | (with_reducible first | exact HB.out | apply below_alloc | apply pw_below_drewN | apply below_drew1 | refine below_set ?_ GE266.out | refine below_set ?_ GE278.out | refine below_set ?_ GE285.out) | exact HB.out)⟩⟩
                ·
                 rw [if_neg c75] at H
                 have c75b0 : (((rd_T31 t279 (ji66)).f1) == 0) = false := beq_eq_false_iff_ne.mpr c75
                 have c75b1 : (((rd_T31 t279 (ji66)).f1) != 0) = true := bne_iff_ne.mpr c75
                 (first | rw [c75b0] | (simp only [i64_w, i32_w]; rw [c75b0]) | skip)
                 have H' := Aside0.mk H
                 clear H
                 have hnb79 := NB285_266.out
                 have hnc79 := NB266_285.out
                 have hnb80 := NB285_278.out
                 have hnc80 := NB278_285.out
                 have hcz81_0 : w71.cell? ⟨gb285, 0, none⟩ = some (.int .i64 0) := (blk_cell BK285.out 0).trans rfl
                 have hcz81_1 : w71.cell? ⟨gb285, 1, none⟩ = some (.int .i64 0) := (blk_cell BK285.out 1).trans rfl
                 have hcz81_2 : w71.cell? ⟨gb285, 2, none⟩ = some (.int .i64 0) := (blk_cell BK285.out 2).trans rfl
                 have hfz81_0 := blk_frozen BK285.out 0
                 have hfz81_1 := blk_frozen BK285.out 1
                 have hfz81_2 := blk_frozen BK285.out 2
                 go_wp2
                 go_meet
                 case rel => exact ⟨_, (true), (by first | rfl | (simp; done) | (simp [*]; done)), H', ⟨by have := HJ6.out; have := HJ13.out; have := HJ27.out; first | omega | exact Nat.le_refl _⟩, ⟨by (with_reducible repeat (first | apply Kd.R_alloc | apply Kd.R_drewN | apply Kd.R_drew)); exact Kd.R_mono (Kd.R_far (p := ⟨gb285, 2, none⟩) (Kd.R_far (p := ⟨gb285, 1, none⟩) (Kd.R_far (p := ⟨gb285, 0, none⟩) (Kd.R_mono HO_19.out (fun k_ hk => (⟨hk, hk.2⟩ : _ ∧ k_ ≠ gb285))) (fun _ hk => hk.2) (.int .i64 ((rd_T31 t279 (ji66)).f0))) (fun _ hk => hk.2) (.int .i64 ((rd_T31 t279 (ji66)).f1))) (fun _ hk => hk.2) (.int .i64 ((rd_T31 t279 (ji66)).f2))) (fun _ hk => ⟨hk.1.1, hk.1.2⟩)⟩, ⟨by (with_reducible repeat (first | refine blk_drewN ?_ _ | refine blk_drew ?_ | refine blk_alloc ?_ _)); refine blk_far ?_ NB266_285.out _; (with_reducible repeat (first | refine blk_drewN ?_ _ | refine blk_drew ?_ | refine blk_alloc ?_ _)); refine blk_far ?_ NB266_285.out _; (with_reducible repeat (first | refine blk_drewN ?_ _ | refine blk_drew ?_ | refine blk_alloc ?_ _)); refine blk_far ?_ NB266_285.out _; (with_reducible repeat (first | refine blk_drewN ?_ _ | refine blk_drew ?_ | refine blk_alloc ?_ _)); exact BK266.out⟩, ⟨by (with_reducible repeat (first | refine blk_drewN ?_ _ | refine blk_drew ?_ | refine blk_alloc ?_ _)); refine blk_far ?_ NB278_285.out _; (with_reducible repeat (first | refine blk_drewN ?_ _ | refine blk_drew ?_ | refine blk_alloc ?_ _)); refine blk_far ?_ NB278_285.out _; (with_reducible repeat (first | refine blk_drewN ?_ _ | refine blk_drew ?_ | refine blk_alloc ?_ _)); refine blk_far ?_ NB278_285.out _; (with_reducible repeat (first | refine blk_drewN ?_ _ | refine blk_drew ?_ | refine blk_alloc ?_ _)); exact BK278.out⟩, ⟨by (with_reducible repeat (first | refine blk_drewN ?_ _ | refine blk_drew ?_ | refine blk_alloc ?_ _)); refine blk_put (cs := #[.int .i64 ((rd_T31 t279 (ji66)).f0), .int .i64 ((rd_T31 t279 (ji66)).f1), .int .i64 0]) ?_ 2 _ rfl; (with_reducible repeat (first | refine blk_drewN ?_ _ | refine blk_drew ?_ | refine blk_alloc ?_ _)); refine blk_put (cs := #[.int .i64 ((rd_T31 t279 (ji66)).f0), .int .i64 0, .int .i64 0]) ?_ 1 _ rfl; (with_reducible repeat (first | refine blk_drewN ?_ _ | refine blk_drew ?_ | refine blk_alloc ?_ _)); refine blk_put (cs := #[.int .i64 0, .int .i64 0, .int .i64 0]) ?_ 0 _ rfl; (with_reducible repeat (first | refine blk_drewN ?_ _ | refine blk_drew ?_ | refine blk_alloc ?_ _)); exact BK285.out⟩, ⟨by repeat (first | (with_reducible first | exact HB.out | apply below_alloc | apply pw_below_drewN | apply below_drew1 | refine below_set ?_ GE266.out | refine below_set ?_ GE278.out | refine below_set ?_ GE285.out) | exact HB.out)⟩⟩
               case rest => as_aux_lemma =>
                clear HC69
                try clear c1
                try clear c2
                try clear p2
                try clear q2
                try clear hx2
                try clear c3
                try clear q3
                try clear c4
                try clear c5
                try clear c6
                try clear p6
                try clear c7
                try clear c8
                try clear c9
                try clear c10
                try clear c11
                try clear c12
                try clear c13
                try clear c19
                try clear c21
                try clear c22
                try clear c22b0
                try clear c22b1
                try clear c24
                try clear c24b0
                try clear c24b1
                try clear c25
                try clear c25b0
                try clear c25b1
                try clear p28
                try clear q28
                try clear hx28
                try clear q30
                try clear c33
                try clear c38
                try clear c38b0
                try clear c38b1
                try clear c39
                try clear c39b0
                try clear c39b1
                try clear c41
                try clear c47
                try clear c53
                try clear c57
                try clear c58
                try clear c58b0
                try clear c58b1
                try clear c58b2
                try clear c59
                try clear c62
                try clear p64
                try clear c67
                try clear c67b0
                try clear c68
                try clear c68b0
                try clear c72
                try clear c73
                try clear c75
                try clear c75b0
                try clear c75b1
                try clear c76
                try clear c77
                try clear c79
                try clear c80
                try clear hcz17_0
                try clear hcz17_1
                try clear hcz17_2
                try clear hcz34_0
                try clear hcz34_1
                try clear hcz34_2
                try clear hcz35_0
                try clear hcz35_1
                try clear hcz35_2
                try clear hcz42_0
                try clear hcz42_1
                try clear hcz42_2
                try clear hcz43_0
                try clear hcz43_1
                try clear hcz43_2
                try clear hcz45_0
                try clear hcz45_1
                try clear hcz45_2
                try clear hcz48_0
                try clear hcz48_1
                try clear hcz48_2
                try clear hcz49_0
                try clear hcz49_1
                try clear hcz49_2
                try clear hcz51_0
                try clear hcz51_1
                try clear hcz51_2
                try clear hcz54_0
                try clear hcz54_1
                try clear hcz54_2
                try clear hcz55_0
                try clear hcz55_1
                try clear hcz55_2
                try clear hcz63_0
                try clear hcz63_1
                try clear hcz63_2
                try clear hcz64_0
                try clear hcz64_1
                try clear hcz64_2
                try clear hcz74_0
                try clear hcz74_1
                try clear hcz74_2
                try clear hcz78_0
                try clear hcz78_1
                try clear hcz78_2
                try clear hcz81_0
                try clear hcz81_1
                try clear hcz81_2
                try clear hfz17_0
                try clear hfz17_1
                try clear hfz17_2
                try clear hfz34_0
                try clear hfz34_1
                try clear hfz34_2
                try clear hfz35_0
                try clear hfz35_1
                try clear hfz35_2
                try clear hfz42_0
                try clear hfz42_1
                try clear hfz42_2
                try clear hfz43_0
                try clear hfz43_1
                try clear hfz43_2
                try clear hfz45_0
                try clear hfz45_1
                try clear hfz45_2
                try clear hfz48_0
                try clear hfz48_1
                try clear hfz48_2
                try clear hfz49_0
                try clear hfz49_1
                try clear hfz49_2
                try clear hfz51_0
                try clear hfz51_1
                try clear hfz51_2
                try clear hfz54_0
                try clear hfz54_1
                try clear hfz54_2
                try clear hfz55_0
                try clear hfz55_1
                try clear hfz55_2
                try clear hfz63_0
                try clear hfz63_1
                try clear hfz63_2
                try clear hfz64_0
                try clear hfz64_1
                try clear hfz64_2
                try clear hfz74_0
                try clear hfz74_1
                try clear hfz74_2
                try clear hfz78_0
                try clear hfz78_1
                try clear hfz78_2
                try clear hfz81_0
                try clear hfz81_1
                try clear hfz81_2
                try clear hx284_0
                try clear hx284_1
                try clear hx284_2
                try clear p2
                try clear p284
                try clear p6
                try clear q284
                try clear q3
                try clear q30
                obtain ⟨kq, x113_68, rfl, HA, HJ68, HO_19, BK266, BK278, BK285, HB⟩ := hcut
                cases kq with
                | zero => exact absurd HA.out (by simp [ambidextertop_TopStopFromProfile.j3])
                | succ kj68 =>
                 have H := HA.out
                 clear HA
                 simp only [ambidextertop_TopStopFromProfile.j3] at H
                 by_cases c82 : x113_68 = true
                 ·
                  subst c82
                  have H1 : (some false) = some r := by rw [if_pos rfl] at H; exact H
                  clear H
                  have H := H1
                  clear H1
                  exact absurd HT.out (by rw [← Option.some.inj H]; decide)
                 ·
                  replace c82 := Bool.eq_false_iff.mpr c82
                  subst c82
                  have H1 : ((braking_Distance.f kj68 t263 t264 t265 t275 t276 t277 (Int.tmod (wrap64 (a5)) 3)).bind fun t286 => (ambidextertop_TopStopFromProfile.l0 kj68 x13_6 (Int.tmod (wrap64 (a5)) 3) t279 t286 ([] : List Int) 0 t263 t264 t265 t275 t276 t277 t275 t276 t277)) = some r := by rw [if_neg (show ¬ (false = true) by decide)] at H; exact H
                  clear H
                  have H := H1
                  clear H1
                  replace H := Option.bind_eq_some_iff.mp H
                  obtain ⟨t286, A830, H⟩ := H
                  replace H : (ambidextertop_TopStopFromProfile.l0 kj68 x13_6 (Int.tmod (wrap64 (a5)) 3) t279 t286 ([] : List Int) 0 t263 t264 t265 t275 t276 t277 t275 t276 t277) = some r := H
                  have A83 := Aside0.mk A830
                  clear A830
                  have H' := Aside0.mk H
                  clear H
                  have hnb84 := NB266_278.out
                  have hnc84 := NB278_266.out
                  have hnb85 := NB266_285.out
                  have hnc85 := NB285_266.out
                  have hcz86_0 : wc.cell? ⟨gb266, 0, none⟩ = some (.int .i64 t263) := (blk_cell BK266.out 0).trans rfl
                  have hcz86_1 : wc.cell? ⟨gb266, 1, none⟩ = some (.int .i64 t264) := (blk_cell BK266.out 1).trans rfl
                  have hcz86_2 : wc.cell? ⟨gb266, 2, none⟩ = some (.int .i64 t265) := (blk_cell BK266.out 2).trans rfl
                  have hfz86_0 := blk_frozen BK266.out 0
                  have hfz86_1 := blk_frozen BK266.out 1
                  have hfz86_2 := blk_frozen BK266.out 2
                  have hnb87 := NB278_285.out
                  have hnc87 := NB285_278.out
                  have hcz88_0 : wc.cell? ⟨gb278, 0, none⟩ = some (.int .i64 t275) := (blk_cell BK278.out 0).trans rfl
                  have hcz88_1 : wc.cell? ⟨gb278, 1, none⟩ = some (.int .i64 t276) := (blk_cell BK278.out 1).trans rfl
                  have hcz88_2 : wc.cell? ⟨gb278, 2, none⟩ = some (.int .i64 t277) := (blk_cell BK278.out 2).trans rfl
                  have hfz88_0 := blk_frozen BK278.out 0
                  have hfz88_1 := blk_frozen BK278.out 1
                  have hfz88_2 := blk_frozen BK278.out 2
                  go_wp2_with (first | ((with_reducible refine gate_callee (f := 14) rfl ?_); refine goesL_ (some 117) rfl rfl Try.func14 (by kernel_rfl) rfl #[.agg #[.int .i64 t263, .int .i64 t264, .int .i64 t265], .agg #[.int .i64 t275, .int .i64 t276, .int .i64 t277], .int .i64 (Int.tmod (wrap64 (a5)) 3)] rfl (by (try simp only [List.map_toArray, List.map_cons, List.map_nil]); first | done | rfl | (simp only [List.length_drop, List.length_take]; rfl)) ?_; (with_reducible refine (braking_Distance.calls kj68 t263 t264 t265 t275 t276 t277 (Int.tmod (wrap64 (a5)) 3) t286 _ A83.out).mono ?_); rintro e w89 ⟨rfl, hb⟩; refine ⟨_, rfl, ?_⟩; have n0_ := Aside0.mk (Kd.R_below (by (with_reducible repeat (first | apply Kd.R_alloc | apply Kd.R_drewN | apply Kd.R_drew)); exact HO_19.out) hb); have n1_ := Aside0.mk (blk_below (g := gb266) (o := .cells #[.int .i64 t263, .int .i64 t264, .int .i64 t265] 25 (0, 0)) (by (with_reducible repeat (first | refine blk_drewN ?_ _ | refine blk_drew ?_ | refine blk_alloc ?_ _)); exact BK266.out) hb); have n2_ := Aside0.mk (blk_below (g := gb278) (o := .cells #[.int .i64 t275, .int .i64 t276, .int .i64 t277] 31 (0, 0)) (by (with_reducible repeat (first | refine blk_drewN ?_ _ | refine blk_drew ?_ | refine blk_alloc ?_ _)); exact BK278.out) hb); have n3_ := Aside0.mk (blk_below (g := gb285) (o := .cells #[.int .i64 ((rd_T31 t279 (ji66)).f0), .int .i64 ((rd_T31 t279 (ji66)).f1), .int .i64 ((rd_T31 t279 (ji66)).f2)] 31 (0, 0)) (by (with_reducible repeat (first | refine blk_drewN ?_ _ | refine blk_drew ?_ | refine blk_alloc ?_ _)); exact BK285.out) hb); have n4_ := Aside0.mk (below_step (by repeat (first | (with_reducible first | exact HB.out | apply below_alloc | apply pw_below_drewN | apply below_drew1 | refine below_set ?_ GE266.out | refine below_set ?_ GE278.out | refine below_set ?_ GE285.out) | exact HB.out)) hb); clear HO_19; clear BK266; clear BK278; clear BK285; clear HB; have HO_19 := n0_; have BK266 := n1_; have BK278 := n2_; have BK285 := n3_; have HB := n4_; clear n0_ n1_ n2_ n3_ n4_; (try clear hb); (try clear hb2); (try clear hk); (try clear hi); have hcz90_0 : w89.cell? ⟨gb278, 0, none⟩ = some (.int .i64 t275) := (blk_cell BK278.out 0).trans rfl; have hcz90_1 : w89.cell? ⟨gb278, 1, none⟩ = some (.int .i64 t276) := (blk_cell BK278.out 1).trans rfl; have hcz90_2 : w89.cell? ⟨gb278, 2, none⟩ = some (.int .i64 t277) := (blk_cell BK278.out 2).trans rfl; have hfz90_0 := blk_frozen BK278.out 0; have hfz90_1 := blk_frozen BK278.out 1; have hfz90_2 := blk_frozen BK278.out 2) | ((with_reducible refine gate_dst (N := 23) rfl ?_); (try (refine gate_guard (by rfl) ?_; dsimp only)); refine box_event ?hg (N := 23) ?hd (cs := #[.int .i64 0, .int .i64 0, .int .i64 0]) (t := 31) ?hr ?_; (case hd => rfl); (case hg => rfl); (case hr => first | (go_simp; done) | (go_simp; rfl)); intro gb287 hg w91 hbox hb; have n0_ := Aside0.mk (Kd.R_below (Kd.R_elderB (by (with_reducible repeat (first | apply Kd.R_alloc | apply Kd.R_drewN | apply Kd.R_drew)); exact HO_19.out) gb287 (Nat.le_of_eq hg.symm)) hb); have n1_ := Aside0.mk (blk_below (g := gb266) (o := .cells #[.int .i64 t263, .int .i64 t264, .int .i64 t265] 25 (0, 0)) (by (with_reducible repeat (first | refine blk_drewN ?_ _ | refine blk_drew ?_ | refine blk_alloc ?_ _)); exact BK266.out) hb); have n2_ := Aside0.mk (blk_below (g := gb278) (o := .cells #[.int .i64 t275, .int .i64 t276, .int .i64 t277] 31 (0, 0)) (by (with_reducible repeat (first | refine blk_drewN ?_ _ | refine blk_drew ?_ | refine blk_alloc ?_ _)); exact BK278.out) hb); have n3_ := Aside0.mk (blk_below (g := gb285) (o := .cells #[.int .i64 ((rd_T31 t279 (ji66)).f0), .int .i64 ((rd_T31 t279 (ji66)).f1), .int .i64 ((rd_T31 t279 (ji66)).f2)] 31 (0, 0)) (by (with_reducible repeat (first | refine blk_drewN ?_ _ | refine blk_drew ?_ | refine blk_alloc ?_ _)); exact BK285.out) hb); have n4_ := Aside0.mk (below_step (by repeat (first | (with_reducible first | exact HB.out | apply below_alloc | apply pw_below_drewN | apply below_drew1 | refine below_set ?_ GE266.out | refine below_set ?_ GE278.out | refine below_set ?_ GE285.out) | exact HB.out)) hb); have n5_ := Aside0.mk (hbox); have n6_ := Aside0.mk ((by rw [hg]; exact (below_size (by repeat (first | (with_reducible first | exact HB.out | apply below_alloc | apply pw_below_drewN | apply below_drew1 | refine below_set ?_ GE266.out | refine below_set ?_ GE278.out | refine below_set ?_ GE285.out) | exact HB.out))) : w.heap.size ≤ gb287)); have n7_ := Aside0.mk ((by rw [hg]; exact (below_size (by repeat (first | (with_reducible first | exact HB.out | apply below_alloc | apply pw_below_drewN | apply below_drew1 | refine below_set ?_ GE266.out | refine below_set ?_ GE278.out | refine below_set ?_ GE285.out) | exact HB.out))) : w.heap.size ≤ gb287)); have n8_ := Aside0.mk ((by rw [hg]; exact Nat.ne_of_lt (blk_lt (g := gb266) (o := .cells #[.int .i64 t263, .int .i64 t264, .int .i64 t265] 25 (0, 0)) (by (with_reducible repeat (first | refine blk_drewN ?_ _ | refine blk_drew ?_ | refine blk_alloc ?_ _)); exact BK266.out)) : gb266 ≠ gb287)); have n9_ := Aside0.mk ((by rw [hg]; exact Nat.ne_of_gt (blk_lt (g := gb266) (o := .cells #[.int .i64 t263, .int .i64 t264, .int .i64 t265] 25 (0, 0)) (by (with_reducible repeat (first | refine blk_drewN ?_ _ | refine blk_drew ?_ | refine blk_alloc ?_ _)); exact BK266.out)) : gb287 ≠ gb266)); have n10_ := Aside0.mk ((by rw [hg]; exact Nat.ne_of_lt (blk_lt (g := gb278) (o := .cells #[.int .i64 t275, .int .i64 t276, .int .i64 t277] 31 (0, 0)) (by (with_reducible repeat (first | refine blk_drewN ?_ _ | refine blk_drew ?_ | refine blk_alloc ?_ _)); exact BK278.out)) : gb278 ≠ gb287)); have n11_ := Aside0.mk ((by rw [hg]; exact Nat.ne_of_gt (blk_lt (g := gb278) (o := .cells #[.int .i64 t275, .int .i64 t276, .int .i64 t277] 31 (0, 0)) (by (with_reducible repeat (first | refine blk_drewN ?_ _ | refine blk_drew ?_ | refine blk_alloc ?_ _)); exact BK278.out)) : gb287 ≠ gb278)); have n12_ := Aside0.mk ((by rw [hg]; exact Nat.ne_of_lt (blk_lt (g := gb285) (o := .cells #[.int .i64 ((rd_T31 t279 (ji66)).f0), .int .i64 ((rd_T31 t279 (ji66)).f1), .int .i64 ((rd_T31 t279 (ji66)).f2)] 31 (0, 0)) (by (with_reducible repeat (first | refine blk_drewN ?_ _ | refine blk_drew ?_ | refine blk_alloc ?_ _)); exact BK285.out)) : gb285 ≠ gb287)); have n13_ := Aside0.mk ((by rw [hg]; exact Nat.ne_of_gt (blk_lt (g := gb285) (o := .cells #[.int .i64 ((rd_T31 t279 (ji66)).f0), .int .i64 ((rd_T31 t279 (ji66)).f1), .int .i64 ((rd_T31 t279 (ji66)).f2)] 31 (0, 0)) (by (with_reducible repeat (first | refine blk_drewN ?_ _ | refine blk_drew ?_ | refine blk_alloc ?_ _)); exact BK285.out)) : gb287 ≠ gb285)); clear HO_19; clear BK266; clear BK278; clear BK285; clear HB; have HO_19 := n0_; have BK266 := n1_; have BK278 := n2_; have BK285 := n3_; have HB := n4_; have BK287 := n5_; have GW287 := n6_; have GE287 := n7_; have NB266_287 := n8_; have NB287_266 := n9_; have NB278_287 := n10_; have NB287_278 := n11_; have NB285_287 := n12_; have NB287_285 := n13_; clear n0_ n1_ n2_ n3_ n4_ n5_ n6_ n7_ n8_ n9_ n10_ n11_ n12_ n13_; clear hb hbox hg; have hnb92 := NB287_266.out; have hnc92 := NB266_287.out; have hnb93 := NB287_278.out; have hnc93 := NB278_287.out; have hnb94 := NB287_285.out; have hnc94 := NB285_287.out; have hcz95_0 : w91.cell? ⟨gb287, 0, none⟩ = some (.int .i64 0) := (blk_cell BK287.out 0).trans rfl; have hcz95_1 : w91.cell? ⟨gb287, 1, none⟩ = some (.int .i64 0) := (blk_cell BK287.out 1).trans rfl; have hcz95_2 : w91.cell? ⟨gb287, 2, none⟩ = some (.int .i64 0) := (blk_cell BK287.out 2).trans rfl; have hfz95_0 := blk_frozen BK287.out 0; have hfz95_1 := blk_frozen BK287.out 1; have hfz95_2 := blk_frozen BK287.out 2))
                  go_loopg [22, 24] kj68 (fun kq v22 v24 w' => ∃ (x22_5 : List Int) (x24_5 : Int) (x288000_5 : Int) (x288001_5 : Int) (x288002_5 : Int), v24 = .int .i64 x24_5 ∧ Aside0 (ambidextertop_TopStopFromProfile.l0 kq x13_6 (Int.tmod (wrap64 (a5)) 3) t279 t286 x22_5 x24_5 t263 t264 t265 t275 t276 t277 x288000_5 x288001_5 x288002_5 = some r) ∧ Aside0 (kq ≤ kj68) ∧ Aside0 (Kd.R k31 31 w' w.heap.size (fun k_ => k_ ≠ gb278 ∧ k_ ≠ gb285 ∧ k_ ≠ gb287) (.slice (some ad284) t279.length co70) t279) ∧ Aside0 (Kd.R (Kd.int .i64) 3 w' w.heap.size (fun _ => True) v22 x22_5) ∧ Aside0 (w'.heap[gb266]? = some (.cells #[.int .i64 t263, .int .i64 t264, .int .i64 t265] 25 (0, 0))) ∧ Aside0 (w'.heap[gb278]? = some (.cells #[.int .i64 t275, .int .i64 t276, .int .i64 t277] 31 (0, 0))) ∧ Aside0 (w'.heap[gb285]? = some (.cells #[.int .i64 ((rd_T31 t279 (ji66)).f0), .int .i64 ((rd_T31 t279 (ji66)).f1), .int .i64 ((rd_T31 t279 (ji66)).f2)] 31 (0, 0))) ∧ Aside0 (w'.heap[gb287]? = some (.cells #[.int .i64 x288000_5, .int .i64 x288001_5, .int .i64 x288002_5] 31 (0, 0))) ∧ Aside0 (Below w.heap.size w w'))
                  case atStart => exact ⟨(([] : List Int)), (0), (t275), (t276), (t277), (by first | rfl | (simp; done) | (simp [*]; done)), H', ⟨Nat.le_refl _⟩, ⟨by (with_reducible repeat (first | apply Kd.R_alloc | apply Kd.R_drewN | apply Kd.R_drew)); exact Kd.R_mono (Kd.R_far (p := ⟨gb287, 2, none⟩) (Kd.R_far (p := ⟨gb287, 1, none⟩) (Kd.R_far (p := ⟨gb287, 0, none⟩) (Kd.R_mono HO_19.out (fun k_ hk => (⟨hk, hk.2⟩ : _ ∧ k_ ≠ gb287))) (fun _ hk => hk.2) (.int .i64 t275)) (fun _ hk => hk.2) (.int .i64 t276)) (fun _ hk => hk.2) (.int .i64 t277)) (fun _ hk => ⟨hk.1.1.1, ⟨hk.1.1.2, hk.1.2⟩⟩)⟩, ⟨by first | exact Kd.R_nil _ _ _ _ _ | exact Kd.N_nil _ _ _ _ _ | exact Kd.V_nil _ _ _ _ _ | exact Kd.Q_nil _ _ _ _ _ | exact Kd.S_nil _ _ _ _ _⟩, ⟨by (with_reducible repeat (first | refine blk_drewN ?_ _ | refine blk_drew ?_ | refine blk_alloc ?_ _)); refine blk_far ?_ NB266_287.out _; (with_reducible repeat (first | refine blk_drewN ?_ _ | refine blk_drew ?_ | refine blk_alloc ?_ _)); refine blk_far ?_ NB266_287.out _; (with_reducible repeat (first | refine blk_drewN ?_ _ | refine blk_drew ?_ | refine blk_alloc ?_ _)); refine blk_far ?_ NB266_287.out _; (with_reducible repeat (first | refine blk_drewN ?_ _ | refine blk_drew ?_ | refine blk_alloc ?_ _)); exact BK266.out⟩, ⟨by (with_reducible repeat (first | refine blk_drewN ?_ _ | refine blk_drew ?_ | refine blk_alloc ?_ _)); refine blk_far ?_ NB278_287.out _; (with_reducible repeat (first | refine blk_drewN ?_ _ | refine blk_drew ?_ | refine blk_alloc ?_ _)); refine blk_far ?_ NB278_287.out _; (with_reducible repeat (first | refine blk_drewN ?_ _ | refine blk_drew ?_ | refine blk_alloc ?_ _)); refine blk_far ?_ NB278_287.out _; (with_reducible repeat (first | refine blk_drewN ?_ _ | refine blk_drew ?_ | refine blk_alloc ?_ _)); exact BK278.out⟩, ⟨by (with_reducible repeat (first | refine blk_drewN ?_ _ | refine blk_drew ?_ | refine blk_alloc ?_ _)); refine blk_far ?_ NB285_287.out _; (with_reducible repeat (first | refine blk_drewN ?_ _ | refine blk_drew ?_ | refine blk_alloc ?_ _)); refine blk_far ?_ NB285_287.out _; (with_reducible repeat (first | refine blk_drewN ?_ _ | refine blk_drew ?_ | refine blk_alloc ?_ _)); refine blk_far ?_ NB285_287.out _; (with_reducible repeat (first | refine blk_drewN ?_ _ | refine blk_drew ?_ | refine blk_alloc ?_ _)); exact BK285.out⟩, ⟨by (with_reducible repeat (first | refine blk_drewN ?_ _ | refine blk_drew ?_ | refine blk_alloc ?_ _)); refine blk_put (cs := #[.int .i64 t275, .int .i64 t276, .int .i64 0]) ?_ 2 _ rfl; (with_reducible repeat (first | refine blk_drewN ?_ _ | refine blk_drew ?_ | refine blk_alloc ?_ _)); refine blk_put (cs := #[.int .i64 t275, .int .i64 0, .int .i64 0]) ?_ 1 _ rfl; (with_reducible repeat (first | refine blk_drewN ?_ _ | refine blk_drew ?_ | refine blk_alloc ?_ _)); refine blk_put (cs := #[.int .i64 0, .int .i64 0, .int .i64 0]) ?_ 0 _ rfl; (with_reducible repeat (first | refine blk_drewN ?_ _ | refine blk_drew ?_ | refine blk_alloc ?_ _)); exact BK287.out⟩, ⟨by repeat (first | (with_reducible first | exact HB.out | apply below_alloc | apply pw_below_drewN | apply below_drew1 | refine below_set ?_ GE266.out | refine below_set ?_ GE278.out | refine below_set ?_ GE285.out | refine below_set ?_ GE287.out) | exact HB.out)⟩⟩
                  case round => as_aux_lemma =>
                   clear H'
                   try clear c1
                   try clear c2
                   try clear p2
                   try clear q2
                   try clear hx2
                   try clear c3
                   try clear q3
                   try clear c4
                   try clear c5
                   try clear c6
                   try clear p6
                   try clear c7
                   try clear c8
                   try clear c9
                   try clear c10
                   try clear c11
                   try clear c12
                   try clear c13
                   try clear c14
                   try clear c19
                   try clear c21
                   try clear c22
                   try clear c22b0
                   try clear c22b1
                   try clear c24
                   try clear c24b0
                   try clear c24b1
                   try clear c25
                   try clear c25b0
                   try clear c25b1
                   try clear p28
                   try clear q28
                   try clear hx28
                   try clear q30
                   try clear c33
                   try clear c38
                   try clear c38b0
                   try clear c38b1
                   try clear c39
                   try clear c39b0
                   try clear c39b1
                   try clear c41
                   try clear c47
                   try clear c53
                   try clear c57
                   try clear c58
                   try clear c58b0
                   try clear c58b1
                   try clear c58b2
                   try clear c59
                   try clear c62
                   try clear p64
                   try clear c67
                   try clear c67b0
                   try clear c68
                   try clear c68b0
                   try clear c72
                   try clear c73
                   try clear c75
                   try clear c75b0
                   try clear c75b1
                   try clear c76
                   try clear c77
                   try clear c79
                   try clear c80
                   try clear c82
                   try clear c84
                   try clear c85
                   try clear c87
                   try clear c92
                   try clear c93
                   try clear c94
                   try clear hcz17_0
                   try clear hcz17_1
                   try clear hcz17_2
                   try clear hcz34_0
                   try clear hcz34_1
                   try clear hcz34_2
                   try clear hcz35_0
                   try clear hcz35_1
                   try clear hcz35_2
                   try clear hcz42_0
                   try clear hcz42_1
                   try clear hcz42_2
                   try clear hcz43_0
                   try clear hcz43_1
                   try clear hcz43_2
                   try clear hcz45_0
                   try clear hcz45_1
                   try clear hcz45_2
                   try clear hcz48_0
                   try clear hcz48_1
                   try clear hcz48_2
                   try clear hcz49_0
                   try clear hcz49_1
                   try clear hcz49_2
                   try clear hcz51_0
                   try clear hcz51_1
                   try clear hcz51_2
                   try clear hcz54_0
                   try clear hcz54_1
                   try clear hcz54_2
                   try clear hcz55_0
                   try clear hcz55_1
                   try clear hcz55_2
                   try clear hcz63_0
                   try clear hcz63_1
                   try clear hcz63_2
                   try clear hcz64_0
                   try clear hcz64_1
                   try clear hcz64_2
                   try clear hcz74_0
                   try clear hcz74_1
                   try clear hcz74_2
                   try clear hcz78_0
                   try clear hcz78_1
                   try clear hcz78_2
                   try clear hcz81_0
                   try clear hcz81_1
                   try clear hcz81_2
                   try clear hcz86_0
                   try clear hcz86_1
                   try clear hcz86_2
                   try clear hcz88_0
                   try clear hcz88_1
                   try clear hcz88_2
                   try clear hcz90_0
                   try clear hcz90_1
                   try clear hcz90_2
                   try clear hcz95_0
                   try clear hcz95_1
                   try clear hcz95_2
                   try clear hfz17_0
                   try clear hfz17_1
                   try clear hfz17_2
                   try clear hfz34_0
                   try clear hfz34_1
                   try clear hfz34_2
                   try clear hfz35_0
                   try clear hfz35_1
                   try clear hfz35_2
                   try clear hfz42_0
                   try clear hfz42_1
                   try clear hfz42_2
                   try clear hfz43_0
                   try clear hfz43_1
                   try clear hfz43_2
                   try clear hfz45_0
                   try clear hfz45_1
                   try clear hfz45_2
                   try clear hfz48_0
                   try clear hfz48_1
                   try clear hfz48_2
                   try clear hfz49_0
                   try clear hfz49_1
                   try clear hfz49_2
                   try clear hfz51_0
                   try clear hfz51_1
                   try clear hfz51_2
                   try clear hfz54_0
                   try clear hfz54_1
                   try clear hfz54_2
                   try clear hfz55_0
                   try clear hfz55_1
                   try clear hfz55_2
                   try clear hfz63_0
                   try clear hfz63_1
                   try clear hfz63_2
                   try clear hfz64_0
                   try clear hfz64_1
                   try clear hfz64_2
                   try clear hfz74_0
                   try clear hfz74_1
                   try clear hfz74_2
                   try clear hfz78_0
                   try clear hfz78_1
                   try clear hfz78_2
                   try clear hfz81_0
                   try clear hfz81_1
                   try clear hfz81_2
                   try clear hfz86_0
                   try clear hfz86_1
                   try clear hfz86_2
                   try clear hfz88_0
                   try clear hfz88_1
                   try clear hfz88_2
                   try clear hfz90_0
                   try clear hfz90_1
                   try clear hfz90_2
                   try clear hfz95_0
                   try clear hfz95_1
                   try clear hfz95_2
                   try clear hx284_0
                   try clear hx284_1
                   try clear hx284_2
                   try clear p2
                   try clear p28
                   try clear p284
                   try clear p6
                   try clear p64
                   try clear q2
                   try clear q28
                   try clear q284
                   try clear q3
                   try clear q30
                   obtain ⟨x22_5, x24_5, x288000_5, x288001_5, x288002_5, rfl, HA, HK5, HO_19, HO_22, BK266, BK278, BK285, BK287, HB⟩ := hrel
                   cases gk with
                   | zero => exact absurd HA.out (by simp [ambidextertop_TopStopFromProfile.l0])
                   | succ k5 =>
                    have H := HA.out
                    clear HA
                    simp only [ambidextertop_TopStopFromProfile.l0] at H
                    by_cases c96 : x24_5 < (t279.length : Int)
                    ·
                     rw [if_pos c96] at H
                     have c96b0 : decide (x24_5 < (t279.length : Int)) = true := decide_eq_true c96
                     clear c96
                     by_cases c97 : 0 ≤ x24_5
                     ·
                      rw [if_pos c97] at H
                      have c97b0 : decide (0 ≤ x24_5) = true := decide_eq_true c97
                      clear c97
                      by_cases c98 : (wrap64 (((rd_T31 t279 x24_5).f0) - t275)) > t286
                      ·
                       rw [if_pos c98] at H
                       have c98b0 : decide (t286 < (wrap64 (((rd_T31 t279 x24_5).f0) - t275))) = true := decide_eq_true c98
                       clear c98
                       exact absurd HT.out (by rw [← Option.some.inj H]; decide)
                      ·
                       rw [if_neg c98] at H
                       have c98b0 : decide (t286 < (wrap64 (((rd_T31 t279 x24_5).f0) - t275))) = false := decide_eq_false c98
                       clear c98
                       by_cases c99 : (wrap64 (t275 - ((rd_T31 t279 x24_5).f0))) > t286
                       ·
                        rw [if_pos c99] at H
                        have c99b0 : decide (t286 < (wrap64 (t275 - ((rd_T31 t279 x24_5).f0)))) = true := decide_eq_true c99
                        clear c99
                        exact absurd HT.out (by rw [← Option.some.inj H]; decide)
                       ·
                        rw [if_neg c99] at H
                        have c99b0 : decide (t286 < (wrap64 (t275 - ((rd_T31 t279 x24_5).f0)))) = false := decide_eq_false c99
                        clear c99
                        by_cases c100 : x22_5.length < 17592186044416
                        ·
                         rw [if_pos c100] at H
                         have LMc100 := Aside0.mk c100
                         clear c100
                         obtain ⟨y291, hy291⟩ : ∃ y_ : List Int, y_ = (x22_5 ++ [wrap64 (((rd_T31 t279 x24_5).f2) - x288002_5)]) := ⟨_, rfl⟩
                         replace H : (ambidextertop_TopStopFromProfile.l0 k5 x13_6 (Int.tmod (wrap64 (a5)) 3) t279 t286 y291 (wrap64 (x24_5 + 1)) t263 t264 t265 t275 t276 t277 ((rd_T31 t279 x24_5).f0) ((rd_T31 t279 x24_5).f1) ((rd_T31 t279 x24_5).f2)) = some r := by first | (rw [hy291]; with_reducible exact H) | (have H2_ := (Option.bind_some _ _).symm.trans H; rw [hy291]; with_reducible exact H2_) | (have H2_ := (Option.bind_some _ _).symm.trans H; with_reducible exact H2_) | with_reducible exact H | (rw [hy291]; exact H) | exact H
                         have Ny291 := Aside0.mk hy291
                         clear hy291
                         have H' := Aside0.mk H
                         clear H
                         try go_wp2
                         have n0_ := Aside0.mk (Kd.R_drew HO_19.out)
                         have n1_ := Aside0.mk (Kd.R_drew HO_22.out)
                         have n2_ := Aside0.mk (blk_drew BK266.out)
                         have n3_ := Aside0.mk (blk_drew BK278.out)
                         have n4_ := Aside0.mk (blk_drew BK285.out)
                         have n5_ := Aside0.mk (blk_drew BK287.out)
                         have n6_ := Aside0.mk (below_drew1 HB.out)
                         clear HO_19
                         clear HO_22
                         clear BK266
                         clear BK278
                         clear BK285
                         clear BK287
                         clear HB
                         have HO_19 := n0_
                         have HO_22 := n1_
                         have BK266 := n2_
                         have BK278 := n3_
                         have BK285 := n4_
                         have BK287 := n5_
                         have HB := n6_
                         clear n0_ n1_ n2_ n3_ n4_ n5_ n6_
                         have p288 : 0 ≤ (x24_5 : Int) := of_decide_eq_true (by first | (with_reducible assumption) | assumption)
                         have q288 : x24_5 < (t279.length : Int) := of_decide_eq_true (by first | (with_reducible assumption) | assumption)
                         obtain ⟨ad288, e288, hx288_0, hx288_1, hx288_2⟩ := at_T31 (Kd.R_reads' HO_19.out).2.2 x24_5 p288 q288
                         obtain rfl : ad284 = ad288 := (by injection e288)
                         replace p288 := eq_true p288
                         replace q288 := eq_true q288
                         have p289 : 0 ≤ (x24_5 : Int) := of_decide_eq_true (by first | (with_reducible assumption) | assumption)
                         have q289 : x24_5 < (t279.length : Int) := of_decide_eq_true (by first | (with_reducible assumption) | assumption)
                         obtain ⟨ad289, e289, hx289_0, hx289_1, hx289_2⟩ := at_T31 (Kd.R_reads' HO_19.out).2.2 x24_5 p289 q289
                         obtain rfl : ad284 = ad289 := (by injection e289)
                         replace p289 := eq_true p289
                         replace q289 := eq_true q289
                         refine start_ (n := 22) (S := fun w' => w'.cell? ⟨gb278, 0, none⟩ = some (.int .i64 t275) ∧ w'.cell? ⟨gb278, 1, none⟩ = some (.int .i64 t276) ∧ w'.cell? ⟨gb278, 2, none⟩ = some (.int .i64 t277) ∧ w'.cell? (ad284.add ((x24_5).toNat * 3)) = some (.int .i64 ((rd_T31 t279 x24_5).f0)) ∧ w'.cell? ⟨(ad284.add ((x24_5).toNat * 3)).block, (ad284.add ((x24_5).toNat * 3)).off + 1, none⟩ = some (.int .i64 ((rd_T31 t279 x24_5).f1)) ∧ w'.cell? ⟨(ad284.add ((x24_5).toNat * 3)).block, (ad284.add ((x24_5).toNat * 3)).off + 2, none⟩ = some (.int .i64 ((rd_T31 t279 x24_5).f2)) ∧ w'.cell? (ad284.add ((x24_5).toNat * 3)) = some (.int .i64 ((rd_T31 t279 x24_5).f0)) ∧ w'.cell? ⟨(ad284.add ((x24_5).toNat * 3)).block, (ad284.add ((x24_5).toNat * 3)).off + 1, none⟩ = some (.int .i64 ((rd_T31 t279 x24_5).f1)) ∧ w'.cell? ⟨(ad284.add ((x24_5).toNat * 3)).block, (ad284.add ((x24_5).toNat * 3)).off + 2, none⟩ = some (.int .i64 ((rd_T31 t279 x24_5).f2))) (ds := []) #[false, false, false, false, false, false, false, false, false, false, false, false, false, false, false, false, false, false, false, false, false, false] (by kernel_rfl) rfl rfl ⟨(blk_cell BK278.out 0).trans rfl, (blk_cell BK278.out 1).trans rfl, (blk_cell BK278.out 2).trans rfl, hx288_0, hx288_1, hx288_2, hx289_0, hx289_1, hx289_2⟩ (fun hHeld => ?_); refine with_tabW ambidextertop_TopStopFromProfile.tab22 ambidextertop_TopStopFromProfile.bits22 (fun HT_ HW_ => ?_)
                         generalize wr.drew = w101 at HO_19 HO_22 BK266 BK278 BK285 BK287 HB hx288_0 hx288_1 hx288_2 hx289_0 hx289_1 hx289_2 hHeld ⊢
                         refine pure_ (i := 0) (N := some 125) (v := ?_) (a' := ?_) #[true, false, false, false, false, false, false, false, false, false, false, false, false, false, false, false, false, false, false, false, false, false] rfl rfl (any_of HT_.out (by kernel_rfl)) (fun _ _ _ h => h) (Or.inl ⟨by rfl, ?_⟩) ?_ ?_
                         rotate_left
                         ·
                          intro w'
                          go_simp
                          with_reducible rfl
                         rotate_left
                         ·
                          simp only [Act.put, List.setIfInBounds_toArray, List.set_cons_zero, List.set_cons_succ, i64_w, i32_w]
                          rfl
                         refine pure_ (i := 1) (N := some 126) (v := ?_) (a' := ?_) #[true, true, false, false, false, false, false, false, false, false, false, false, false, false, false, false, false, false, false, false, false, false] rfl rfl (any_of HT_.out (by kernel_rfl)) (fun _ _ _ h => h) (Or.inl ⟨by rfl, ?_⟩) ?_ ?_
                         rotate_left
                         ·
                          intro w'
                          go_simp
                          with_reducible rfl
                         rotate_left
                         ·
                          simp only [Act.put, List.setIfInBounds_toArray, List.set_cons_zero, List.set_cons_succ, i64_w, i32_w]
                          rfl
                         refine pure_ (i := 2) (N := some 127) (v := ?_) (a' := ?_) #[true, true, true, false, false, false, false, false, false, false, false, false, false, false, false, false, false, false, false, false, false, false] rfl rfl (any_of HT_.out (by kernel_rfl)) (fun _ _ _ h => h) (Or.inl ⟨by rfl, ?_⟩) ?_ ?_
                         rotate_left
                         ·
                          intro w'
                          go_simp
                          with_reducible rfl
                         rotate_left
                         ·
                          simp only [Act.put, List.setIfInBounds_toArray, List.set_cons_zero, List.set_cons_succ, i64_w, i32_w]
                          rfl
                         refine pure_ (i := 3) (N := some 128) (v := ?_) (a' := ?_) #[true, true, true, true, false, false, false, false, false, false, false, false, false, false, false, false, false, false, false, false, false, false] rfl rfl (any_of HT_.out (by kernel_rfl)) (fun _ _ _ h => h) (Or.inl ⟨by rfl, ?_⟩) ?_ ?_
                         rotate_left
                         ·
                          intro w'
                          go_simp
                          with_reducible rfl
                         rotate_left
                         ·
                          simp only [Act.put, List.setIfInBounds_toArray, List.set_cons_zero, List.set_cons_succ, i64_w, i32_w]
                          rfl
                         refine pure_ (i := 5) (N := some 130) (v := ?_) (a' := ?_) #[true, true, true, true, false, true, false, false, false, false, false, false, false, false, false, false, false, false, false, false, false, false] rfl rfl (any_of HT_.out (by kernel_rfl)) (fun _ _ _ h => h) (Or.inl ⟨by rfl, ?_⟩) ?_ ?_
                         rotate_left
                         ·
                          intro w'
                          go_simp
                          with_reducible rfl
                         rotate_left
                         ·
                          simp only [Act.put, List.setIfInBounds_toArray, List.set_cons_zero, List.set_cons_succ, i64_w, i32_w]
                          rfl
                         refine pure_ (i := 8) (N := some 133) (v := ?_) (a' := ?_) #[true, true, true, true, false, true, false, false, true, false, false, false, false, false, false, false, false, false, false, false, false, false] rfl rfl (any_of HT_.out (by kernel_rfl)) (fun _ _ _ h => h) (Or.inl ⟨by rfl, ?_⟩) ?_ ?_
                         rotate_left
                         ·
                          intro w'
                          go_simp
                          with_reducible rfl
                         rotate_left
                         ·
                          simp only [Act.put, List.setIfInBounds_toArray, List.set_cons_zero, List.set_cons_succ, i64_w, i32_w]
                          rfl
                         refine take_ (i := 4) (N := some 129) (v := ?_) (a' := ?_) #[true, true, true, true, true, true, false, false, true, false, false, false, false, false, false, false, false, false, false, false, false, false] rfl rfl (take_ofW HT_.out HW_.out (by kernel_rfl)) (fun _ _ _ h => h) (Or.inl ⟨by rfl, ?_⟩) hHeld ?_ ?_
                         rotate_left
                         ·
                          rintro w' ⟨s0, s1, s2, s3, s4, s5, s6, s7, s8⟩
                          go_simp
                          with_reducible rfl
                         rotate_left
                         ·
                          simp only [Act.put, List.setIfInBounds_toArray, List.set_cons_zero, List.set_cons_succ, i64_w, i32_w]
                          rfl
                         refine take_ (i := 6) (N := some 131) (v := ?_) (a' := ?_) #[true, true, true, true, true, true, true, false, true, false, false, false, false, false, false, false, false, false, false, false, false, false] rfl rfl (take_ofW HT_.out HW_.out (by kernel_rfl)) (fun _ _ _ h => h) (Or.inl ⟨by rfl, ?_⟩) hHeld ?_ ?_
                         rotate_left
                         ·
                          rintro w' ⟨s0, s1, s2, s3, s4, s5, s6, s7, s8⟩
                          go_simp
                          with_reducible rfl
                         rotate_left
                         ·
                          simp only [Act.put, List.setIfInBounds_toArray, List.set_cons_zero, List.set_cons_succ, i64_w, i32_w]
                          rfl
                         refine pure_ (i := 7) (N := some 132) (v := ?_) (a' := ?_) #[true, true, true, true, true, true, true, true, true, false, false, false, false, false, false, false, false, false, false, false, false, false] rfl rfl (any_of HT_.out (by kernel_rfl)) (fun _ _ _ h => h) (Or.inl ⟨by rfl, ?_⟩) ?_ ?_
                         rotate_left
                         ·
                          intro w'
                          go_simp
                          with_reducible rfl
                         rotate_left
                         ·
                          simp only [Act.put, List.setIfInBounds_toArray, List.set_cons_zero, List.set_cons_succ, i64_w, i32_w]
                          rfl
                         refine pure_ (i := 9) (N := some 134) (v := ?_) (a' := ?_) #[true, true, true, true, true, true, true, true, true, true, false, false, false, false, false, false, false, false, false, false, false, false] rfl rfl (any_of HT_.out (by kernel_rfl)) (fun _ _ _ h => h) (Or.inl ⟨by rfl, ?_⟩) ?_ ?_
                         rotate_left
                         ·
                          intro w'
                          go_simp
                          with_reducible rfl
                         rotate_left
                         ·
                          simp only [Act.put, List.setIfInBounds_toArray, List.set_cons_zero, List.set_cons_succ, i64_w, i32_w]
                          rfl
                         refine pure_ (i := 10) (N := some 135) (v := ?_) (a' := ?_) #[true, true, true, true, true, true, true, true, true, true, true, false, false, false, false, false, false, false, false, false, false, false] rfl rfl (any_of HT_.out (by kernel_rfl)) (fun _ _ _ h => h) (Or.inl ⟨by rfl, ?_⟩) ?_ ?_
                         rotate_left
                         ·
                          intro w'
                          go_simp
                          with_reducible rfl
                         rotate_left
                         ·
                          simp only [Act.put, List.setIfInBounds_toArray, List.set_cons_zero, List.set_cons_succ, i64_w, i32_w]
                          rfl
                         refine pure_ (i := 11) (N := some 136) (v := ?_) (a' := ?_) #[true, true, true, true, true, true, true, true, true, true, true, true, false, false, false, false, false, false, false, false, false, false] rfl rfl (any_of HT_.out (by kernel_rfl)) (fun _ _ _ h => h) (Or.inl ⟨by rfl, ?_⟩) ?_ ?_
                         rotate_left
                         ·
                          intro w'
                          go_simp
                          with_reducible rfl
                         rotate_left
                         ·
                          simp only [Act.put, List.setIfInBounds_toArray, List.set_cons_zero, List.set_cons_succ, i64_w, i32_w]
                          rfl
                         refine pure_ (i := 13) (N := some 138) (v := ?_) (a' := ?_) #[true, true, true, true, true, true, true, true, true, true, true, true, false, true, false, false, false, false, false, false, false, false] rfl rfl (any_of HT_.out (by kernel_rfl)) (fun _ _ _ h => h) (Or.inl ⟨by rfl, ?_⟩) ?_ ?_
                         rotate_left
                         ·
                          intro w'
                          go_simp
                          with_reducible rfl
                         rotate_left
                         ·
                          simp only [Act.put, List.setIfInBounds_toArray, List.set_cons_zero, List.set_cons_succ, i64_w, i32_w]
                          rfl
                         refine pure_ (i := 14) (N := some 139) (v := ?_) (a' := ?_) #[true, true, true, true, true, true, true, true, true, true, true, true, false, true, true, false, false, false, false, false, false, false] rfl rfl (any_of HT_.out (by kernel_rfl)) (fun _ _ _ h => h) (Or.inl ⟨by rfl, ?_⟩) ?_ ?_
                         rotate_left
                         ·
                          intro w'
                          go_simp
                          with_reducible rfl
                         rotate_left
                         ·
                          simp only [Act.put, List.setIfInBounds_toArray, List.set_cons_zero, List.set_cons_succ, i64_w, i32_w]
                          rfl
                         refine pure_ (i := 15) (N := some 140) (v := ?_) (a' := ?_) #[true, true, true, true, true, true, true, true, true, true, true, true, false, true, true, true, false, false, false, false, false, false] rfl rfl (any_of HT_.out (by kernel_rfl)) (fun _ _ _ h => h) (Or.inl ⟨by rfl, ?_⟩) ?_ ?_
                         rotate_left
                         ·
                          intro w'
                          go_simp
                          with_reducible rfl
                         rotate_left
                         ·
                          simp only [Act.put, List.setIfInBounds_toArray, List.set_cons_zero, List.set_cons_succ, i64_w, i32_w]
                          rfl
                         refine pure_ (i := 16) (N := some 141) (v := ?_) (a' := ?_) #[true, true, true, true, true, true, true, true, true, true, true, true, false, true, true, true, true, false, false, false, false, false] rfl rfl (any_of HT_.out (by kernel_rfl)) (fun _ _ _ h => h) (Or.inl ⟨by rfl, ?_⟩) ?_ ?_
                         rotate_left
                         ·
                          intro w'
                          go_simp
                          with_reducible rfl
                         rotate_left
                         ·
                          simp only [Act.put, List.setIfInBounds_toArray, List.set_cons_zero, List.set_cons_succ, i64_w, i32_w]
                          rfl
                         refine pure_ (i := 19) (N := some 144) (v := ?_) (a' := ?_) #[true, true, true, true, true, true, true, true, true, true, true, true, false, true, true, true, true, false, false, true, false, false] rfl rfl (any_of HT_.out (by kernel_rfl)) (fun _ _ _ h => h) (Or.inl ⟨by rfl, ?_⟩) ?_ ?_
                         rotate_left
                         ·
                          intro w'
                          go_simp
                          with_reducible rfl
                         rotate_left
                         ·
                          simp only [Act.put, List.setIfInBounds_toArray, List.set_cons_zero, List.set_cons_succ, i64_w, i32_w]
                          rfl
                         refine take_ (i := 12) (N := some 137) (v := ?_) (a' := ?_) #[true, true, true, true, true, true, true, true, true, true, true, true, true, true, true, true, true, false, false, true, false, false] rfl rfl (take_ofW HT_.out HW_.out (by kernel_rfl)) (fun _ _ _ h => h) (Or.inl ⟨by rfl, ?_⟩) hHeld ?_ ?_
                         rotate_left
                         ·
                          rintro w' ⟨s0, s1, s2, s3, s4, s5, s6, s7, s8⟩
                          go_simp
                          with_reducible rfl
                         rotate_left
                         ·
                          simp only [Act.put, List.setIfInBounds_toArray, List.set_cons_zero, List.set_cons_succ, i64_w, i32_w]
                          rfl
                         refine take_ (i := 17) (N := some 142) (v := ?_) (a' := ?_) #[true, true, true, true, true, true, true, true, true, true, true, true, true, true, true, true, true, true, false, true, false, false] rfl rfl (take_ofW HT_.out HW_.out (by kernel_rfl)) (fun _ _ _ h => h) (Or.inl ⟨by rfl, ?_⟩) hHeld ?_ ?_
                         rotate_left
                         ·
                          rintro w' ⟨s0, s1, s2, s3, s4, s5, s6, s7, s8⟩
                          go_simp
                          with_reducible rfl
                         rotate_left
                         ·
                          simp only [Act.put, List.setIfInBounds_toArray, List.set_cons_zero, List.set_cons_succ, i64_w, i32_w]
                          rfl
                         refine pure_ (i := 18) (N := some 143) (v := ?_) (a' := ?_) #[true, true, true, true, true, true, true, true, true, true, true, true, true, true, true, true, true, true, true, true, false, false] rfl rfl (any_of HT_.out (by kernel_rfl)) (fun _ _ _ h => h) (Or.inl ⟨by rfl, ?_⟩) ?_ ?_
                         rotate_left
                         ·
                          intro w'
                          go_simp
                          with_reducible rfl
                         rotate_left
                         ·
                          simp only [Act.put, List.setIfInBounds_toArray, List.set_cons_zero, List.set_cons_succ, i64_w, i32_w]
                          rfl
                         refine pure_ (i := 20) (N := some 145) (v := ?_) (a' := ?_) #[true, true, true, true, true, true, true, true, true, true, true, true, true, true, true, true, true, true, true, true, true, false] rfl rfl (any_of HT_.out (by kernel_rfl)) (fun _ _ _ h => h) (Or.inl ⟨by rfl, ?_⟩) ?_ ?_
                         rotate_left
                         ·
                          intro w'
                          go_simp
                          with_reducible rfl
                         rotate_left
                         ·
                          simp only [Act.put, List.setIfInBounds_toArray, List.set_cons_zero, List.set_cons_succ, i64_w, i32_w]
                          rfl
                         refine pure_ (i := 21) (N := some 146) (v := ?_) (a' := ?_) #[true, true, true, true, true, true, true, true, true, true, true, true, true, true, true, true, true, true, true, true, true, true] rfl rfl (any_of HT_.out (by kernel_rfl)) (fun _ _ _ h => h) (Or.inl ⟨by rfl, ?_⟩) ?_ ?_
                         rotate_left
                         ·
                          intro w'
                          go_simp
                          with_reducible rfl
                         rotate_left
                         ·
                          simp only [Act.put, List.setIfInBounds_toArray, List.set_cons_zero, List.set_cons_succ, i64_w, i32_w]
                          rfl
                         refine done_ (done_of HT_.out (by kernel_rfl)) ?_
                         try go_wp2
                         have n0_ := Aside0.mk (Kd.R_drew HO_19.out)
                         have n1_ := Aside0.mk (Kd.R_drew HO_22.out)
                         have n2_ := Aside0.mk (blk_drew BK266.out)
                         have n3_ := Aside0.mk (blk_drew BK278.out)
                         have n4_ := Aside0.mk (blk_drew BK285.out)
                         have n5_ := Aside0.mk (blk_drew BK287.out)
                         have n6_ := Aside0.mk (below_drew1 HB.out)
                         clear HO_19
                         clear HO_22
                         clear BK266
                         clear BK278
                         clear BK285
                         clear BK287
                         clear HB
                         have HO_19 := n0_
                         have HO_22 := n1_
                         have BK266 := n2_
                         have BK278 := n3_
                         have BK285 := n4_
                         have BK287 := n5_
                         have HB := n6_
                         clear n0_ n1_ n2_ n3_ n4_ n5_ n6_
                         have p290 : 0 ≤ (x24_5 : Int) := of_decide_eq_true (by first | (with_reducible assumption) | assumption)
                         have q290 : x24_5 < (t279.length : Int) := of_decide_eq_true (by first | (with_reducible assumption) | assumption)
                         obtain ⟨ad290, e290, hx290_0, hx290_1, hx290_2⟩ := at_T31 (Kd.R_reads' HO_19.out).2.2 x24_5 p290 q290
                         obtain rfl : ad284 = ad290 := (by injection e290)
                         replace p290 := eq_true p290
                         replace q290 := eq_true q290
                         refine start_ (n := 12) (S := fun w' => w'.cell? ⟨gb287, 0, none⟩ = some (.int .i64 x288000_5) ∧ w'.cell? ⟨gb287, 1, none⟩ = some (.int .i64 x288001_5) ∧ w'.cell? ⟨gb287, 2, none⟩ = some (.int .i64 x288002_5) ∧ w'.cell? (ad284.add ((x24_5).toNat * 3)) = some (.int .i64 ((rd_T31 t279 x24_5).f0)) ∧ w'.cell? ⟨(ad284.add ((x24_5).toNat * 3)).block, (ad284.add ((x24_5).toNat * 3)).off + 1, none⟩ = some (.int .i64 ((rd_T31 t279 x24_5).f1)) ∧ w'.cell? ⟨(ad284.add ((x24_5).toNat * 3)).block, (ad284.add ((x24_5).toNat * 3)).off + 2, none⟩ = some (.int .i64 ((rd_T31 t279 x24_5).f2))) (ds := [9, 10]) #[false, false, false, false, false, false, false, false, false, false, false, false] (by kernel_rfl) rfl rfl ⟨(blk_cell BK287.out 0).trans rfl, (blk_cell BK287.out 1).trans rfl, (blk_cell BK287.out 2).trans rfl, hx290_0, hx290_1, hx290_2⟩ (fun hHeld => ?_); refine with_tabW ambidextertop_TopStopFromProfile.tab24 ambidextertop_TopStopFromProfile.bits24 (fun HT_ HW_ => ?_)
                         generalize w101.drew = w102 at HO_19 HO_22 BK266 BK278 BK285 BK287 HB hx290_0 hx290_1 hx290_2 hHeld ⊢
                         refine pure_ (i := 0) (N := some 147) (v := ?_) (a' := ?_) #[true, false, false, false, false, false, false, false, false, false, false, false] rfl rfl (any_of HT_.out (by kernel_rfl)) (fun _ _ _ h => h) (Or.inl ⟨by rfl, ?_⟩) ?_ ?_
                         rotate_left
                         ·
                          intro w'
                          go_simp
                          with_reducible rfl
                         rotate_left
                         ·
                          simp only [Act.put, List.setIfInBounds_toArray, List.set_cons_zero, List.set_cons_succ, i64_w, i32_w]
                          rfl
                         refine pure_ (i := 1) (N := some 148) (v := ?_) (a' := ?_) #[true, true, false, false, false, false, false, false, false, false, false, false] rfl rfl (any_of HT_.out (by kernel_rfl)) (fun _ _ _ h => h) (Or.inl ⟨by rfl, ?_⟩) ?_ ?_
                         rotate_left
                         ·
                          intro w'
                          go_simp
                          with_reducible rfl
                         rotate_left
                         ·
                          simp only [Act.put, List.setIfInBounds_toArray, List.set_cons_zero, List.set_cons_succ, i64_w, i32_w]
                          rfl
                         refine pure_ (i := 2) (N := some 149) (v := ?_) (a' := ?_) #[true, true, true, false, false, false, false, false, false, false, false, false] rfl rfl (any_of HT_.out (by kernel_rfl)) (fun _ _ _ h => h) (Or.inl ⟨by rfl, ?_⟩) ?_ ?_
                         rotate_left
                         ·
                          intro w'
                          go_simp
                          with_reducible rfl
                         rotate_left
                         ·
                          simp only [Act.put, List.setIfInBounds_toArray, List.set_cons_zero, List.set_cons_succ, i64_w, i32_w]
                          rfl
                         refine pure_ (i := 3) (N := some 150) (v := ?_) (a' := ?_) #[true, true, true, true, false, false, false, false, false, false, false, false] rfl rfl (any_of HT_.out (by kernel_rfl)) (fun _ _ _ h => h) (Or.inl ⟨by rfl, ?_⟩) ?_ ?_
                         rotate_left
                         ·
                          intro w'
                          go_simp
                          with_reducible rfl
                         rotate_left
                         ·
                          simp only [Act.put, List.setIfInBounds_toArray, List.set_cons_zero, List.set_cons_succ, i64_w, i32_w]
                          rfl
                         refine pure_ (i := 4) (N := some 151) (v := ?_) (a' := ?_) #[true, true, true, true, true, false, false, false, false, false, false, false] rfl rfl (any_of HT_.out (by kernel_rfl)) (fun _ _ _ h => h) (Or.inl ⟨by rfl, ?_⟩) ?_ ?_
                         rotate_left
                         ·
                          intro w'
                          go_simp
                          with_reducible rfl
                         rotate_left
                         ·
                          simp only [Act.put, List.setIfInBounds_toArray, List.set_cons_zero, List.set_cons_succ, i64_w, i32_w]
                          rfl
                         refine pure_ (i := 6) (N := some 153) (v := ?_) (a' := ?_) #[true, true, true, true, true, false, true, false, false, false, false, false] rfl rfl (any_of HT_.out (by kernel_rfl)) (fun _ _ _ h => h) (Or.inl ⟨by rfl, ?_⟩) ?_ ?_
                         rotate_left
                         ·
                          intro w'
                          go_simp
                          with_reducible rfl
                         rotate_left
                         ·
                          simp only [Act.put, List.setIfInBounds_toArray, List.set_cons_zero, List.set_cons_succ, i64_w, i32_w]
                          rfl
                         refine take_ (i := 5) (N := some 152) (v := ?_) (a' := ?_) #[true, true, true, true, true, true, true, false, false, false, false, false] rfl rfl (take_ofW HT_.out HW_.out (by kernel_rfl)) (fun _ _ _ h => h) (Or.inl ⟨by rfl, ?_⟩) hHeld ?_ ?_
                         rotate_left
                         ·
                          rintro w' ⟨s0, s1, s2, s3, s4, s5⟩
                          go_simp
                          with_reducible rfl
                         rotate_left
                         ·
                          simp only [Act.put, List.setIfInBounds_toArray, List.set_cons_zero, List.set_cons_succ, i64_w, i32_w]
                          rfl
                         refine take_ (i := 7) (N := some 154) (v := ?_) (a' := ?_) #[true, true, true, true, true, true, true, true, false, false, false, false] rfl rfl (take_ofW HT_.out HW_.out (by kernel_rfl)) (fun _ _ _ h => h) (Or.inl ⟨by rfl, ?_⟩) hHeld ?_ ?_
                         rotate_left
                         ·
                          rintro w' ⟨s0, s1, s2, s3, s4, s5⟩
                          go_simp
                          with_reducible rfl
                         rotate_left
                         ·
                          simp only [Act.put, List.setIfInBounds_toArray, List.set_cons_zero, List.set_cons_succ, i64_w, i32_w]
                          rfl
                         refine pure_ (i := 8) (N := some 155) (v := ?_) (a' := ?_) #[true, true, true, true, true, true, true, true, true, false, false, false] rfl rfl (any_of HT_.out (by kernel_rfl)) (fun _ _ _ h => h) (Or.inl ⟨by rfl, ?_⟩) ?_ ?_
                         rotate_left
                         ·
                          intro w'
                          go_simp
                          with_reducible rfl
                         rotate_left
                         ·
                          simp only [Act.put, List.setIfInBounds_toArray, List.set_cons_zero, List.set_cons_succ, i64_w, i32_w]
                          rfl
                         refine last_ (i := 9) (N := some 156) #[true, true, true, true, true, true, true, true, true, true, false, false] rfl rfl (one_of HT_.out (by kernel_rfl)) (by decide) (fun K hK => ?_)
                         refine value_ (w1 := ?_) (v := ?_) (by rfl) rfl ?_ ?_
                         rotate_left 2
                         ·
                          go_simp
                          constructor
                          ·
                           rfl
                          ·
                           rfl
                         refine hK.out _ _ ?_
                         clear hK K
                         refine norm_ (a' := ?_) ?_ ?_
                         rotate_left
                         ·
                          show Act.put _ (some 156) _ = _
                          simp only [Act.put, List.setIfInBounds_toArray, List.set_cons_zero, List.set_cons_succ, i64_w, i32_w]
                          rfl
                         refine last_ (i := 10) (N := some 157) #[true, true, true, true, true, true, true, true, true, true, true, false] rfl rfl (one_of HT_.out (by kernel_rfl)) (by decide) (fun K hK => ?_)
                         refine Kd.R_append_step (Kd.int .i64) (w0 := w) w.heap.size (by rfl) (.tmp 147) (.tmp 156) 27 3 (.int .i64 0) 8 rfl Try.underlying27 info3 rfl (by decide) (by omega) u22 x22_5 (wrap64 (((rd_T31 t279 x24_5).f2) - x288002_5)) [.int .i64 (wrap64 (((rd_T31 t279 x24_5).f2) - x288002_5))] (fun _ => True) (fun _ => False) rfl rfl ?aP (fun _ hk => hk.elim) ?aF ?aO ?aB ?aS ?aL ?_
                         (case aP => exact rfl)
                         (case aB => exact (by repeat (first | (with_reducible first | exact HB.out | apply below_alloc | apply pw_below_drewN | apply below_drew1 | refine below_set ?_ GE266.out | refine below_set ?_ GE278.out | refine below_set ?_ GE285.out | refine below_set ?_ GE287.out) | exact HB.out)))
                         (case aF => exact (fun _ _ => trivial))
                         (case aO => exact (by (with_reducible repeat (first | apply Kd.R_alloc | apply Kd.R_drewN | apply Kd.R_drew)); exact HO_22.out))
                         (case aS => exact (below_size (by repeat (first | (with_reducible first | exact HB.out | apply below_alloc | apply pw_below_drewN | apply below_drew1 | refine below_set ?_ GE266.out | refine below_set ?_ GE278.out | refine below_set ?_ GE285.out | refine below_set ?_ GE287.out) | exact HB.out))))
                         (case aL => have := LMc100.out; omega)
                         intro v292 w103 ho hb hg hat
                         rw [← Ny291.out] at ho
                         have n0_ := Aside0.mk (Kd.R_over' (by (with_reducible repeat (first | apply Kd.R_alloc | apply Kd.R_drewN | apply Kd.R_drew)); exact HO_19.out) (Kd.R_typed (by (with_reducible repeat (first | apply Kd.R_alloc | apply Kd.R_drewN | apply Kd.R_drew)); exact HO_22.out)) (by decide) hg)
                         have n1_ := Aside0.mk (blk_grown (g := gb266) (o := .cells #[.int .i64 t263, .int .i64 t264, .int .i64 t265] 25 (0, 0)) (by (with_reducible repeat (first | refine blk_drewN ?_ _ | refine blk_drew ?_ | refine blk_alloc ?_ _)); exact BK266.out) hg (Kd.R_ne HO_22.out BK266.out (by decide)))
                         have n2_ := Aside0.mk (blk_grown (g := gb278) (o := .cells #[.int .i64 t275, .int .i64 t276, .int .i64 t277] 31 (0, 0)) (by (with_reducible repeat (first | refine blk_drewN ?_ _ | refine blk_drew ?_ | refine blk_alloc ?_ _)); exact BK278.out) hg (Kd.R_ne HO_22.out BK278.out (by decide)))
                         have n3_ := Aside0.mk (blk_grown (g := gb285) (o := .cells #[.int .i64 ((rd_T31 t279 (ji66)).f0), .int .i64 ((rd_T31 t279 (ji66)).f1), .int .i64 ((rd_T31 t279 (ji66)).f2)] 31 (0, 0)) (by (with_reducible repeat (first | refine blk_drewN ?_ _ | refine blk_drew ?_ | refine blk_alloc ?_ _)); exact BK285.out) hg (Kd.R_ne HO_22.out BK285.out (by decide)))
                         have n4_ := Aside0.mk (blk_grown (g := gb287) (o := .cells #[.int .i64 x288000_5, .int .i64 x288001_5, .int .i64 x288002_5] 31 (0, 0)) (by (with_reducible repeat (first | refine blk_drewN ?_ _ | refine blk_drew ?_ | refine blk_alloc ?_ _)); exact BK287.out) hg (Kd.R_ne HO_22.out BK287.out (by decide)))
                         have n5_ := Aside0.mk (hb)
                         have n6_ := Aside0.mk (ho)
                         clear HO_19
                         clear BK266
                         clear BK278
                         clear BK285
                         clear BK287
                         clear HB
                         clear HO_22
                         have HO_19 := n0_
                         have BK266 := n1_
                         have BK278 := n2_
                         have BK285 := n3_
                         have BK287 := n4_
                         have HB := n5_
                         have HO293 := n6_
                         clear n0_ n1_ n2_ n3_ n4_ n5_ n6_
                         clear ho hb hg hat
                         refine hK.out _ _ ?_
                         clear hK K
                         refine norm_ (a' := ?_) ?_ ?_
                         rotate_left
                         ·
                          show Act.put _ (some 157) _ = _
                          simp only [Act.put, List.setIfInBounds_toArray, List.set_cons_zero, List.set_cons_succ, i64_w, i32_w]
                          rfl
                         refine pure_ (i := 11) (N := some 22) (v := ?_) (a' := ?_) #[true, true, true, true, true, true, true, true, true, true, true, true] rfl rfl (any_of HT_.out (by kernel_rfl)) (fun _ _ _ h => h) (Or.inl ⟨by rfl, ?_⟩) ?_ ?_
                         rotate_left
                         ·
                          intro w'
                          go_simp
                          with_reducible rfl
                         rotate_left
                         ·
                          simp only [Act.put, List.setIfInBounds_toArray, List.set_cons_zero, List.set_cons_succ, i64_w, i32_w]
                          rfl
                         refine done_ (done_of HT_.out (by kernel_rfl)) ?_
                         have p294 : 0 ≤ (x24_5 : Int) := of_decide_eq_true (by first | (with_reducible assumption) | assumption)
                         have q294 : x24_5 < (t279.length : Int) := of_decide_eq_true (by first | (with_reducible assumption) | assumption)
                         obtain ⟨ad294, e294, hx294_0, hx294_1, hx294_2⟩ := at_T31 (Kd.R_reads' HO_19.out).2.2 x24_5 p294 q294
                         obtain rfl : ad284 = ad294 := (by injection e294)
                         replace p294 := eq_true p294
                         replace q294 := eq_true q294
                         have hnb104 := NB287_266.out
                         have hnc104 := NB266_287.out
                         have hnb105 := NB287_278.out
                         have hnc105 := NB278_287.out
                         have hnb106 := NB287_285.out
                         have hnc106 := NB285_287.out
                         have hcz107_0 : w103.cell? ⟨gb287, 0, none⟩ = some (.int .i64 x288000_5) := (blk_cell BK287.out 0).trans rfl
                         have hcz107_1 : w103.cell? ⟨gb287, 1, none⟩ = some (.int .i64 x288001_5) := (blk_cell BK287.out 1).trans rfl
                         have hcz107_2 : w103.cell? ⟨gb287, 2, none⟩ = some (.int .i64 x288002_5) := (blk_cell BK287.out 2).trans rfl
                         have hfz107_0 := blk_frozen BK287.out 0
                         have hfz107_1 := blk_frozen BK287.out 1
                         have hfz107_2 := blk_frozen BK287.out 2
                         try go_wp2
                         go_roundg k5
                         case measure => have := HJ6.out; have := HJ13.out; have := HJ27.out; have := HJ68.out; have := HK5.out; omega
                         case rel => exact ⟨(y291), (wrap64 (x24_5 + 1)), ((rd_T31 t279 x24_5).f0), ((rd_T31 t279 x24_5).f1), ((rd_T31 t279 x24_5).f2), (by first | rfl | (simp; done) | (simp [*]; done)), H', ⟨by have := HJ6.out; have := HJ13.out; have := HJ27.out; have := HJ68.out; have := HK5.out; omega⟩, ⟨by (with_reducible repeat (first | apply Kd.R_alloc | apply Kd.R_drewN | apply Kd.R_drew)); exact Kd.R_mono (Kd.R_far (p := ⟨gb287, 2, none⟩) (Kd.R_far (p := ⟨gb287, 1, none⟩) (Kd.R_far (p := ⟨gb287, 0, none⟩) (Kd.R_mono HO_19.out (fun k_ hk => (⟨hk, hk.2.2⟩ : _ ∧ k_ ≠ gb287))) (fun _ hk => hk.2) (.int .i64 ((rd_T31 t279 x24_5).f0))) (fun _ hk => hk.2) (.int .i64 ((rd_T31 t279 x24_5).f1))) (fun _ hk => hk.2) (.int .i64 ((rd_T31 t279 x24_5).f2))) (fun _ hk => ⟨hk.1.1, ⟨hk.1.2.1, hk.1.2.2⟩⟩)⟩, ⟨by (with_reducible repeat (first | apply Kd.R_alloc | apply Kd.R_drewN | apply Kd.R_drew)); exact Kd.R_mono (Kd.R_far (p := ⟨gb287, 2, none⟩) (Kd.R_far (p := ⟨gb287, 1, none⟩) (Kd.R_far (p := ⟨gb287, 0, none⟩) (Kd.R_types HO293.out BK287.out (by decide)) (fun _ hk => hk.2) (.int .i64 ((rd_T31 t279 x24_5).f0))) (fun _ hk => hk.2) (.int .i64 ((rd_T31 t279 x24_5).f1))) (fun _ hk => hk.2) (.int .i64 ((rd_T31 t279 x24_5).f2))) (fun _ hk => trivial)⟩, ⟨by (with_reducible repeat (first | refine blk_drewN ?_ _ | refine blk_drew ?_ | refine blk_alloc ?_ _)); refine blk_far ?_ NB266_287.out _; (with_reducible repeat (first | refine blk_drewN ?_ _ | refine blk_drew ?_ | refine blk_alloc ?_ _)); refine blk_far ?_ NB266_287.out _; (with_reducible repeat (first | refine blk_drewN ?_ _ | refine blk_drew ?_ | refine blk_alloc ?_ _)); refine blk_far ?_ NB266_287.out _; (with_reducible repeat (first | refine blk_drewN ?_ _ | refine blk_drew ?_ | refine blk_alloc ?_ _)); exact BK266.out⟩, ⟨by (with_reducible repeat (first | refine blk_drewN ?_ _ | refine blk_drew ?_ | refine blk_alloc ?_ _)); refine blk_far ?_ NB278_287.out _; (with_reducible repeat (first | refine blk_drewN ?_ _ | refine blk_drew ?_ | refine blk_alloc ?_ _)); refine blk_far ?_ NB278_287.out _; (with_reducible repeat (first | refine blk_drewN ?_ _ | refine blk_drew ?_ | refine blk_alloc ?_ _)); refine blk_far ?_ NB278_287.out _; (with_reducible repeat (first | refine blk_drewN ?_ _ | refine blk_drew ?_ | refine blk_alloc ?_ _)); exact BK278.out⟩, ⟨by (with_reducible repeat (first | refine blk_drewN ?_ _ | refine blk_drew ?_ | refine blk_alloc ?_ _)); refine blk_far ?_ NB285_287.out _; (with_reducible repeat (first | refine blk_drewN ?_ _ | refine blk_drew ?_ | refine blk_alloc ?_ _)); refine blk_far ?_ NB285_287.out _; (with_reducible repeat (first | refine blk_drewN ?_ _ | refine blk_drew ?_ | refine blk_alloc ?_ _)); refine blk_far ?_ NB285_287.out _; (with_reducible repeat (first | refine blk_drewN ?_ _ | refine blk_drew ?_ | refine blk_alloc ?_ _)); exact BK285.out⟩, ⟨by (with_reducible repeat (first | refine blk_drewN ?_ _ | refine blk_drew ?_ | refine blk_alloc ?_ _)); refine blk_put (cs := #[.int .i64 ((rd_T31 t279 x24_5).f0), .int .i64 ((rd_T31 t279 x24_5).f1), .int .i64 x288002_5]) ?_ 2 _ rfl; (with_reducible repeat (first | refine blk_drewN ?_ _ | refine blk_drew ?_ | refine blk_alloc ?_ _)); refine blk_put (cs := #[.int .i64 ((rd_T31 t279 x24_5).f0), .int .i64 x288001_5, .int .i64 x288002_5]) ?_ 1 _ rfl; (with_reducible repeat (first | refine blk_drewN ?_ _ | refine blk_drew ?_ | refine blk_alloc ?_ _)); refine blk_put (cs := #[.int .i64 x288000_5, .int .i64 x288001_5, .int .i64 x288002_5]) ?_ 0 _ rfl; (with_reducible repeat (first | refine blk_drewN ?_ _ | refine blk_drew ?_ | refine blk_alloc ?_ _)); exact BK287.out⟩, ⟨by repeat (first | (with_reducible first | exact HB.out | apply below_alloc | apply pw_below_drewN | apply below_drew1 | refine below_set ?_ GE266.out | refine below_set ?_ GE278.out | refine below_set ?_ GE285.out | refine below_set ?_ GE287.out) | exact HB.out)⟩⟩
                        ·
                         rw [if_neg c100] at H
                         exact absurd H (by simp)
                     ·
                      rw [if_neg c97] at H
                      exact absurd H (by simp)
                    ·
                     rw [if_neg c96] at H
                     have c96b0 : decide (x24_5 < (t279.length : Int)) = false := decide_eq_false c96
                     clear c96
                     by_cases c108 : (Int.tmod (wrap64 (a5)) 3) = 0
                     ·
                      rw [if_pos c108] at H
                      have c108b0 : ((Int.tmod (wrap64 (a5)) 3) == 0) = true := beq_iff_eq.mpr c108
                      have c108b1 : ((Int.tmod (wrap64 (a5)) 3) != 0) = false := bne_eq_false_iff_eq.mpr c108
                      clear c108
                      by_cases c109 : x13_6 = true
                      ·
                       subst c109
                       have H1 : (if (t279.length : Int) ≤ 2 then (some (decide (t286 ≤ 4))) else (some false)) = some r := by rw [if_pos rfl] at H; exact H
                       clear H
                       have H := H1
                       clear H1
                       by_cases c110 : (t279.length : Int) ≤ 2
                       ·
                        rw [if_pos c110] at H
                        have c110b0 : decide ((t279.length : Int) ≤ 2) = true := decide_eq_true c110
                        have c110b1 : decide (t279.length ≤ 2) = true := decide_eq_true (by omega)
                        clear c110
                        obtain rfl := Option.some.inj H
                        go_wp2
                        go_ret
                        exact ⟨by first | rfl | (simp [errW_none, errW_some] <;> rfl) | (simp only [← hji23, ← hji66]; first | rfl | (simp [errW_none, errW_some] <;> rfl)) | (simp [*, errW_none, errW_some] <;> rfl), by repeat (first | (with_reducible first | exact HB.out | apply below_alloc | apply pw_below_drewN | apply below_drew1 | refine below_set ?_ GE266.out | refine below_set ?_ GE278.out | refine below_set ?_ GE285.out | refine below_set ?_ GE287.out) | exact HB.out)⟩
                       ·
                        rw [if_neg c110] at H
                        have c110b0 : decide ((t279.length : Int) ≤ 2) = false := decide_eq_false c110
                        have c110b1 : decide (t279.length ≤ 2) = false := decide_eq_false (by omega)
                        clear c110
                        exact absurd HT.out (by rw [← Option.some.inj H]; decide)
                      ·
                       replace c109 := Bool.eq_false_iff.mpr c109
                       subst c109
                       have H1 : (some false) = some r := by rw [if_neg (show ¬ (false = true) by decide)] at H; exact H
                       clear H
                       have H := H1
                       clear H1
                       exact absurd HT.out (by rw [← Option.some.inj H]; decide)
                     ·
                      rw [if_neg c108] at H
                      have c108b0 : ((Int.tmod (wrap64 (a5)) 3) == 0) = false := beq_eq_false_iff_ne.mpr c108
                      have c108b1 : ((Int.tmod (wrap64 (a5)) 3) != 0) = true := bne_iff_ne.mpr c108
                      replace H := Option.bind_eq_some_iff.mp H
                      obtain ⟨t295, A1110, H⟩ := H
                      replace H : (ambidextertop_TopStopFromProfile.l1 k5 x13_6 t279 x22_5 t295 0 t263 t264 t265) = some r := H
                      have A111 := Aside0.mk A1110
                      clear A1110
                      have H' := Aside0.mk H
                      clear H
                      have hnb112 := NB278_266.out
                      have hnc112 := NB266_278.out
                      have hnb113 := NB278_285.out
                      have hnc113 := NB285_278.out
                      have hnb114 := NB278_287.out
                      have hnc114 := NB287_278.out
                      have hcz115_0 : wr.cell? ⟨gb278, 0, none⟩ = some (.int .i64 t275) := (blk_cell BK278.out 0).trans rfl
                      have hcz115_1 : wr.cell? ⟨gb278, 1, none⟩ = some (.int .i64 t276) := (blk_cell BK278.out 1).trans rfl
                      have hcz115_2 : wr.cell? ⟨gb278, 2, none⟩ = some (.int .i64 t277) := (blk_cell BK278.out 2).trans rfl
                      have hfz115_0 := blk_frozen BK278.out 0
                      have hfz115_1 := blk_frozen BK278.out 1
                      have hfz115_2 := blk_frozen BK278.out 2
                      obtain ⟨Ao116, co116, eo116⟩ := Kd.R_slice HO_22.out
                      subst eo116
                      go_wp2_with (first | ((with_reducible refine gate_callee (f := 15) rfl ?_); refine goesL_ (some 176) rfl rfl Try.func15 (by kernel_rfl) rfl #[.agg #[.int .i64 t275, .int .i64 t276, .int .i64 t277], .slice Ao116 x22_5.length co116] rfl (by (try simp only [List.map_toArray, List.map_cons, List.map_nil]); first | done | rfl | (simp only [List.length_drop, List.length_take]; rfl)) ?_; (with_reducible refine (profile_Simulate.calls t275 t276 t277 _ _ x22_5 t295 _ ?side1 ?side2 A111.out).mono ?_); (case side1 => repeat (first | exact (Kd.R_reads' HO_22.out).2.2 | (with_reducible refine Kd.C_alloc ?_ _) | (with_reducible refine Kd.C_drewN ?_ _) | (with_reducible refine Kd.C_drew ?_))); (case side2 => exact (Kd.R_reads' HO_22.out).2.1); rintro e w117 ⟨v296, rfl, ho0, hb⟩; refine ⟨_, rfl, ?_⟩; have n0_ := Aside0.mk (Kd.R_elder' (by (with_reducible repeat (first | apply Kd.R_alloc | apply Kd.R_drewN | apply Kd.R_drew)); exact HO_19.out) (Kd.R_base ho0) hb); have n1_ := Aside0.mk (Kd.R_below (by (with_reducible repeat (first | apply Kd.R_alloc | apply Kd.R_drewN | apply Kd.R_drew)); exact HO_22.out) hb); have n2_ := Aside0.mk (Kd.R_lower (Kd.R_newB (Kd.R_newB (Kd.R_newB (Kd.R_new' ho0 (Kd.R_lt (by (with_reducible repeat (first | apply Kd.R_alloc | apply Kd.R_drewN | apply Kd.R_drew)); exact HO_19.out))) (g := gb278) (o := .cells #[.int .i64 t275, .int .i64 t276, .int .i64 t277] 31 (0, 0)) (by (with_reducible repeat (first | refine blk_drewN ?_ _ | refine blk_drew ?_ | refine blk_alloc ?_ _)); exact BK278.out)) (g := gb285) (o := .cells #[.int .i64 ((rd_T31 t279 (ji66)).f0), .int .i64 ((rd_T31 t279 (ji66)).f1), .int .i64 ((rd_T31 t279 (ji66)).f2)] 31 (0, 0)) (by (with_reducible repeat (first | refine blk_drewN ?_ _ | refine blk_drew ?_ | refine blk_alloc ?_ _)); exact BK285.out)) (g := gb287) (o := .cells #[.int .i64 x288000_5, .int .i64 x288001_5, .int .i64 x288002_5] 31 (0, 0)) (by (with_reducible repeat (first | refine blk_drewN ?_ _ | refine blk_drew ?_ | refine blk_alloc ?_ _)); exact BK287.out)) (below_size (by repeat (first | (with_reducible first | exact HB.out | apply below_alloc | apply pw_below_drewN | apply below_drew1 | refine below_set ?_ GE266.out | refine below_set ?_ GE278.out | refine below_set ?_ GE285.out | refine below_set ?_ GE287.out) | exact HB.out)))); have n3_ := Aside0.mk (blk_below (g := gb266) (o := .cells #[.int .i64 t263, .int .i64 t264, .int .i64 t265] 25 (0, 0)) (by (with_reducible repeat (first | refine blk_drewN ?_ _ | refine blk_drew ?_ | refine blk_alloc ?_ _)); exact BK266.out) hb); have n4_ := Aside0.mk (blk_below (g := gb278) (o := .cells #[.int .i64 t275, .int .i64 t276, .int .i64 t277] 31 (0, 0)) (by (with_reducible repeat (first | refine blk_drewN ?_ _ | refine blk_drew ?_ | refine blk_alloc ?_ _)); exact BK278.out) hb); have n5_ := Aside0.mk (blk_below (g := gb285) (o := .cells #[.int .i64 ((rd_T31 t279 (ji66)).f0), .int .i64 ((rd_T31 t279 (ji66)).f1), .int .i64 ((rd_T31 t279 (ji66)).f2)] 31 (0, 0)) (by (with_reducible repeat (first | refine blk_drewN ?_ _ | refine blk_drew ?_ | refine blk_alloc ?_ _)); exact BK285.out) hb); have n6_ := Aside0.mk (blk_below (g := gb287) (o := .cells #[.int .i64 x288000_5, .int .i64 x288001_5, .int .i64 x288002_5] 31 (0, 0)) (by (with_reducible repeat (first | refine blk_drewN ?_ _ | refine blk_drew ?_ | refine blk_alloc ?_ _)); exact BK287.out) hb); have n7_ := Aside0.mk (below_step (by repeat (first | (with_reducible first | exact HB.out | apply below_alloc | apply pw_below_drewN | apply below_drew1 | refine below_set ?_ GE266.out | refine below_set ?_ GE278.out | refine below_set ?_ GE285.out | refine below_set ?_ GE287.out) | exact HB.out)) hb); clear HO_19; clear HO_22; clear BK266; clear BK278; clear BK285; clear BK287; clear HB; have HO_19 := n0_; have HO_22 := n1_; have HO297 := n2_; have BK266 := n3_; have BK278 := n4_; have BK285 := n5_; have BK287 := n6_; have HB := n7_; clear n0_ n1_ n2_ n3_ n4_ n5_ n6_ n7_; (try clear hb); (try clear hb2); (try clear hk); (try clear hi); (try clear ho0)))
                      go_loopg [26] k5 (fun kq v26 w' => ∃ (x26_6 : Int), v26 = .int .i64 x26_6 ∧ Aside0 (ambidextertop_TopStopFromProfile.l1 kq x13_6 t279 x22_5 t295 x26_6 t263 t264 t265 = some r) ∧ Aside0 (kq ≤ k5) ∧ Aside0 (Kd.R k31 31 w' w.heap.size (fun k_ => some k_ ≠ (v296 : Value).ownBlock ∧ k_ ≠ gb278 ∧ k_ ≠ gb285 ∧ k_ ≠ gb287) (.slice (some ad284) t279.length co70) t279) ∧ Aside0 (Kd.R (Kd.int .i64) 3 w' w.heap.size (fun _ => True) (.slice Ao116 x22_5.length co116) x22_5) ∧ Aside0 (Kd.R k31 31 w' w.heap.size (fun k_ => some k_ ≠ ((.slice (some ad284) t279.length co70) : Value).ownBlock ∧ k_ ≠ gb278 ∧ k_ ≠ gb285 ∧ k_ ≠ gb287) v296 t295) ∧ Aside0 (w'.heap[gb266]? = some (.cells #[.int .i64 t263, .int .i64 t264, .int .i64 t265] 25 (0, 0))) ∧ Aside0 (w'.heap[gb278]? = some (.cells #[.int .i64 t275, .int .i64 t276, .int .i64 t277] 31 (0, 0))) ∧ Aside0 (w'.heap[gb285]? = some (.cells #[.int .i64 ((rd_T31 t279 (ji66)).f0), .int .i64 ((rd_T31 t279 (ji66)).f1), .int .i64 ((rd_T31 t279 (ji66)).f2)] 31 (0, 0))) ∧ Aside0 (w'.heap[gb287]? = some (.cells #[.int .i64 x288000_5, .int .i64 x288001_5, .int .i64 x288002_5] 31 (0, 0))) ∧ Aside0 (Below w.heap.size w w'))
                      case atStart => exact ⟨(0), (by first | rfl | (simp; done) | (simp [*]; done)), H', ⟨Nat.le_refl _⟩, ⟨by (with_reducible repeat (first | apply Kd.R_alloc | apply Kd.R_drewN | apply Kd.R_drew)); exact Kd.R_mono HO_19.out (fun _ hk => ⟨hk.2, ⟨hk.1.1, ⟨hk.1.2.1, hk.1.2.2⟩⟩⟩)⟩, ⟨by (with_reducible repeat (first | apply Kd.R_alloc | apply Kd.R_drewN | apply Kd.R_drew)); exact HO_22.out⟩, ⟨by (with_reducible repeat (first | apply Kd.R_alloc | apply Kd.R_drewN | apply Kd.R_drew)); exact Kd.R_mono HO297.out (fun _ hk => ⟨hk.1.1.1.2, ⟨hk.1.1.2, ⟨hk.1.2, hk.2⟩⟩⟩)⟩, ⟨by (with_reducible repeat (first | refine blk_drewN ?_ _ | refine blk_drew ?_ | refine blk_alloc ?_ _)); exact BK266.out⟩, ⟨by (with_reducible repeat (first | refine blk_drewN ?_ _ | refine blk_drew ?_ | refine blk_alloc ?_ _)); exact BK278.out⟩, ⟨by (with_reducible repeat (first | refine blk_drewN ?_ _ | refine blk_drew ?_ | refine blk_alloc ?_ _)); exact BK285.out⟩, ⟨by (with_reducible repeat (first | refine blk_drewN ?_ _ | refine blk_drew ?_ | refine blk_alloc ?_ _)); exact BK287.out⟩, ⟨by repeat (first | (with_reducible first | exact HB.out | apply below_alloc | apply pw_below_drewN | apply below_drew1 | refine below_set ?_ GE266.out | refine below_set ?_ GE278.out | refine below_set ?_ GE285.out | refine below_set ?_ GE287.out) | exact HB.out)⟩⟩
                      case round => as_aux_lemma =>
                       clear H'
                       try clear c1
                       try clear p2
                       try clear q2
                       try clear hx2
                       try clear q3
                       try clear p6
                       try clear c9
                       try clear c10
                       try clear c11
                       try clear c15
                       try clear p28
                       try clear q28
                       try clear hx28
                       try clear p29
                       try clear q29
                       try clear hx29
                       try clear q30
                       try clear p64
                       try clear c96
                       try clear c96b0
                       try clear c97
                       try clear c97b0
                       try clear c98
                       try clear c98b0
                       try clear c99
                       try clear c99b0
                       try clear c100
                       try clear c104
                       try clear c105
                       try clear c106
                       try clear c108
                       try clear c108b0
                       try clear c108b1
                       try clear c109
                       try clear c110
                       try clear c110b0
                       try clear c110b1
                       try clear c112
                       try clear c113
                       try clear c114
                       try clear hcz107_0
                       try clear hcz107_1
                       try clear hcz107_2
                       try clear hcz115_0
                       try clear hcz115_1
                       try clear hcz115_2
                       try clear hcz78_2
                       try clear hcz81_0
                       try clear hcz81_1
                       try clear hcz81_2
                       try clear hcz86_0
                       try clear hcz86_1
                       try clear hcz86_2
                       try clear hcz88_0
                       try clear hcz88_1
                       try clear hcz88_2
                       try clear hcz90_0
                       try clear hcz90_1
                       try clear hcz90_2
                       try clear hcz95_0
                       try clear hcz95_1
                       try clear hcz95_2
                       try clear hfz107_0
                       try clear hfz107_1
                       try clear hfz107_2
                       try clear hfz115_0
                       try clear hfz115_1
                       try clear hfz115_2
                       try clear hfz17_0
                       try clear hfz17_1
                       try clear hfz17_2
                       try clear hfz34_0
                       try clear hfz34_1
                       try clear hfz34_2
                       try clear hfz35_0
                       try clear hfz35_1
                       try clear hfz35_2
                       try clear hfz42_0
                       try clear hfz42_1
                       try clear hfz42_2
                       try clear hfz43_0
                       try clear hfz43_1
                       try clear hfz43_2
                       try clear hfz45_0
                       try clear hfz45_1
                       try clear hfz45_2
                       try clear hfz48_0
                       try clear hfz48_1
                       try clear hfz48_2
                       try clear hfz49_0
                       try clear hfz49_1
                       try clear hfz49_2
                       try clear hfz51_0
                       try clear hfz51_1
                       try clear hfz51_2
                       try clear hfz54_0
                       try clear hfz54_1
                       try clear hfz54_2
                       try clear hfz55_0
                       try clear hfz55_1
                       try clear hfz55_2
                       try clear hfz63_0
                       try clear hfz63_1
                       try clear hfz63_2
                       try clear hfz64_0
                       try clear hfz64_1
                       try clear hfz64_2
                       try clear hfz74_0
                       try clear hfz74_1
                       try clear hfz74_2
                       try clear hfz78_0
                       try clear hfz78_1
                       try clear hfz78_2
                       try clear hfz81_0
                       try clear hfz81_1
                       try clear hfz81_2
                       try clear hfz86_0
                       try clear hfz86_1
                       try clear hfz86_2
                       try clear hfz88_0
                       try clear hfz88_1
                       try clear hfz88_2
                       try clear hfz90_0
                       try clear hfz90_1
                       try clear hfz90_2
                       try clear hfz95_0
                       try clear hfz95_1
                       try clear hfz95_2
                       try clear hx284_0
                       try clear hx284_1
                       try clear hx284_2
                       try clear hx288_0
                       try clear hx288_1
                       try clear hx288_2
                       try clear hx289_0
                       try clear hx289_1
                       try clear hx289_2
                       try clear hx290_0
                       try clear hx290_1
                       try clear hx290_2
                       try clear hx294_0
                       try clear hx294_1
                       try clear hx294_2
                       try clear p2
                       try clear p28
                       try clear p284
                       try clear p288
                       try clear p289
                       try clear p290
                       try clear p294
                       try clear p6
                       try clear p64
                       try clear q2
                       try clear q28
                       try clear q284
                       try clear q288
                       try clear q289
                       try clear q290
                       try clear q294
                       try clear q3
                       try clear q30
                       obtain ⟨x26_6, rfl, HA, HK6, HO_19, HO_22, HO_25, BK266, BK278, BK285, BK287, HB⟩ := hrel
                       cases gk with
                       | zero => exact absurd HA.out (by simp [ambidextertop_TopStopFromProfile.l1])
                       | succ k6 =>
                        have H := HA.out
                        clear HA
                        simp only [ambidextertop_TopStopFromProfile.l1] at H
                        by_cases c118 : x26_6 < (x22_5.length : Int)
                        ·
                         rw [if_pos c118] at H
                         have c118b0 : decide (x26_6 < (x22_5.length : Int)) = true := decide_eq_true c118
                         clear c118
                         by_cases c119 : x26_6 ≥ (t295.length : Int)
                         ·
                          rw [if_pos c119] at H
                          have c119b0 : decide ((t295.length : Int) ≤ x26_6) = true := decide_eq_true c119
                          clear c119
                          exact absurd HT.out (by rw [← Option.some.inj H]; decide)
                         ·
                          rw [if_neg c119] at H
                          have c119b0 : decide ((t295.length : Int) ≤ x26_6) = false := decide_eq_false c119
                          clear c119
                          by_cases c120 : 0 ≤ x26_6
                          ·
                           rw [if_pos c120] at H
                           have c120b0 : decide (0 ≤ x26_6) = true := decide_eq_true c120
                           clear c120
                           by_cases c121 : x26_6 < (t295.length : Int)
                           ·
                            rw [if_pos c121] at H
                            have c121b0 : decide (x26_6 < (t295.length : Int)) = true := decide_eq_true c121
                            clear c121
                            by_cases c122 : x26_6 < (t279.length : Int)
                            ·
                             rw [if_pos c122] at H
                             have c122b0 : decide (x26_6 < (t279.length : Int)) = true := decide_eq_true c122
                             clear c122
                             by_cases c123 : (!(((rd_T31 t295 x26_6).f0) == ((rd_T31 t279 x26_6).f0)) || (!(((rd_T31 t295 x26_6).f1) == ((rd_T31 t279 x26_6).f1)) || (!(((rd_T31 t295 x26_6).f2) == ((rd_T31 t279 x26_6).f2))))) = true
                             ·
                              rw [if_pos c123] at H
                              have c123b0 : (!(((rd_T31 t295 x26_6).f0) == ((rd_T31 t279 x26_6).f0)) || (!(((rd_T31 t295 x26_6).f1) == ((rd_T31 t279 x26_6).f1)) || (!(((rd_T31 t295 x26_6).f2) == ((rd_T31 t279 x26_6).f2))))) = true := c123
                              clear c123
                              exact absurd HT.out (by rw [← Option.some.inj H]; decide)
                             ·
                              rw [if_neg c123] at H
                              have c123b0 : (!(((rd_T31 t295 x26_6).f0) == ((rd_T31 t279 x26_6).f0)) || (!(((rd_T31 t295 x26_6).f1) == ((rd_T31 t279 x26_6).f1)) || (!(((rd_T31 t295 x26_6).f2) == ((rd_T31 t279 x26_6).f2))))) = false := by simpa using c123
                              clear c123
                              by_cases c124 : (rd x22_5 x26_6) > t265
                              ·
                               rw [if_pos c124] at H
                               have c124b0 : decide (t265 < (rd x22_5 x26_6)) = true := decide_eq_true c124
                               clear c124
                               exact absurd HT.out (by rw [← Option.some.inj H]; decide)
                              ·
                               rw [if_neg c124] at H
                               have c124b0 : decide (t265 < (rd x22_5 x26_6)) = false := decide_eq_false c124
                               clear c124
                               by_cases c125 : (rd x22_5 x26_6) < (wrap64 (-t265))
                               ·
                                rw [if_pos c125] at H
                                have c125b0 : decide ((rd x22_5 x26_6) < (wrap64 (-t265))) = true := decide_eq_true c125
                                clear c125
                                exact absurd HT.out (by rw [← Option.some.inj H]; decide)
                               ·
                                rw [if_neg c125] at H
                                have c125b0 : decide ((rd x22_5 x26_6) < (wrap64 (-t265))) = false := decide_eq_false c125
                                clear c125
                                by_cases c126 : ((rd_T31 t279 x26_6).f2) > t264
                                ·
                                 rw [if_pos c126] at H
                                 have c126b0 : decide (t264 < ((rd_T31 t279 x26_6).f2)) = true := decide_eq_true c126
                                 clear c126
                                 exact absurd HT.out (by rw [← Option.some.inj H]; decide)
                                ·
                                 rw [if_neg c126] at H
                                 have c126b0 : decide (t264 < ((rd_T31 t279 x26_6).f2)) = false := decide_eq_false c126
                                 clear c126
                                 by_cases c127 : ((rd_T31 t279 x26_6).f2) < (wrap64 (-t264))
                                 ·
                                  rw [if_pos c127] at H
                                  have c127b0 : decide (((rd_T31 t279 x26_6).f2) < (wrap64 (-t264))) = true := decide_eq_true c127
                                  clear c127
                                  exact absurd HT.out (by rw [← Option.some.inj H]; decide)
                                 ·
                                  rw [if_neg c127] at H
                                  have c127b0 : decide (((rd_T31 t279 x26_6).f2) < (wrap64 (-t264))) = false := decide_eq_false c127
                                  clear c127
                                  have H' := Aside0.mk H
                                  clear H
                                  try go_wp2
                                  have n0_ := Aside0.mk (Kd.R_drew HO_19.out)
                                  have n1_ := Aside0.mk (Kd.R_drew HO_22.out)
                                  have n2_ := Aside0.mk (Kd.R_drew HO_25.out)
                                  have n3_ := Aside0.mk (blk_drew BK266.out)
                                  have n4_ := Aside0.mk (blk_drew BK278.out)
                                  have n5_ := Aside0.mk (blk_drew BK285.out)
                                  have n6_ := Aside0.mk (blk_drew BK287.out)
                                  have n7_ := Aside0.mk (below_drew1 HB.out)
                                  clear HO_19
                                  clear HO_22
                                  clear HO_25
                                  clear BK266
                                  clear BK278
                                  clear BK285
                                  clear BK287
                                  clear HB
                                  have HO_19 := n0_
                                  have HO_22 := n1_
                                  have HO_25 := n2_
                                  have BK266 := n3_
                                  have BK278 := n4_
                                  have BK285 := n5_
                                  have BK287 := n6_
                                  have HB := n7_
                                  clear n0_ n1_ n2_ n3_ n4_ n5_ n6_ n7_
                                  obtain ⟨Ao129, co129, eo129⟩ := Kd.R_slice HO_25.out
                                  (first | subst eo129 | (injection eo129 with f1_ f2_ f3_; have f4_ := f1_.symm; have f5_ := f3_.symm; clear f1_ f2_ f3_; subst f4_; subst f5_))
                                  have p298 : 0 ≤ (x26_6 : Int) := of_decide_eq_true (by first | (with_reducible assumption) | assumption)
                                  have q298 : x26_6 < (t295.length : Int) := of_decide_eq_true (by first | (with_reducible assumption) | assumption)
                                  obtain ⟨ad298, e298, hx298_0, hx298_1, hx298_2⟩ := at_T31 (Kd.R_reads' HO_25.out).2.2 x26_6 p298 q298
                                  cases e298
                                  replace p298 := eq_true p298
                                  replace q298 := eq_true q298
                                  have p299 : 0 ≤ (x26_6 : Int) := of_decide_eq_true (by first | (with_reducible assumption) | assumption)
                                  have q299 : x26_6 < (t279.length : Int) := of_decide_eq_true (by first | (with_reducible assumption) | assumption)
                                  obtain ⟨ad299, e299, hx299_0, hx299_1, hx299_2⟩ := at_T31 (Kd.R_reads' HO_19.out).2.2 x26_6 p299 q299
                                  obtain rfl : ad284 = ad299 := (by injection e299)
                                  replace p299 := eq_true p299
                                  replace q299 := eq_true q299
                                  have p300 : 0 ≤ (x26_6 : Int) := of_decide_eq_true (by first | (with_reducible assumption) | assumption)
                                  have q300 : x26_6 < (x22_5.length : Int) := of_decide_eq_true (by first | (with_reducible assumption) | assumption)
                                  obtain ⟨ad300, e300, hx300_0⟩ := Kd.at_int (Kd.R_reads' HO_22.out).2.2 x26_6 p300 q300
                                  cases e300
                                  replace p300 := eq_true p300
                                  replace q300 := eq_true q300
                                  have p301 : 0 ≤ (x26_6 : Int) := of_decide_eq_true (by first | (with_reducible assumption) | assumption)
                                  have q301 : x26_6 < (x22_5.length : Int) := of_decide_eq_true (by first | (with_reducible assumption) | assumption)
                                  obtain ⟨ad301, e301, hx301_0⟩ := Kd.at_int (Kd.R_reads' HO_22.out).2.2 x26_6 p301 q301
                                  obtain rfl : ad300 = ad301 := (by injection e301)
                                  replace p301 := eq_true p301
                                  replace q301 := eq_true q301
                                  have p302 : 0 ≤ (x26_6 : Int) := of_decide_eq_true (by first | (with_reducible assumption) | assumption)
                                  have q302 : x26_6 < (t279.length : Int) := of_decide_eq_true (by first | (with_reducible assumption) | assumption)
                                  obtain ⟨ad302, e302, hx302_0, hx302_1, hx302_2⟩ := at_T31 (Kd.R_reads' HO_19.out).2.2 x26_6 p302 q302
                                  obtain rfl : ad284 = ad302 := (by injection e302)
                                  replace p302 := eq_true p302
                                  replace q302 := eq_true q302
                                  have p303 : 0 ≤ (x26_6 : Int) := of_decide_eq_true (by first | (with_reducible assumption) | assumption)
                                  have q303 : x26_6 < (t279.length : Int) := of_decide_eq_true (by first | (with_reducible assumption) | assumption)
                                  obtain ⟨ad303, e303, hx303_0, hx303_1, hx303_2⟩ := at_T31 (Kd.R_reads' HO_19.out).2.2 x26_6 p303 q303
                                  obtain rfl : ad284 = ad303 := (by injection e303)
                                  replace p303 := eq_true p303
                                  replace q303 := eq_true q303
                                  refine start_ (n := 55) (S := fun w' => w'.cell? ⟨gb266, 0, none⟩ = some (.int .i64 t263) ∧ w'.cell? ⟨gb266, 1, none⟩ = some (.int .i64 t264) ∧ w'.cell? ⟨gb266, 2, none⟩ = some (.int .i64 t265) ∧ w'.cell? (ad298.add ((x26_6).toNat * 3)) = some (.int .i64 ((rd_T31 t295 x26_6).f0)) ∧ w'.cell? ⟨(ad298.add ((x26_6).toNat * 3)).block, (ad298.add ((x26_6).toNat * 3)).off + 1, none⟩ = some (.int .i64 ((rd_T31 t295 x26_6).f1)) ∧ w'.cell? ⟨(ad298.add ((x26_6).toNat * 3)).block, (ad298.add ((x26_6).toNat * 3)).off + 2, none⟩ = some (.int .i64 ((rd_T31 t295 x26_6).f2)) ∧ w'.cell? (ad284.add ((x26_6).toNat * 3)) = some (.int .i64 ((rd_T31 t279 x26_6).f0)) ∧ w'.cell? ⟨(ad284.add ((x26_6).toNat * 3)).block, (ad284.add ((x26_6).toNat * 3)).off + 1, none⟩ = some (.int .i64 ((rd_T31 t279 x26_6).f1)) ∧ w'.cell? ⟨(ad284.add ((x26_6).toNat * 3)).block, (ad284.add ((x26_6).toNat * 3)).off + 2, none⟩ = some (.int .i64 ((rd_T31 t279 x26_6).f2)) ∧ w'.cell? (ad300.add (x26_6).toNat) = some (.int .i64 (rd x22_5 x26_6)) ∧ w'.cell? (ad300.add (x26_6).toNat) = some (.int .i64 (rd x22_5 x26_6)) ∧ w'.cell? (ad284.add ((x26_6).toNat * 3)) = some (.int .i64 ((rd_T31 t279 x26_6).f0)) ∧ w'.cell? ⟨(ad284.add ((x26_6).toNat * 3)).block, (ad284.add ((x26_6).toNat * 3)).off + 1, none⟩ = some (.int .i64 ((rd_T31 t279 x26_6).f1)) ∧ w'.cell? ⟨(ad284.add ((x26_6).toNat * 3)).block, (ad284.add ((x26_6).toNat * 3)).off + 2, none⟩ = some (.int .i64 ((rd_T31 t279 x26_6).f2)) ∧ w'.cell? (ad284.add ((x26_6).toNat * 3)) = some (.int .i64 ((rd_T31 t279 x26_6).f0)) ∧ w'.cell? ⟨(ad284.add ((x26_6).toNat * 3)).block, (ad284.add ((x26_6).toNat * 3)).off + 1, none⟩ = some (.int .i64 ((rd_T31 t279 x26_6).f1)) ∧ w'.cell? ⟨(ad284.add ((x26_6).toNat * 3)).block, (ad284.add ((x26_6).toNat * 3)).off + 2, none⟩ = some (.int .i64 ((rd_T31 t279 x26_6).f2))) (ds := []) #[false, false, false, false, false, false, false, false, false, false, false, false, false, false, false, false, false, false, false, false, false, false, false, false, false, false, false, false, false, false, false, false, false, false, false, false, false, false, false, false, false, false, false, false, false, false, false, false, false, false, false, false, false, false, false] (by kernel_rfl) rfl rfl ⟨(blk_cell BK266.out 0).trans rfl, (blk_cell BK266.out 1).trans rfl, (blk_cell BK266.out 2).trans rfl, hx298_0, hx298_1, hx298_2, hx299_0, hx299_1, hx299_2, hx300_0, hx301_0, hx302_0, hx302_1, hx302_2, hx303_0, hx303_1, hx303_2⟩ (fun hHeld => ?_); refine with_tabW ambidextertop_TopStopFromProfile.tab32 ambidextertop_TopStopFromProfile.bits32 (fun HT_ HW_ => ?_)
                                  generalize wr.drew = w128 at HO_19 HO_22 HO_25 BK266 BK278 BK285 BK287 HB hx298_0 hx298_1 hx298_2 hx299_0 hx299_1 hx299_2 hx300_0 hx301_0 hx302_0 hx302_1 hx302_2 hx303_0 hx303_1 hx303_2 hHeld ⊢
                                  refine pure_ (i := 0) (N := some 183) (v := ?_) (a' := ?_) #[true, false, false, false, false, false, false, false, false, false, false, false, false, false, false, false, false, false, false, false, false, false, false, false, false, false, false, false, false, false, false, false, false, false, false, false, false, false, false, false, false, false, false, false, false, false, false, false, false, false, false, false, false, false, false] rfl rfl (any_of HT_.out (by kernel_rfl)) (fun _ _ _ h => h) (Or.inl ⟨by rfl, ?_⟩) ?_ ?_
                                  rotate_left
                                  ·
                                   intro w'
                                   go_simp
                                   with_reducible rfl
                                  rotate_left
                                  ·
                                   simp only [Act.put, List.setIfInBounds_toArray, List.set_cons_zero, List.set_cons_succ, i64_w, i32_w]
                                   rfl
                                  refine pure_ (i := 1) (N := some 184) (v := ?_) (a' := ?_) #[true, true, false, false, false, false, false, false, false, false, false, false, false, false, false, false, false, false, false, false, false, false, false, false, false, false, false, false, false, false, false, false, false, false, false, false, false, false, false, false, false, false, false, false, false, false, false, false, false, false, false, false, false, false, false] rfl rfl (any_of HT_.out (by kernel_rfl)) (fun _ _ _ h => h) (Or.inl ⟨by rfl, ?_⟩) ?_ ?_
                                  rotate_left
                                  ·
                                   intro w'
                                   go_simp
                                   with_reducible rfl
                                  rotate_left
                                  ·
                                   simp only [Act.put, List.setIfInBounds_toArray, List.set_cons_zero, List.set_cons_succ, i64_w, i32_w]
                                   rfl
                                  refine pure_ (i := 2) (N := some 185) (v := ?_) (a' := ?_) #[true, true, true, false, false, false, false, false, false, false, false, false, false, false, false, false, false, false, false, false, false, false, false, false, false, false, false, false, false, false, false, false, false, false, false, false, false, false, false, false, false, false, false, false, false, false, false, false, false, false, false, false, false, false, false] rfl rfl (any_of HT_.out (by kernel_rfl)) (fun _ _ _ h => h) (Or.inl ⟨by rfl, ?_⟩) ?_ ?_
                                  rotate_left
                                  ·
                                   intro w'
                                   go_simp
                                   with_reducible rfl
                                  rotate_left
                                  ·
                                   simp only [Act.put, List.setIfInBounds_toArray, List.set_cons_zero, List.set_cons_succ, i64_w, i32_w]
                                   rfl
                                  refine pure_ (i := 3) (N := some 186) (v := ?_) (a' := ?_) #[true, true, true, true, false, false, false, false, false, false, false, false, false, false, false, false, false, false, false, false, false, false, false, false, false, false, false, false, false, false, false, false, false, false, false, false, false, false, false, false, false, false, false, false, false, false, false, false, false, false, false, false, false, false, false] rfl rfl (any_of HT_.out (by kernel_rfl)) (fun _ _ _ h => h) (Or.inl ⟨by rfl, ?_⟩) ?_ ?_
                                  rotate_left
                                  ·
                                   intro w'
                                   go_simp
                                   with_reducible rfl
                                  rotate_left
                                  ·
                                   simp only [Act.put, List.setIfInBounds_toArray, List.set_cons_zero, List.set_cons_succ, i64_w, i32_w]
                                   rfl
                                  refine pure_ (i := 4) (N := some 187) (v := ?_) (a' := ?_) #[true, true, true, true, true, false, false, false, false, false, false, false, false, false, false, false, false, false, false, false, false, false, false, false, false, false, false, false, false, false, false, false, false, false, false, false, false, false, false, false, false, false, false, false, false, false, false, false, false, false, false, false, false, false, false] rfl rfl (any_of HT_.out (by kernel_rfl)) (fun _ _ _ h => h) (Or.inl ⟨by rfl, ?_⟩) ?_ ?_
                                  rotate_left
                                  ·
                                   intro w'
                                   go_simp
                                   with_reducible rfl
                                  rotate_left
                                  ·
                                   simp only [Act.put, List.setIfInBounds_toArray, List.set_cons_zero, List.set_cons_succ, i64_w, i32_w]
                                   rfl
                                  refine pure_ (i := 5) (N := some 188) (v := ?_) (a' := ?_) #[true, true, true, true, true, true, false, false, false, false, false, false, false, false, false, false, false, false, false, false, false, false, false, false, false, false, false, false, false, false, false, false, false, false, false, false, false, false, false, false, false, false, false, false, false, false, false, false, false, false, false, false, false, false, false] rfl rfl (any_of HT_.out (by kernel_rfl)) (fun _ _ _ h => h) (Or.inl ⟨by rfl, ?_⟩) ?_ ?_
                                  rotate_left
                                  ·
                                   intro w'
                                   go_simp
                                   with_reducible rfl
                                  rotate_left
                                  ·
                                   simp only [Act.put, List.setIfInBounds_toArray, List.set_cons_zero, List.set_cons_succ, i64_w, i32_w]
                                   rfl
                                  refine pure_ (i := 6) (N := some 189) (v := ?_) (a' := ?_) #[true, true, true, true, true, true, true, false, false, false, false, false, false, false, false, false, false, false, false, false, false, false, false, false, false, false, false, false, false, false, false, false, false, false, false, false, false, false, false, false, false, false, false, false, false, false, false, false, false, false, false, false, false, false, false] rfl rfl (any_of HT_.out (by kernel_rfl)) (fun _ _ _ h => h) (Or.inl ⟨by rfl, ?_⟩) ?_ ?_
                                  rotate_left
                                  ·
                                   intro w'
                                   go_simp
                                   with_reducible rfl
                                  rotate_left
                                  ·
                                   simp only [Act.put, List.setIfInBounds_toArray, List.set_cons_zero, List.set_cons_succ, i64_w, i32_w]
                                   rfl
                                  refine pure_ (i := 7) (N := some 190) (v := ?_) (a' := ?_) #[true, true, true, true, true, true, true, true, false, false, false, false, false, false, false, false, false, false, false, false, false, false, false, false, false, false, false, false, false, false, false, false, false, false, false, false, false, false, false, false, false, false, false, false, false, false, false, false, false, false, false, false, false, false, false] rfl rfl (any_of HT_.out (by kernel_rfl)) (fun _ _ _ h => h) (Or.inl ⟨by rfl, ?_⟩) ?_ ?_
                                  rotate_left
                                  ·
                                   intro w'
                                   go_simp
                                   with_reducible rfl
                                  rotate_left
                                  ·
                                   simp only [Act.put, List.setIfInBounds_toArray, List.set_cons_zero, List.set_cons_succ, i64_w, i32_w]
                                   rfl
                                  refine pure_ (i := 9) (N := some 192) (v := ?_) (a' := ?_) #[true, true, true, true, true, true, true, true, false, true, false, false, false, false, false, false, false, false, false, false, false, false, false, false, false, false, false, false, false, false, false, false, false, false, false, false, false, false, false, false, false, false, false, false, false, false, false, false, false, false, false, false, false, false, false] rfl rfl (any_of HT_.out (by kernel_rfl)) (fun _ _ _ h => h) (Or.inl ⟨by rfl, ?_⟩) ?_ ?_
                                  rotate_left
                                  ·
                                   intro w'
                                   go_simp
                                   with_reducible rfl
                                  rotate_left
                                  ·
                                   simp only [Act.put, List.setIfInBounds_toArray, List.set_cons_zero, List.set_cons_succ, i64_w, i32_w]
                                   rfl
                                  refine pure_ (i := 10) (N := some 193) (v := ?_) (a' := ?_) #[true, true, true, true, true, true, true, true, false, true, true, false, false, false, false, false, false, false, false, false, false, false, false, false, false, false, false, false, false, false, false, false, false, false, false, false, false, false, false, false, false, false, false, false, false, false, false, false, false, false, false, false, false, false, false] rfl rfl (any_of HT_.out (by kernel_rfl)) (fun _ _ _ h => h) (Or.inl ⟨by rfl, ?_⟩) ?_ ?_
                                  rotate_left
                                  ·
                                   intro w'
                                   go_simp
                                   with_reducible rfl
                                  rotate_left
                                  ·
                                   simp only [Act.put, List.setIfInBounds_toArray, List.set_cons_zero, List.set_cons_succ, i64_w, i32_w]
                                   rfl
                                  refine pure_ (i := 11) (N := some 194) (v := ?_) (a' := ?_) #[true, true, true, true, true, true, true, true, false, true, true, true, false, false, false, false, false, false, false, false, false, false, false, false, false, false, false, false, false, false, false, false, false, false, false, false, false, false, false, false, false, false, false, false, false, false, false, false, false, false, false, false, false, false, false] rfl rfl (any_of HT_.out (by kernel_rfl)) (fun _ _ _ h => h) (Or.inl ⟨by rfl, ?_⟩) ?_ ?_
                                  rotate_left
                                  ·
                                   intro w'
                                   go_simp
                                   with_reducible rfl
                                  rotate_left
                                  ·
                                   simp only [Act.put, List.setIfInBounds_toArray, List.set_cons_zero, List.set_cons_succ, i64_w, i32_w]
                                   rfl
                                  refine take_ (i := 8) (N := some 191) (v := ?_) (a' := ?_) #[true, true, true, true, true, true, true, true, true, true, true, true, false, false, false, false, false, false, false, false, false, false, false, false, false, false, false, false, false, false, false, false, false, false, false, false, false, false, false, false, false, false, false, false, false, false, false, false, false, false, false, false, false, false, false] rfl rfl (take_ofW HT_.out HW_.out (by kernel_rfl)) (fun _ _ _ h => h) (Or.inl ⟨by rfl, ?_⟩) hHeld ?_ ?_
                                  rotate_left
                                  ·
                                   rintro w' ⟨s0, s1, s2, s3, s4, s5, s6, s7, s8, s9, s10, s11, s12, s13, s14, s15, s16⟩
                                   go_simp
                                   with_reducible rfl
                                  rotate_left
                                  ·
                                   simp only [Act.put, List.setIfInBounds_toArray, List.set_cons_zero, List.set_cons_succ, i64_w, i32_w]
                                   rfl
                                  refine take_ (i := 12) (N := some 195) (v := ?_) (a' := ?_) #[true, true, true, true, true, true, true, true, true, true, true, true, true, false, false, false, false, false, false, false, false, false, false, false, false, false, false, false, false, false, false, false, false, false, false, false, false, false, false, false, false, false, false, false, false, false, false, false, false, false, false, false, false, false, false] rfl rfl (take_ofW HT_.out HW_.out (by kernel_rfl)) (fun _ _ _ h => h) (Or.inl ⟨by rfl, ?_⟩) hHeld ?_ ?_
                                  rotate_left
                                  ·
                                   rintro w' ⟨s0, s1, s2, s3, s4, s5, s6, s7, s8, s9, s10, s11, s12, s13, s14, s15, s16⟩
                                   go_simp
                                   with_reducible rfl
                                  rotate_left
                                  ·
                                   simp only [Act.put, List.setIfInBounds_toArray, List.set_cons_zero, List.set_cons_succ, i64_w, i32_w]
                                   rfl
                                  refine pure_ (i := 13) (N := some 196) (v := ?_) (a' := ?_) #[true, true, true, true, true, true, true, true, true, true, true, true, true, true, false, false, false, false, false, false, false, false, false, false, false, false, false, false, false, false, false, false, false, false, false, false, false, false, false, false, false, false, false, false, false, false, false, false, false, false, false, false, false, false, false] rfl rfl (any_of HT_.out (by kernel_rfl)) (fun _ _ _ h => h) (Or.inl ⟨by rfl, ?_⟩) ?_ ?_
                                  rotate_left
                                  ·
                                   intro w'
                                   go_simp
                                   with_reducible rfl
                                  rotate_left
                                  ·
                                   simp only [Act.put, List.setIfInBounds_toArray, List.set_cons_zero, List.set_cons_succ, i64_w, i32_w]
                                   rfl
                                  refine pure_ (i := 14) (N := some 197) (v := ?_) (a' := ?_) #[true, true, true, true, true, true, true, true, true, true, true, true, true, true, true, false, false, false, false, false, false, false, false, false, false, false, false, false, false, false, false, false, false, false, false, false, false, false, false, false, false, false, false, false, false, false, false, false, false, false, false, false, false, false, false] rfl rfl (any_of HT_.out (by kernel_rfl)) (fun _ _ _ h => h) (Or.inl ⟨by rfl, ?_⟩) ?_ ?_
                                  rotate_left
                                  ·
                                   intro w'
                                   go_simp
                                   with_reducible rfl
                                  rotate_left
                                  ·
                                   simp only [Act.put, List.setIfInBounds_toArray, List.set_cons_zero, List.set_cons_succ, i64_w, i32_w]
                                   rfl
                                  refine pure_ (i := 15) (N := some 198) (v := ?_) (a' := ?_) #[true, true, true, true, true, true, true, true, true, true, true, true, true, true, true, true, false, false, false, false, false, false, false, false, false, false, false, false, false, false, false, false, false, false, false, false, false, false, false, false, false, false, false, false, false, false, false, false, false, false, false, false, false, false, false] rfl rfl (any_of HT_.out (by kernel_rfl)) (fun _ _ _ h => h) (Or.inl ⟨by rfl, ?_⟩) ?_ ?_
                                  rotate_left
                                  ·
                                   intro w'
                                   go_simp
                                   with_reducible rfl
                                  rotate_left
                                  ·
                                   simp only [Act.put, List.setIfInBounds_toArray, List.set_cons_zero, List.set_cons_succ, i64_w, i32_w]
                                   rfl
                                  refine pure_ (i := 16) (N := some 199) (v := ?_) (a' := ?_) #[true, true, true, true, true, true, true, true, true, true, true, true, true, true, true, true, true, false, false, false, false, false, false, false, false, false, false, false, false, false, false, false, false, false, false, false, false, false, false, false, false, false, false, false, false, false, false, false, false, false, false, false, false, false, false] rfl rfl (any_of HT_.out (by kernel_rfl)) (fun _ _ _ h => h) (Or.inl ⟨by rfl, ?_⟩) ?_ ?_
                                  rotate_left
                                  ·
                                   intro w'
                                   go_simp
                                   with_reducible rfl
                                  rotate_left
                                  ·
                                   simp only [Act.put, List.setIfInBounds_toArray, List.set_cons_zero, List.set_cons_succ, i64_w, i32_w]
                                   rfl
                                  refine pure_ (i := 17) (N := some 200) (v := ?_) (a' := ?_) #[true, true, true, true, true, true, true, true, true, true, true, true, true, true, true, true, true, true, false, false, false, false, false, false, false, false, false, false, false, false, false, false, false, false, false, false, false, false, false, false, false, false, false, false, false, false, false, false, false, false, false, false, false, false, false] rfl rfl (any_of HT_.out (by kernel_rfl)) (fun _ _ _ h => h) (Or.inl ⟨by rfl, ?_⟩) ?_ ?_
                                  rotate_left
                                  ·
                                   intro w'
                                   go_simp
                                   with_reducible rfl
                                  rotate_left
                                  ·
                                   simp only [Act.put, List.setIfInBounds_toArray, List.set_cons_zero, List.set_cons_succ, i64_w, i32_w]
                                   rfl
                                  refine pure_ (i := 18) (N := some 201) (v := ?_) (a' := ?_) #[true, true, true, true, true, true, true, true, true, true, true, true, true, true, true, true, true, true, true, false, false, false, false, false, false, false, false, false, false, false, false, false, false, false, false, false, false, false, false, false, false, false, false, false, false, false, false, false, false, false, false, false, false, false, false] rfl rfl (any_of HT_.out (by kernel_rfl)) (fun _ _ _ h => h) (Or.inl ⟨by rfl, ?_⟩) ?_ ?_
                                  rotate_left
                                  ·
                                   intro w'
                                   go_simp
                                   with_reducible rfl
                                  rotate_left
                                  ·
                                   simp only [Act.put, List.setIfInBounds_toArray, List.set_cons_zero, List.set_cons_succ, i64_w, i32_w]
                                   rfl
                                  refine pure_ (i := 20) (N := some 203) (v := ?_) (a' := ?_) #[true, true, true, true, true, true, true, true, true, true, true, true, true, true, true, true, true, true, true, false, true, false, false, false, false, false, false, false, false, false, false, false, false, false, false, false, false, false, false, false, false, false, false, false, false, false, false, false, false, false, false, false, false, false, false] rfl rfl (any_of HT_.out (by kernel_rfl)) (fun _ _ _ h => h) (Or.inl ⟨by rfl, ?_⟩) ?_ ?_
                                  rotate_left
                                  ·
                                   intro w'
                                   go_simp
                                   with_reducible rfl
                                  rotate_left
                                  ·
                                   simp only [Act.put, List.setIfInBounds_toArray, List.set_cons_zero, List.set_cons_succ, i64_w, i32_w]
                                   rfl
                                  refine take_ (i := 19) (N := some 202) (v := ?_) (a' := ?_) #[true, true, true, true, true, true, true, true, true, true, true, true, true, true, true, true, true, true, true, true, true, false, false, false, false, false, false, false, false, false, false, false, false, false, false, false, false, false, false, false, false, false, false, false, false, false, false, false, false, false, false, false, false, false, false] rfl rfl (take_ofW HT_.out HW_.out (by kernel_rfl)) (fun _ _ _ h => h) (Or.inl ⟨by rfl, ?_⟩) hHeld ?_ ?_
                                  rotate_left
                                  ·
                                   rintro w' ⟨s0, s1, s2, s3, s4, s5, s6, s7, s8, s9, s10, s11, s12, s13, s14, s15, s16⟩
                                   go_simp
                                   with_reducible rfl
                                  rotate_left
                                  ·
                                   simp only [Act.put, List.setIfInBounds_toArray, List.set_cons_zero, List.set_cons_succ, i64_w, i32_w]
                                   rfl
                                  refine take_ (i := 21) (N := some 204) (v := ?_) (a' := ?_) #[true, true, true, true, true, true, true, true, true, true, true, true, true, true, true, true, true, true, true, true, true, true, false, false, false, false, false, false, false, false, false, false, false, false, false, false, false, false, false, false, false, false, false, false, false, false, false, false, false, false, false, false, false, false, false] rfl rfl (take_ofW HT_.out HW_.out (by kernel_rfl)) (fun _ _ _ h => h) (Or.inl ⟨by rfl, ?_⟩) hHeld ?_ ?_
                                  rotate_left
                                  ·
                                   rintro w' ⟨s0, s1, s2, s3, s4, s5, s6, s7, s8, s9, s10, s11, s12, s13, s14, s15, s16⟩
                                   go_simp
                                   with_reducible rfl
                                  rotate_left
                                  ·
                                   simp only [Act.put, List.setIfInBounds_toArray, List.set_cons_zero, List.set_cons_succ, i64_w, i32_w]
                                   rfl
                                  refine pure_ (i := 22) (N := some 205) (v := ?_) (a' := ?_) #[true, true, true, true, true, true, true, true, true, true, true, true, true, true, true, true, true, true, true, true, true, true, true, false, false, false, false, false, false, false, false, false, false, false, false, false, false, false, false, false, false, false, false, false, false, false, false, false, false, false, false, false, false, false, false] rfl rfl (any_of HT_.out (by kernel_rfl)) (fun _ _ _ h => h) (Or.inl ⟨by rfl, ?_⟩) ?_ ?_
                                  rotate_left
                                  ·
                                   intro w'
                                   go_simp
                                   with_reducible rfl
                                  rotate_left
                                  ·
                                   simp only [Act.put, List.setIfInBounds_toArray, List.set_cons_zero, List.set_cons_succ, i64_w, i32_w]
                                   rfl
                                  refine pure_ (i := 23) (N := some 206) (v := ?_) (a' := ?_) #[true, true, true, true, true, true, true, true, true, true, true, true, true, true, true, true, true, true, true, true, true, true, true, true, false, false, false, false, false, false, false, false, false, false, false, false, false, false, false, false, false, false, false, false, false, false, false, false, false, false, false, false, false, false, false] rfl rfl (any_of HT_.out (by kernel_rfl)) (fun _ _ _ h => h) (Or.inl ⟨by rfl, ?_⟩) ?_ ?_
                                  rotate_left
                                  ·
                                   intro w'
                                   go_simp
                                   with_reducible rfl
                                  rotate_left
                                  ·
                                   simp only [Act.put, List.setIfInBounds_toArray, List.set_cons_zero, List.set_cons_succ, i64_w, i32_w]
                                   rfl
                                  refine pure_ (i := 24) (N := some 207) (v := ?_) (a' := ?_) #[true, true, true, true, true, true, true, true, true, true, true, true, true, true, true, true, true, true, true, true, true, true, true, true, true, false, false, false, false, false, false, false, false, false, false, false, false, false, false, false, false, false, false, false, false, false, false, false, false, false, false, false, false, false, false] rfl rfl (any_of HT_.out (by kernel_rfl)) (fun _ _ _ h => h) (Or.inl ⟨by rfl, ?_⟩) ?_ ?_
                                  rotate_left
                                  ·
                                   intro w'
                                   go_simp
                                   with_reducible rfl
                                  rotate_left
                                  ·
                                   simp only [Act.put, List.setIfInBounds_toArray, List.set_cons_zero, List.set_cons_succ, i64_w, i32_w]
                                   rfl
                                  refine pure_ (i := 25) (N := some 208) (v := ?_) (a' := ?_) #[true, true, true, true, true, true, true, true, true, true, true, true, true, true, true, true, true, true, true, true, true, true, true, true, true, true, false, false, false, false, false, false, false, false, false, false, false, false, false, false, false, false, false, false, false, false, false, false, false, false, false, false, false, false, false] rfl rfl (any_of HT_.out (by kernel_rfl)) (fun _ _ _ h => h) (Or.inl ⟨by rfl, ?_⟩) ?_ ?_
                                  rotate_left
                                  ·
                                   intro w'
                                   go_simp
                                   with_reducible rfl
                                  rotate_left
                                  ·
                                   simp only [Act.put, List.setIfInBounds_toArray, List.set_cons_zero, List.set_cons_succ, i64_w, i32_w]
                                   rfl
                                  refine pure_ (i := 26) (N := some 209) (v := ?_) (a' := ?_) #[true, true, true, true, true, true, true, true, true, true, true, true, true, true, true, true, true, true, true, true, true, true, true, true, true, true, true, false, false, false, false, false, false, false, false, false, false, false, false, false, false, false, false, false, false, false, false, false, false, false, false, false, false, false, false] rfl rfl (any_of HT_.out (by kernel_rfl)) (fun _ _ _ h => h) (Or.inl ⟨by rfl, ?_⟩) ?_ ?_
                                  rotate_left
                                  ·
                                   intro w'
                                   go_simp
                                   with_reducible rfl
                                  rotate_left
                                  ·
                                   simp only [Act.put, List.setIfInBounds_toArray, List.set_cons_zero, List.set_cons_succ, i64_w, i32_w]
                                   rfl
                                  refine pure_ (i := 27) (N := some 210) (v := ?_) (a' := ?_) #[true, true, true, true, true, true, true, true, true, true, true, true, true, true, true, true, true, true, true, true, true, true, true, true, true, true, true, true, false, false, false, false, false, false, false, false, false, false, false, false, false, false, false, false, false, false, false, false, false, false, false, false, false, false, false] rfl rfl (any_of HT_.out (by kernel_rfl)) (fun _ _ _ h => h) (Or.inl ⟨by rfl, ?_⟩) ?_ ?_
                                  rotate_left
                                  ·
                                   intro w'
                                   go_simp
                                   with_reducible rfl
                                  rotate_left
                                  ·
                                   simp only [Act.put, List.setIfInBounds_toArray, List.set_cons_zero, List.set_cons_succ, i64_w, i32_w]
                                   rfl
                                  refine pure_ (i := 29) (N := some 212) (v := ?_) (a' := ?_) #[true, true, true, true, true, true, true, true, true, true, true, true, true, true, true, true, true, true, true, true, true, true, true, true, true, true, true, true, false, true, false, false, false, false, false, false, false, false, false, false, false, false, false, false, false, false, false, false, false, false, false, false, false, false, false] rfl rfl (any_of HT_.out (by kernel_rfl)) (fun _ _ _ h => h) (Or.inl ⟨by rfl, ?_⟩) ?_ ?_
                                  rotate_left
                                  ·
                                   intro w'
                                   go_simp
                                   with_reducible rfl
                                  rotate_left
                                  ·
                                   simp only [Act.put, List.setIfInBounds_toArray, List.set_cons_zero, List.set_cons_succ, i64_w, i32_w]
                                   rfl
                                  refine take_ (i := 28) (N := some 211) (v := ?_) (a' := ?_) #[true, true, true, true, true, true, true, true, true, true, true, true, true, true, true, true, true, true, true, true, true, true, true, true, true, true, true, true, true, true, false, false, false, false, false, false, false, false, false, false, false, false, false, false, false, false, false, false, false, false, false, false, false, false, false] rfl rfl (take_ofW HT_.out HW_.out (by kernel_rfl)) (fun _ _ _ h => h) (Or.inl ⟨by rfl, ?_⟩) hHeld ?_ ?_
                                  rotate_left
                                  ·
                                   rintro w' ⟨s0, s1, s2, s3, s4, s5, s6, s7, s8, s9, s10, s11, s12, s13, s14, s15, s16⟩
                                   go_simp
                                   with_reducible rfl
                                  rotate_left
                                  ·
                                   simp only [Act.put, List.setIfInBounds_toArray, List.set_cons_zero, List.set_cons_succ, i64_w, i32_w]
                                   rfl
                                  refine take_ (i := 30) (N := some 213) (v := ?_) (a' := ?_) #[true, true, true, true, true, true, true, true, true, true, true, true, true, true, true, true, true, true, true, true, true, true, true, true, true, true, true, true, true, true, true, false, false, false, false, false, false, false, false, false, false, false, false, false, false, false, false, false, false, false, false, false, false, false, false] rfl rfl (take_ofW HT_.out HW_.out (by kernel_rfl)) (fun _ _ _ h => h) (Or.inl ⟨by rfl, ?_⟩) hHeld ?_ ?_
                                  rotate_left
                                  ·
                                   rintro w' ⟨s0, s1, s2, s3, s4, s5, s6, s7, s8, s9, s10, s11, s12, s13, s14, s15, s16⟩
                                   go_simp
                                   with_reducible rfl
                                  rotate_left
                                  ·
                                   simp only [Act.put, List.setIfInBounds_toArray, List.set_cons_zero, List.set_cons_succ, i64_w, i32_w]
                                   rfl
                                  refine pure_ (i := 31) (N := some 214) (v := ?_) (a' := ?_) #[true, true, true, true, true, true, true, true, true, true, true, true, true, true, true, true, true, true, true, true, true, true, true, true, true, true, true, true, true, true, true, true, false, false, false, false, false, false, false, false, false, false, false, false, false, false, false, false, false, false, false, false, false, false, false] rfl rfl (any_of HT_.out (by kernel_rfl)) (fun _ _ _ h => h) (Or.inl ⟨by rfl, ?_⟩) ?_ ?_
                                  rotate_left
                                  ·
                                   intro w'
                                   go_simp
                                   with_reducible rfl
                                  rotate_left
                                  ·
                                   simp only [Act.put, List.setIfInBounds_toArray, List.set_cons_zero, List.set_cons_succ, i64_w, i32_w]
                                   rfl
                                  refine pure_ (i := 32) (N := some 215) (v := ?_) (a' := ?_) #[true, true, true, true, true, true, true, true, true, true, true, true, true, true, true, true, true, true, true, true, true, true, true, true, true, true, true, true, true, true, true, true, true, false, false, false, false, false, false, false, false, false, false, false, false, false, false, false, false, false, false, false, false, false, false] rfl rfl (any_of HT_.out (by kernel_rfl)) (fun _ _ _ h => h) (Or.inl ⟨by rfl, ?_⟩) ?_ ?_
                                  rotate_left
                                  ·
                                   intro w'
                                   go_simp
                                   with_reducible rfl
                                  rotate_left
                                  ·
                                   simp only [Act.put, List.setIfInBounds_toArray, List.set_cons_zero, List.set_cons_succ, i64_w, i32_w]
                                   rfl
                                  refine pure_ (i := 33) (N := some 216) (v := ?_) (a' := ?_) #[true, true, true, true, true, true, true, true, true, true, true, true, true, true, true, true, true, true, true, true, true, true, true, true, true, true, true, true, true, true, true, true, true, true, false, false, false, false, false, false, false, false, false, false, false, false, false, false, false, false, false, false, false, false, false] rfl rfl (any_of HT_.out (by kernel_rfl)) (fun _ _ _ h => h) (Or.inl ⟨by rfl, ?_⟩) ?_ ?_
                                  rotate_left
                                  ·
                                   intro w'
                                   go_simp
                                   with_reducible rfl
                                  rotate_left
                                  ·
                                   simp only [Act.put, List.setIfInBounds_toArray, List.set_cons_zero, List.set_cons_succ, i64_w, i32_w]
                                   rfl
                                  refine pure_ (i := 34) (N := some 217) (v := ?_) (a' := ?_) #[true, true, true, true, true, true, true, true, true, true, true, true, true, true, true, true, true, true, true, true, true, true, true, true, true, true, true, true, true, true, true, true, true, true, true, false, false, false, false, false, false, false, false, false, false, false, false, false, false, false, false, false, false, false, false] rfl rfl (any_of HT_.out (by kernel_rfl)) (fun _ _ _ h => h) (Or.inl ⟨by rfl, ?_⟩) ?_ ?_
                                  rotate_left
                                  ·
                                   intro w'
                                   go_simp
                                   with_reducible rfl
                                  rotate_left
                                  ·
                                   simp only [Act.put, List.setIfInBounds_toArray, List.set_cons_zero, List.set_cons_succ, i64_w, i32_w]
                                   rfl
                                  refine pure_ (i := 35) (N := some 218) (v := ?_) (a' := ?_) #[true, true, true, true, true, true, true, true, true, true, true, true, true, true, true, true, true, true, true, true, true, true, true, true, true, true, true, true, true, true, true, true, true, true, true, true, false, false, false, false, false, false, false, false, false, false, false, false, false, false, false, false, false, false, false] rfl rfl (any_of HT_.out (by kernel_rfl)) (fun _ _ _ h => h) (Or.inl ⟨by rfl, ?_⟩) ?_ ?_
                                  rotate_left
                                  ·
                                   intro w'
                                   go_simp
                                   with_reducible rfl
                                  rotate_left
                                  ·
                                   simp only [Act.put, List.setIfInBounds_toArray, List.set_cons_zero, List.set_cons_succ, i64_w, i32_w]
                                   rfl
                                  refine pure_ (i := 36) (N := some 219) (v := ?_) (a' := ?_) #[true, true, true, true, true, true, true, true, true, true, true, true, true, true, true, true, true, true, true, true, true, true, true, true, true, true, true, true, true, true, true, true, true, true, true, true, true, false, false, false, false, false, false, false, false, false, false, false, false, false, false, false, false, false, false] rfl rfl (any_of HT_.out (by kernel_rfl)) (fun _ _ _ h => h) (Or.inl ⟨by rfl, ?_⟩) ?_ ?_
                                  rotate_left
                                  ·
                                   intro w'
                                   go_simp
                                   with_reducible rfl
                                  rotate_left
                                  ·
                                   simp only [Act.put, List.setIfInBounds_toArray, List.set_cons_zero, List.set_cons_succ, i64_w, i32_w]
                                   rfl
                                  refine pure_ (i := 37) (N := some 220) (v := ?_) (a' := ?_) #[true, true, true, true, true, true, true, true, true, true, true, true, true, true, true, true, true, true, true, true, true, true, true, true, true, true, true, true, true, true, true, true, true, true, true, true, true, true, false, false, false, false, false, false, false, false, false, false, false, false, false, false, false, false, false] rfl rfl (any_of HT_.out (by kernel_rfl)) (fun _ _ _ h => h) (Or.inl ⟨by rfl, ?_⟩) ?_ ?_
                                  rotate_left
                                  ·
                                   intro w'
                                   go_simp
                                   with_reducible rfl
                                  rotate_left
                                  ·
                                   simp only [Act.put, List.setIfInBounds_toArray, List.set_cons_zero, List.set_cons_succ, i64_w, i32_w]
                                   rfl
                                  refine pure_ (i := 38) (N := some 221) (v := ?_) (a' := ?_) #[true, true, true, true, true, true, true, true, true, true, true, true, true, true, true, true, true, true, true, true, true, true, true, true, true, true, true, true, true, true, true, true, true, true, true, true, true, true, true, false, false, false, false, false, false, false, false, false, false, false, false, false, false, false, false] rfl rfl (any_of HT_.out (by kernel_rfl)) (fun _ _ _ h => h) (Or.inl ⟨by rfl, ?_⟩) ?_ ?_
                                  rotate_left
                                  ·
                                   intro w'
                                   go_simp
                                   with_reducible rfl
                                  rotate_left
                                  ·
                                   simp only [Act.put, List.setIfInBounds_toArray, List.set_cons_zero, List.set_cons_succ, i64_w, i32_w]
                                   rfl
                                  refine pure_ (i := 40) (N := some 223) (v := ?_) (a' := ?_) #[true, true, true, true, true, true, true, true, true, true, true, true, true, true, true, true, true, true, true, true, true, true, true, true, true, true, true, true, true, true, true, true, true, true, true, true, true, true, true, false, true, false, false, false, false, false, false, false, false, false, false, false, false, false, false] rfl rfl (any_of HT_.out (by kernel_rfl)) (fun _ _ _ h => h) (Or.inl ⟨by rfl, ?_⟩) ?_ ?_
                                  rotate_left
                                  ·
                                   intro w'
                                   go_simp
                                   with_reducible rfl
                                  rotate_left
                                  ·
                                   simp only [Act.put, List.setIfInBounds_toArray, List.set_cons_zero, List.set_cons_succ, i64_w, i32_w]
                                   rfl
                                  refine take_ (i := 39) (N := some 222) (v := ?_) (a' := ?_) #[true, true, true, true, true, true, true, true, true, true, true, true, true, true, true, true, true, true, true, true, true, true, true, true, true, true, true, true, true, true, true, true, true, true, true, true, true, true, true, true, true, false, false, false, false, false, false, false, false, false, false, false, false, false, false] rfl rfl (take_ofW HT_.out HW_.out (by kernel_rfl)) (fun _ _ _ h => h) (Or.inl ⟨by rfl, ?_⟩) hHeld ?_ ?_
                                  rotate_left
                                  ·
                                   rintro w' ⟨s0, s1, s2, s3, s4, s5, s6, s7, s8, s9, s10, s11, s12, s13, s14, s15, s16⟩
                                   go_simp
                                   with_reducible rfl
                                  rotate_left
                                  ·
                                   simp only [Act.put, List.setIfInBounds_toArray, List.set_cons_zero, List.set_cons_succ, i64_w, i32_w]
                                   rfl
                                  refine take_ (i := 41) (N := some 224) (v := ?_) (a' := ?_) #[true, true, true, true, true, true, true, true, true, true, true, true, true, true, true, true, true, true, true, true, true, true, true, true, true, true, true, true, true, true, true, true, true, true, true, true, true, true, true, true, true, true, false, false, false, false, false, false, false, false, false, false, false, false, false] rfl rfl (take_ofW HT_.out HW_.out (by kernel_rfl)) (fun _ _ _ h => h) (Or.inl ⟨by rfl, ?_⟩) hHeld ?_ ?_
                                  rotate_left
                                  ·
                                   rintro w' ⟨s0, s1, s2, s3, s4, s5, s6, s7, s8, s9, s10, s11, s12, s13, s14, s15, s16⟩
                                   go_simp
                                   with_reducible rfl
                                  rotate_left
                                  ·
                                   simp only [Act.put, List.setIfInBounds_toArray, List.set_cons_zero, List.set_cons_succ, i64_w, i32_w]
                                   rfl
                                  refine pure_ (i := 42) (N := some 225) (v := ?_) (a' := ?_) #[true, true, true, true, true, true, true, true, true, true, true, true, true, true, true, true, true, true, true, true, true, true, true, true, true, true, true, true, true, true, true, true, true, true, true, true, true, true, true, true, true, true, true, false, false, false, false, false, false, false, false, false, false, false, false] rfl rfl (any_of HT_.out (by kernel_rfl)) (fun _ _ _ h => h) (Or.inl ⟨by rfl, ?_⟩) ?_ ?_
                                  rotate_left
                                  ·
                                   intro w'
                                   go_simp
                                   with_reducible rfl
                                  rotate_left
                                  ·
                                   simp only [Act.put, List.setIfInBounds_toArray, List.set_cons_zero, List.set_cons_succ, i64_w, i32_w]
                                   rfl
                                  refine pure_ (i := 43) (N := some 226) (v := ?_) (a' := ?_) #[true, true, true, true, true, true, true, true, true, true, true, true, true, true, true, true, true, true, true, true, true, true, true, true, true, true, true, true, true, true, true, true, true, true, true, true, true, true, true, true, true, true, true, true, false, false, false, false, false, false, false, false, false, false, false] rfl rfl (any_of HT_.out (by kernel_rfl)) (fun _ _ _ h => h) (Or.inl ⟨by rfl, ?_⟩) ?_ ?_
                                  rotate_left
                                  ·
                                   intro w'
                                   go_simp
                                   with_reducible rfl
                                  rotate_left
                                  ·
                                   simp only [Act.put, List.setIfInBounds_toArray, List.set_cons_zero, List.set_cons_succ, i64_w, i32_w]
                                   rfl
                                  refine pure_ (i := 44) (N := some 227) (v := ?_) (a' := ?_) #[true, true, true, true, true, true, true, true, true, true, true, true, true, true, true, true, true, true, true, true, true, true, true, true, true, true, true, true, true, true, true, true, true, true, true, true, true, true, true, true, true, true, true, true, true, false, false, false, false, false, false, false, false, false, false] rfl rfl (any_of HT_.out (by kernel_rfl)) (fun _ _ _ h => h) (Or.inl ⟨by rfl, ?_⟩) ?_ ?_
                                  rotate_left
                                  ·
                                   intro w'
                                   go_simp
                                   with_reducible rfl
                                  rotate_left
                                  ·
                                   simp only [Act.put, List.setIfInBounds_toArray, List.set_cons_zero, List.set_cons_succ, i64_w, i32_w]
                                   rfl
                                  refine pure_ (i := 45) (N := some 228) (v := ?_) (a' := ?_) #[true, true, true, true, true, true, true, true, true, true, true, true, true, true, true, true, true, true, true, true, true, true, true, true, true, true, true, true, true, true, true, true, true, true, true, true, true, true, true, true, true, true, true, true, true, true, false, false, false, false, false, false, false, false, false] rfl rfl (any_of HT_.out (by kernel_rfl)) (fun _ _ _ h => h) (Or.inl ⟨by rfl, ?_⟩) ?_ ?_
                                  rotate_left
                                  ·
                                   intro w'
                                   go_simp
                                   with_reducible rfl
                                  rotate_left
                                  ·
                                   simp only [Act.put, List.setIfInBounds_toArray, List.set_cons_zero, List.set_cons_succ, i64_w, i32_w]
                                   rfl
                                  refine pure_ (i := 46) (N := some 229) (v := ?_) (a' := ?_) #[true, true, true, true, true, true, true, true, true, true, true, true, true, true, true, true, true, true, true, true, true, true, true, true, true, true, true, true, true, true, true, true, true, true, true, true, true, true, true, true, true, true, true, true, true, true, true, false, false, false, false, false, false, false, false] rfl rfl (any_of HT_.out (by kernel_rfl)) (fun _ _ _ h => h) (Or.inl ⟨by rfl, ?_⟩) ?_ ?_
                                  rotate_left
                                  ·
                                   intro w'
                                   go_simp
                                   with_reducible rfl
                                  rotate_left
                                  ·
                                   simp only [Act.put, List.setIfInBounds_toArray, List.set_cons_zero, List.set_cons_succ, i64_w, i32_w]
                                   rfl
                                  refine pure_ (i := 47) (N := some 230) (v := ?_) (a' := ?_) #[true, true, true, true, true, true, true, true, true, true, true, true, true, true, true, true, true, true, true, true, true, true, true, true, true, true, true, true, true, true, true, true, true, true, true, true, true, true, true, true, true, true, true, true, true, true, true, true, false, false, false, false, false, false, false] rfl rfl (any_of HT_.out (by kernel_rfl)) (fun _ _ _ h => h) (Or.inl ⟨by rfl, ?_⟩) ?_ ?_
                                  rotate_left
                                  ·
                                   intro w'
                                   go_simp
                                   with_reducible rfl
                                  rotate_left
                                  ·
                                   simp only [Act.put, List.setIfInBounds_toArray, List.set_cons_zero, List.set_cons_succ, i64_w, i32_w]
                                   rfl
                                  refine pure_ (i := 48) (N := some 231) (v := ?_) (a' := ?_) #[true, true, true, true, true, true, true, true, true, true, true, true, true, true, true, true, true, true, true, true, true, true, true, true, true, true, true, true, true, true, true, true, true, true, true, true, true, true, true, true, true, true, true, true, true, true, true, true, true, false, false, false, false, false, false] rfl rfl (any_of HT_.out (by kernel_rfl)) (fun _ _ _ h => h) (Or.inl ⟨by rfl, ?_⟩) ?_ ?_
                                  rotate_left
                                  ·
                                   intro w'
                                   go_simp
                                   with_reducible rfl
                                  rotate_left
                                  ·
                                   simp only [Act.put, List.setIfInBounds_toArray, List.set_cons_zero, List.set_cons_succ, i64_w, i32_w]
                                   rfl
                                  refine pure_ (i := 50) (N := some 233) (v := ?_) (a' := ?_) #[true, true, true, true, true, true, true, true, true, true, true, true, true, true, true, true, true, true, true, true, true, true, true, true, true, true, true, true, true, true, true, true, true, true, true, true, true, true, true, true, true, true, true, true, true, true, true, true, true, false, true, false, false, false, false] rfl rfl (any_of HT_.out (by kernel_rfl)) (fun _ _ _ h => h) (Or.inl ⟨by rfl, ?_⟩) ?_ ?_
                                  rotate_left
                                  ·
                                   intro w'
                                   go_simp
                                   with_reducible rfl
                                  rotate_left
                                  ·
                                   simp only [Act.put, List.setIfInBounds_toArray, List.set_cons_zero, List.set_cons_succ, i64_w, i32_w]
                                   rfl
                                  refine take_ (i := 49) (N := some 232) (v := ?_) (a' := ?_) #[true, true, true, true, true, true, true, true, true, true, true, true, true, true, true, true, true, true, true, true, true, true, true, true, true, true, true, true, true, true, true, true, true, true, true, true, true, true, true, true, true, true, true, true, true, true, true, true, true, true, true, false, false, false, false] rfl rfl (take_ofW HT_.out HW_.out (by kernel_rfl)) (fun _ _ _ h => h) (Or.inl ⟨by rfl, ?_⟩) hHeld ?_ ?_
                                  rotate_left
                                  ·
                                   rintro w' ⟨s0, s1, s2, s3, s4, s5, s6, s7, s8, s9, s10, s11, s12, s13, s14, s15, s16⟩
                                   go_simp
                                   with_reducible rfl
                                  rotate_left
                                  ·
                                   simp only [Act.put, List.setIfInBounds_toArray, List.set_cons_zero, List.set_cons_succ, i64_w, i32_w]
                                   rfl
                                  refine take_ (i := 51) (N := some 234) (v := ?_) (a' := ?_) #[true, true, true, true, true, true, true, true, true, true, true, true, true, true, true, true, true, true, true, true, true, true, true, true, true, true, true, true, true, true, true, true, true, true, true, true, true, true, true, true, true, true, true, true, true, true, true, true, true, true, true, true, false, false, false] rfl rfl (take_ofW HT_.out HW_.out (by kernel_rfl)) (fun _ _ _ h => h) (Or.inl ⟨by rfl, ?_⟩) hHeld ?_ ?_
                                  rotate_left
                                  ·
                                   rintro w' ⟨s0, s1, s2, s3, s4, s5, s6, s7, s8, s9, s10, s11, s12, s13, s14, s15, s16⟩
                                   go_simp
                                   with_reducible rfl
                                  rotate_left
                                  ·
                                   simp only [Act.put, List.setIfInBounds_toArray, List.set_cons_zero, List.set_cons_succ, i64_w, i32_w]
                                   rfl
                                  refine pure_ (i := 52) (N := some 235) (v := ?_) (a' := ?_) #[true, true, true, true, true, true, true, true, true, true, true, true, true, true, true, true, true, true, true, true, true, true, true, true, true, true, true, true, true, true, true, true, true, true, true, true, true, true, true, true, true, true, true, true, true, true, true, true, true, true, true, true, true, false, false] rfl rfl (any_of HT_.out (by kernel_rfl)) (fun _ _ _ h => h) (Or.inl ⟨by rfl, ?_⟩) ?_ ?_
                                  rotate_left
                                  ·
                                   intro w'
                                   go_simp
                                   with_reducible rfl
                                  rotate_left
                                  ·
                                   simp only [Act.put, List.setIfInBounds_toArray, List.set_cons_zero, List.set_cons_succ, i64_w, i32_w]
                                   rfl
                                  refine pure_ (i := 53) (N := some 236) (v := ?_) (a' := ?_) #[true, true, true, true, true, true, true, true, true, true, true, true, true, true, true, true, true, true, true, true, true, true, true, true, true, true, true, true, true, true, true, true, true, true, true, true, true, true, true, true, true, true, true, true, true, true, true, true, true, true, true, true, true, true, false] rfl rfl (any_of HT_.out (by kernel_rfl)) (fun _ _ _ h => h) (Or.inl ⟨by rfl, ?_⟩) ?_ ?_
                                  rotate_left
                                  ·
                                   intro w'
                                   go_simp
                                   with_reducible rfl
                                  rotate_left
                                  ·
                                   simp only [Act.put, List.setIfInBounds_toArray, List.set_cons_zero, List.set_cons_succ, i64_w, i32_w]
                                   rfl
                                  refine pure_ (i := 54) (N := some 237) (v := ?_) (a' := ?_) #[true, true, true, true, true, true, true, true, true, true, true, true, true, true, true, true, true, true, true, true, true, true, true, true, true, true, true, true, true, true, true, true, true, true, true, true, true, true, true, true, true, true, true, true, true, true, true, true, true, true, true, true, true, true, true] rfl rfl (any_of HT_.out (by kernel_rfl)) (fun _ _ _ h => h) (Or.inl ⟨by rfl, ?_⟩) ?_ ?_
                                  rotate_left
                                  ·
                                   intro w'
                                   go_simp
                                   with_reducible rfl
                                  rotate_left
                                  ·
                                   simp only [Act.put, List.setIfInBounds_toArray, List.set_cons_zero, List.set_cons_succ, i64_w, i32_w]
                                   rfl
                                  refine done_ (done_of HT_.out (by kernel_rfl)) ?_
                                  try go_wp2
                                  go_roundg k6
                                  case measure => have := HJ6.out; have := HJ13.out; have := HJ27.out; have := HJ68.out; have := HK5.out; have := HK6.out; omega
                                  case rel => exact ⟨(wrap64 (x26_6 + 1)), (by first | rfl | (simp; done) | (simp [*]; done)), H', ⟨by have := HJ6.out; have := HJ13.out; have := HJ27.out; have := HJ68.out; have := HK5.out; have := HK6.out; omega⟩, ⟨by (with_reducible repeat (first | apply Kd.R_alloc | apply Kd.R_drewN | apply Kd.R_drew)); exact HO_19.out⟩, ⟨by (with_reducible repeat (first | apply Kd.R_alloc | apply Kd.R_drewN | apply Kd.R_drew)); exact HO_22.out⟩, ⟨by (with_reducible repeat (first | apply Kd.R_alloc | apply Kd.R_drewN | apply Kd.R_drew)); exact HO_25.out⟩, ⟨by (with_reducible repeat (first | refine blk_drewN ?_ _ | refine blk_drew ?_ | refine blk_alloc ?_ _)); exact BK266.out⟩, ⟨by (with_reducible repeat (first | refine blk_drewN ?_ _ | refine blk_drew ?_ | refine blk_alloc ?_ _)); exact BK278.out⟩, ⟨by (with_reducible repeat (first | refine blk_drewN ?_ _ | refine blk_drew ?_ | refine blk_alloc ?_ _)); exact BK285.out⟩, ⟨by (with_reducible repeat (first | refine blk_drewN ?_ _ | refine blk_drew ?_ | refine blk_alloc ?_ _)); exact BK287.out⟩, ⟨by repeat (first | (with_reducible first | exact HB.out | apply below_alloc | apply pw_below_drewN | apply below_drew1 | refine below_set ?_ GE266.out | refine below_set ?_ GE278.out | refine below_set ?_ GE285.out | refine below_set ?_ GE287.out) | exact HB.out)⟩⟩
                            ·
                             rw [if_neg c122] at H
                             exact absurd H (by simp)
                           ·
                            rw [if_neg c121] at H
                            exact absurd H (by simp)
                          ·
                           rw [if_neg c120] at H
                           exact absurd H (by simp)
                        ·
                         rw [if_neg c118] at H
                         have c118b0 : decide (x26_6 < (x22_5.length : Int)) = false := decide_eq_false c118
                         clear c118
                         by_cases c130 : x13_6 = true
                         ·
                          subst c130
                          have H1 : (some ((t295.length : Int) == (t279.length : Int))) = some r := by rw [if_pos rfl] at H; exact H
                          clear H
                          have H := H1
                          clear H1
                          obtain rfl := Option.some.inj H
                          obtain ⟨Ao131, co131, eo131⟩ := Kd.R_slice HO_25.out
                          subst eo131
                          go_wp2
                          go_ret
                          exact ⟨by first | rfl | (simp [errW_none, errW_some] <;> rfl) | (simp only [← hji23, ← hji66]; first | rfl | (simp [errW_none, errW_some] <;> rfl)) | (simp [*, errW_none, errW_some] <;> rfl), by repeat (first | (with_reducible first | exact HB.out | apply below_alloc | apply pw_below_drewN | apply below_drew1 | refine below_set ?_ GE266.out | refine below_set ?_ GE278.out | refine below_set ?_ GE285.out | refine below_set ?_ GE287.out) | exact HB.out)⟩
                         ·
                          replace c130 := Bool.eq_false_iff.mpr c130
                          subst c130
                          have H1 : (some false) = some r := by rw [if_neg (show ¬ (false = true) by decide)] at H; exact H
                          clear H
                          have H := H1
                          clear H1
                          exact absurd HT.out (by rw [← Option.some.inj H]; decide)
              ·
               rw [if_neg c68] at H
               exact absurd H (by simp)
             ·
              rw [if_neg c67] at H
              exact absurd H (by simp)
        ·
         rw [if_neg c25] at H
         exact absurd H (by simp)
       ·
        rw [if_neg c24] at H
        exact absurd H (by simp)

end Go.Proofs.Ythmddbffhbfmeaa.P
