-- Written by this session's own program, for this seat. Lean checks it.
import Derived.Test.YtmmaodlngnjmlaaP0
import Derived.Test.YtmmaodlngnjmlaaP1
import Derived.Test.YtmmaodlngnjmlaaP3
import Derived.Test.YtmmaodlngnjmlaaP4
import Derived.Test.YtmmaodlngnjmlaaP5
import Derived.Test.YtmmaodlngnjmlaaP8
namespace Go.Proofs.Ytmmaodlngnjmlaa.P
open Go.RowKit Go.Proofs.YtmmaodlngnjmlaaW.PrintWords Go.Proofs.YtmmaodlngnjmlaaW.PrintLast Go.Proofs.YtmmaodlngnjmlaaW.PrintMore
attribute [local go_sem] max2_int min2_int max_two min_two max_three min_three max_four min_four   -- for this text's walks alone
set_option linter.unusedVariables false
set_option linter.unusedSimpArgs false

attribute [local go_sem high] eqA33

/-! ### ambidextertop_TopSegments: function 13 -/
mutual
def ambidextertop_TopSegments.l0 : Nat → Bool → List (S67) → Int → Int → Int → Int → Option (Bool)
 | 0, _, _, _, _, _, _ => none
 | k + 1, x9, x11, x13, x309000, x309001, x309002 => if x13 < (x11.length : Int) then (if 0 ≤ x13 then ((timetable_PositionsAt.f 0 0 0 0 0 0 x11 ((rd_T67 x11 x13).f1)).bind fun bt314 => ((timetable_PositionsAt.f 0 0 0 0 0 0 x11 (wrap64 (((rd_T67 x11 x13).f1) + (((rd_T67 x11 x13).f2).length : Int)))).bind fun bt323 => (ambidextertop_TopSegments.l1 k x9 x11 x13 0 x309000 x309001 x309002 bt314.1 bt314.2.1 bt314.2.2.1 bt314.2.2.2.1 bt314.2.2.2.2.1 bt314.2.2.2.2.2 bt323.1 bt323.2.1 bt323.2.2.1 bt323.2.2.2.1 bt323.2.2.2.2.1 bt323.2.2.2.2.2))) else (none)) else (some x9)
def ambidextertop_TopSegments.l1 : Nat → Bool → List (S67) → Int → Int → Int → Int → Int → Int → Int → Int → Int → Int → Int → Int → Int → Int → Int → Int → Int → Option (Bool)
 | 0, _, _, _, _, _, _, _, _, _, _, _, _, _, _, _, _, _, _, _ => none
 | k + 1, x9, x11, x13, x16, x309000, x309001, x309002, x321000, x321001, x321002, x321003, x321004, x321005, x330000, x330001, x330002, x330003, x330004, x330005 => if x16 < 6 then (if 0 ≤ (wrap64 (Int.tdiv x16 3)) then (if (wrap64 (Int.tdiv x16 3)) < 2 then (if 0 ≤ (Int.tmod x16 3) then (if (Int.tmod x16 3) < 3 then (if (Int.tmod (dget [x321000, x321001, x321002, x321003, x321004, x321005] ((wrap64 (Int.tdiv x16 3)) * 3 + (Int.tmod x16 3))) 12) = 0 then (if (Int.tmod (dget [x330000, x330001, x330002, x330003, x330004, x330005] ((wrap64 (Int.tdiv x16 3)) * 3 + (Int.tmod x16 3))) 12) = 0 then (ambidextertop_TopSegments.l1 k x9 x11 x13 (wrap64 (x16 + 1)) x309000 x309001 x309002 x321000 x321001 x321002 x321003 x321004 x321005 x330000 x330001 x330002 x330003 x330004 x330005) else (some false)) else (some false)) else (none)) else (none)) else (none)) else (none)) else (if 0 ≤ x13 then (if x13 < (x11.length : Int) then ((profile_Final.f 0 0 0 ((rd_T67 x11 x13).f2)).bind fun bt331 => ((ambidexterref21_End.f k 0 0 0 ((rd_T67 x11 x13).f2)).bind fun bt335 => (if (!(bt331.1 == bt335.1) || (!(bt331.2.1 == bt335.2.1) || (!(bt331.2.2 == bt335.2.2)))) = true then (some false) else ((ambidexterref21_End.f k 0 0 0 ((rd_T67 x11 x13).f2)).bind fun bt339 => (if (!(bt339.1 == (wrap64 (12 * ((rd_T67 x11 x13).f0.f1)))) || (!(bt339.2.1 == 0) || (!(bt339.2.2 == 0)))) = true then (some false) else ((profile_Within.f x309000 x309001 x309002 0 0 0 ((rd_T67 x11 x13).f2)).bind fun t344 => (if t344 = true then (ambidextertop_TopSegments.l0 k x9 x11 (wrap64 (x13 + 1)) x309000 x309001 x309002) else (some false)))))))) else (none)) else (none))
end
def ambidextertop_TopSegments.f (k : Nat) (a0 : Int) (a1 : Int) (a2 : Int) (l3 : List (S63)) : Option (Bool) := (ambidextertop_head23.f k).bind fun t304 => ((ambidextertop_limR14.f a0 a1 a2).bind fun bt305 => (if (l3.length : Int) > 30 then (some t304) else ((timetable_Sequential.f k bt305.1 bt305.2.1 bt305.2.2 l3).bind fun bt309 => (if bt309.2 = 0 then (ambidextertop_TopSegments.l0 k t304 bt309.1 0 bt305.1 bt305.2.1 bt305.2.2) else (some t304)))))
theorem ambidextertop_TopSegments.mono_l : ∀ k, (∀ y0 y1 y2 y3 y4 y5, LeO (ambidextertop_TopSegments.l0 k y0 y1 y2 y3 y4 y5) (ambidextertop_TopSegments.l0 (k + 1) y0 y1 y2 y3 y4 y5)) ∧ (∀ y0 y1 y2 y3 y4 y5 y6 y7 y8 y9 y10 y11 y12 y13 y14 y15 y16 y17 y18, LeO (ambidextertop_TopSegments.l1 k y0 y1 y2 y3 y4 y5 y6 y7 y8 y9 y10 y11 y12 y13 y14 y15 y16 y17 y18) (ambidextertop_TopSegments.l1 (k + 1) y0 y1 y2 y3 y4 y5 y6 y7 y8 y9 y10 y11 y12 y13 y14 y15 y16 y17 y18))
 | 0 => ⟨fun _ _ _ _ _ _ r h => by simp [ambidextertop_TopSegments.l0] at h, fun _ _ _ _ _ _ _ _ _ _ _ _ _ _ _ _ _ _ _ r h => by simp [ambidextertop_TopSegments.l1] at h⟩
 | k + 1 => by
  obtain ⟨ih0, ih1⟩ := ambidextertop_TopSegments.mono_l k
  refine ⟨?_, ?_⟩
  ·
   intro y0 y1 y2 y3 y4 y5
   unfold ambidextertop_TopSegments.l0
   repeat' first
   | (with_reducible exact ih0 _ _ _ _ _ _)
   | (with_reducible exact ih1 _ _ _ _ _ _ _ _ _ _ _ _ _ _ _ _ _ _ _)
   | (with_reducible exact ambidexterref21_End.mono _ _ _ _ _)
   | (with_reducible exact ambidextertop_head23.mono _)
   | (with_reducible exact timetable_Sequential.mono _ _ _ _ _)
   | (with_reducible exact LeO.refl _)
   | (with_reducible exact LeO.none _)
   | (with_reducible refine LeO.ite ?_ ?_)
   | (with_reducible refine LeO.bind ?_ (fun _ => ?_))
   | exact ih0 _ _ _ _ _ _
   | exact ih1 _ _ _ _ _ _ _ _ _ _ _ _ _ _ _ _ _ _ _
   | exact ambidexterref21_End.mono _ _ _ _ _
   | exact ambidextertop_head23.mono _
   | exact timetable_Sequential.mono _ _ _ _ _
   | exact LeO.none _
   | refine LeO.ite ?_ ?_
   | refine LeO.bind ?_ (fun _ => ?_)
  ·
   intro y0 y1 y2 y3 y4 y5 y6 y7 y8 y9 y10 y11 y12 y13 y14 y15 y16 y17 y18
   unfold ambidextertop_TopSegments.l1
   repeat' first
   | (with_reducible exact ih0 _ _ _ _ _ _)
   | (with_reducible exact ih1 _ _ _ _ _ _ _ _ _ _ _ _ _ _ _ _ _ _ _)
   | (with_reducible exact ambidexterref21_End.mono _ _ _ _ _)
   | (with_reducible exact ambidextertop_head23.mono _)
   | (with_reducible exact timetable_Sequential.mono _ _ _ _ _)
   | (with_reducible exact LeO.refl _)
   | (with_reducible exact LeO.none _)
   | (with_reducible refine LeO.ite ?_ ?_)
   | (with_reducible refine LeO.bind ?_ (fun _ => ?_))
   | exact ih0 _ _ _ _ _ _
   | exact ih1 _ _ _ _ _ _ _ _ _ _ _ _ _ _ _ _ _ _ _
   | exact ambidexterref21_End.mono _ _ _ _ _
   | exact ambidextertop_head23.mono _
   | exact timetable_Sequential.mono _ _ _ _ _
   | exact LeO.none _
   | refine LeO.ite ?_ ?_
   | refine LeO.bind ?_ (fun _ => ?_)
theorem ambidextertop_TopSegments.mono : ∀ a0 a1 a2 a3 k, LeO (ambidextertop_TopSegments.f k a0 a1 a2 a3) (ambidextertop_TopSegments.f (k + 1) a0 a1 a2 a3) := by
 intro a0 a1 a2 a3 k
 obtain ⟨ih0, ih1⟩ := ambidextertop_TopSegments.mono_l k
 unfold ambidextertop_TopSegments.f
 repeat' first
   | (with_reducible exact ih0 _ _ _ _ _ _)
   | (with_reducible exact ih1 _ _ _ _ _ _ _ _ _ _ _ _ _ _ _ _ _ _ _)
   | (with_reducible exact ambidexterref21_End.mono _ _ _ _ _)
   | (with_reducible exact ambidextertop_head23.mono _)
   | (with_reducible exact timetable_Sequential.mono _ _ _ _ _)
   | (with_reducible exact LeO.refl _)
   | (with_reducible exact LeO.none _)
   | (with_reducible refine LeO.ite ?_ ?_)
   | (with_reducible refine LeO.bind ?_ (fun _ => ?_))
   | exact ih0 _ _ _ _ _ _
   | exact ih1 _ _ _ _ _ _ _ _ _ _ _ _ _ _ _ _ _ _ _
   | exact ambidexterref21_End.mono _ _ _ _ _
   | exact ambidextertop_head23.mono _
   | exact timetable_Sequential.mono _ _ _ _ _
   | exact LeO.none _
   | refine LeO.ite ?_ ?_
   | refine LeO.bind ?_ (fun _ => ?_)
def ambidextertop_TopSegments.T12 : Bool × List (List Nat × List Nat) := (true, [([], []), ([], []), ([], []), ([], []), ([2, 3], [2, 3]), ([4], [4]), ([5], [5]), ([], []), ([], []), ([7, 8], [7, 8]), ([9], [9]), ([10], [10]), ([11], [11]), ([6, 12], [6, 12]), ([0, 1, 13], [0, 1, 13]), ([], []), ([15, 14, 14, 0, 1, 2, 3, 4, 5, 6, 7, 8, 9, 10, 11, 12, 13, 14, 15], [14, 15])])
def ambidextertop_TopSegments.B12 : List Nat := [0, 0, 0, 0, 12, 28, 60, 0, 0, 384, 896, 1920, 3968, 8188, 16383, 0, 65535]
theorem ambidextertop_TopSegments.tab12 : rtab .any (opsOf Try.f13 12) = ambidextertop_TopSegments.T12 := by kernel_rfl
theorem ambidextertop_TopSegments.bits12 : waitsOk ambidextertop_TopSegments.T12.2 ambidextertop_TopSegments.B12 = true := by kernel_rfl
def ambidextertop_TopSegments.T18 : Bool × List (List Nat × List Nat) := (true, [([], []), ([], []), ([], []), ([1, 2], [1, 2]), ([3], [3]), ([4], [4]), ([0, 5], [0, 5]), ([], []), ([], []), ([], []), ([8, 9], [8, 9]), ([10], [10]), ([11], [11]), ([7, 12, 6], [7, 12]), ([6, 13], [6, 13]), ([14, 13], [14]), ([15], [15]), ([15], [15]), ([15], [15]), ([17, 18, 15], [15, 17, 18]), ([19, 15], [15, 19]), ([20, 15], [15, 20]), ([16, 21, 15, 15], [15, 16, 21]), ([15], [15]), ([15], [15]), ([23, 24, 15], [15, 23, 24]), ([25, 15], [15, 25]), ([26, 15], [15, 26]), ([27, 15], [15, 27]), ([28, 15], [15, 28]), ([29, 15], [15, 29]), ([22, 30, 15], [15, 22, 30]), ([15, 31], [15, 31]), ([32, 22], [32]), ([33], [33]), ([33], [33]), ([33], [33]), ([33], [33]), ([36, 37, 33], [33, 36, 37]), ([38, 33], [33, 38]), ([39, 33], [33, 39]), ([34, 35, 40, 33, 33], [33, 34, 35, 40]), ([41, 33], [33, 41]), ([33, 42], [33, 42])])
def ambidextertop_TopSegments.B18 : List Nat := [0, 0, 0, 6, 14, 30, 63, 0, 0, 0, 768, 1792, 3840, 8191, 16383, 32767, 65535, 65535, 65535, 458751, 983039, 2031615, 4194303, 65535, 65535, 25231359, 58785791, 125894655, 260112383, 528547839, 1065418751, 2147483647, 4294967295, 8589934591, 17179869183, 17179869183, 17179869183, 17179869183, 223338299391, 498216206335, 1047972020223, 2199023255551, 4398046511103, 8796093022207]
theorem ambidextertop_TopSegments.tab18 : rtab .any (opsOf Try.f13 18) = ambidextertop_TopSegments.T18 := by kernel_rfl
theorem ambidextertop_TopSegments.bits18 : waitsOk ambidextertop_TopSegments.T18.2 ambidextertop_TopSegments.B18 = true := by kernel_rfl
end Go.Proofs.Ytmmaodlngnjmlaa.P
