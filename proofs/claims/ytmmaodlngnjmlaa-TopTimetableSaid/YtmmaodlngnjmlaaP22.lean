-- Written by this session's own program, for this seat. Lean checks it.
import Derived.Test.YtmmaodlngnjmlaaP0
import Derived.Test.YtmmaodlngnjmlaaP1
import Derived.Test.YtmmaodlngnjmlaaP3
import Derived.Test.YtmmaodlngnjmlaaP4
import Derived.Test.YtmmaodlngnjmlaaP5
import Derived.Test.YtmmaodlngnjmlaaP6
import Derived.Test.YtmmaodlngnjmlaaXFar
namespace Go.Proofs.Ytmmaodlngnjmlaa.P
open Go.RowKit Go.Proofs.YtmmaodlngnjmlaaW.PrintWords Go.Proofs.YtmmaodlngnjmlaaW.PrintLast Go.Proofs.YtmmaodlngnjmlaaW.PrintMore
attribute [local go_sem] max2_int min2_int max_two min_two max_three min_three max_four min_four   -- for this text's walks alone
set_option linter.unusedVariables false
set_option linter.unusedSimpArgs false

/-! ### ambidextertop_TopTimetable: function 5 -/
mutual
def ambidextertop_TopTimetable.l0 : Nat → List (S63) → Bool → List (S67) → Int → Int → Int → Int → Int → Int → Int → Int → Int → Int → Int → Int → Int → Int → Int → Int → Option (Bool)
 | 0, _, _, _, _, _, _, _, _, _, _, _, _, _, _, _, _, _, _, _ => none
 | k + 1, x3, x11, x13, x16, x253000, x253001, x253002, x253003, x253004, x253005, x258000, x258001, x258002, x263000, x263001, x263002, x263003, x263004, x263005 => if x16 < 6 then (if 0 ≤ (wrap64 (Int.tdiv x16 3)) then (if (wrap64 (Int.tdiv x16 3)) < 2 then (if 0 ≤ (Int.tmod x16 3) then (if (Int.tmod x16 3) < 3 then (ambidextertop_TopTimetable.l0 k x3 x11 x13 (wrap64 (x16 + 1)) x253000 x253001 x253002 x253003 x253004 x253005 x258000 x258001 x258002 (dset ((wrap64 (Int.tdiv x16 3)) * 3 + (Int.tmod x16 3)) 0 (wrap64 ((Int.tmod (wrap64 (dget [x253000, x253001, x253002, x253003, x253004, x253005] ((wrap64 (Int.tdiv x16 3)) * 3 + (Int.tmod x16 3)))) 36) - 17)) x263000) (dset ((wrap64 (Int.tdiv x16 3)) * 3 + (Int.tmod x16 3)) 1 (wrap64 ((Int.tmod (wrap64 (dget [x253000, x253001, x253002, x253003, x253004, x253005] ((wrap64 (Int.tdiv x16 3)) * 3 + (Int.tmod x16 3)))) 36) - 17)) x263001) (dset ((wrap64 (Int.tdiv x16 3)) * 3 + (Int.tmod x16 3)) 2 (wrap64 ((Int.tmod (wrap64 (dget [x253000, x253001, x253002, x253003, x253004, x253005] ((wrap64 (Int.tdiv x16 3)) * 3 + (Int.tmod x16 3)))) 36) - 17)) x263002) (dset ((wrap64 (Int.tdiv x16 3)) * 3 + (Int.tmod x16 3)) 3 (wrap64 ((Int.tmod (wrap64 (dget [x253000, x253001, x253002, x253003, x253004, x253005] ((wrap64 (Int.tdiv x16 3)) * 3 + (Int.tmod x16 3)))) 36) - 17)) x263003) (dset ((wrap64 (Int.tdiv x16 3)) * 3 + (Int.tmod x16 3)) 4 (wrap64 ((Int.tmod (wrap64 (dget [x253000, x253001, x253002, x253003, x253004, x253005] ((wrap64 (Int.tdiv x16 3)) * 3 + (Int.tmod x16 3)))) 36) - 17)) x263004) (dset ((wrap64 (Int.tdiv x16 3)) * 3 + (Int.tmod x16 3)) 5 (wrap64 ((Int.tmod (wrap64 (dget [x253000, x253001, x253002, x253003, x253004, x253005] ((wrap64 (Int.tdiv x16 3)) * 3 + (Int.tmod x16 3)))) 36) - 17)) x263005)) else (none)) else (none)) else (none)) else (none)) else ((ambidexterref23_Runs.f k x3).bind fun t263 => (ambidextertop_TopTimetable.l1 k x3 x11 x13 t263 0 0 x258000 x258001 x258002 x263000 x263001 x263002 x263003 x263004 x263005))
def ambidextertop_TopTimetable.l1 : Nat → List (S63) → Bool → List (S67) → List (S65) → Int → Int → Int → Int → Int → Int → Int → Int → Int → Int → Int → Option (Bool)
 | 0, _, _, _, _, _, _, _, _, _, _, _, _, _, _, _ => none
 | k + 1, x3, x11, x13, x17, x18, x19, x258000, x258001, x258002, x263000, x263001, x263002, x263003, x263004, x263005 => if x19 < (x17.length : Int) then (if 0 ≤ x19 then ((mintime_Duration.f k x258000 x258001 x258002 (wrap64 (((rd_T65 x17 x19).f1) * 12))).bind fun bt267 => (if bt267.2 = true then (if x19 ≥ (x13.length : Int) then (some false) else (if x19 < (x13.length : Int) then (if ((rd_T67 x13 x19).f1) = x18 then (if (((rd_T67 x13 x19).f2).length : Int) = bt267.1 then (ambidextertop_TopTimetable.l1 k x3 x11 x13 x17 (wrap64 (x18 + bt267.1)) (wrap64 (x19 + 1)) x258000 x258001 x258002 x263000 x263001 x263002 x263003 x263004 x263005) else (some false)) else (some false)) else (none))) else (some false))) else (none)) else (ambidextertop_TopTimetable.l2 k x3 x11 x13 x17 x18 0 x258000 x258001 x258002 x263000 x263001 x263002 x263003 x263004 x263005 x263000 x263001 x263002 x263003 x263004 x263005)
def ambidextertop_TopTimetable.l2 : Nat → List (S63) → Bool → List (S67) → List (S65) → Int → Int → Int → Int → Int → Int → Int → Int → Int → Int → Int → Int → Int → Int → Int → Int → Int → Option (Bool)
 | 0, _, _, _, _, _, _, _, _, _, _, _, _, _, _, _, _, _, _, _, _, _ => none
 | k + 1, x3, x11, x13, x17, x18, x23, x258000, x258001, x258002, x263000, x263001, x263002, x263003, x263004, x263005, x272000, x272001, x272002, x272003, x272004, x272005 => if x23 < (x3.length : Int) then (if 0 ≤ x23 then (if 0 ≤ ((rd_T63 x3 x23).f0) then (if ((rd_T63 x3 x23).f0) < 2 then (if 0 ≤ ((rd_T63 x3 x23).f1) then (if ((rd_T63 x3 x23).f1) < 3 then (ambidextertop_TopTimetable.l2 k x3 x11 x13 x17 x18 (wrap64 (x23 + 1)) x258000 x258001 x258002 x263000 x263001 x263002 x263003 x263004 x263005 (dset (((rd_T63 x3 x23).f0) * 3 + ((rd_T63 x3 x23).f1)) 0 (wrap64 ((dget [x272000, x272001, x272002, x272003, x272004, x272005] (((rd_T63 x3 x23).f0) * 3 + ((rd_T63 x3 x23).f1))) + ((rd_T63 x3 x23).f2))) x272000) (dset (((rd_T63 x3 x23).f0) * 3 + ((rd_T63 x3 x23).f1)) 1 (wrap64 ((dget [x272000, x272001, x272002, x272003, x272004, x272005] (((rd_T63 x3 x23).f0) * 3 + ((rd_T63 x3 x23).f1))) + ((rd_T63 x3 x23).f2))) x272001) (dset (((rd_T63 x3 x23).f0) * 3 + ((rd_T63 x3 x23).f1)) 2 (wrap64 ((dget [x272000, x272001, x272002, x272003, x272004, x272005] (((rd_T63 x3 x23).f0) * 3 + ((rd_T63 x3 x23).f1))) + ((rd_T63 x3 x23).f2))) x272002) (dset (((rd_T63 x3 x23).f0) * 3 + ((rd_T63 x3 x23).f1)) 3 (wrap64 ((dget [x272000, x272001, x272002, x272003, x272004, x272005] (((rd_T63 x3 x23).f0) * 3 + ((rd_T63 x3 x23).f1))) + ((rd_T63 x3 x23).f2))) x272003) (dset (((rd_T63 x3 x23).f0) * 3 + ((rd_T63 x3 x23).f1)) 4 (wrap64 ((dget [x272000, x272001, x272002, x272003, x272004, x272005] (((rd_T63 x3 x23).f0) * 3 + ((rd_T63 x3 x23).f1))) + ((rd_T63 x3 x23).f2))) x272004) (dset (((rd_T63 x3 x23).f0) * 3 + ((rd_T63 x3 x23).f1)) 5 (wrap64 ((dget [x272000, x272001, x272002, x272003, x272004, x272005] (((rd_T63 x3 x23).f0) * 3 + ((rd_T63 x3 x23).f1))) + ((rd_T63 x3 x23).f2))) x272005)) else (none)) else (none)) else (none)) else (none)) else (none)) else ((timetable_Duration.f k x13).bind fun t277 => (if t277 = x18 then (if (x13.length : Int) = (x17.length : Int) then (ambidextertop_TopTimetable.j3 k x11 x13 x18 (decide (x18 > 2000)) x258000 x258001 x258002 x263000 x263001 x263002 x263003 x263004 x263005 x272000 x272001 x272002 x272003 x272004 x272005) else (ambidextertop_TopTimetable.j3 k x11 x13 x18 true x258000 x258001 x258002 x263000 x263001 x263002 x263003 x263004 x263005 x272000 x272001 x272002 x272003 x272004 x272005)) else (ambidextertop_TopTimetable.j3 k x11 x13 x18 true x258000 x258001 x258002 x263000 x263001 x263002 x263003 x263004 x263005 x272000 x272001 x272002 x272003 x272004 x272005)))
def ambidextertop_TopTimetable.j3 : Nat → Bool → List (S67) → Int → Bool → Int → Int → Int → Int → Int → Int → Int → Int → Int → Int → Int → Int → Int → Int → Int → Option (Bool)
 | 0, _, _, _, _, _, _, _, _, _, _, _, _, _, _, _, _, _, _, _ => none
 | k + 1, x11, x13, x18, x175, x258000, x258001, x258002, x263000, x263001, x263002, x263003, x263004, x263005, x272000, x272001, x272002, x272003, x272004, x272005 => if x175 = true then (some false) else ((timetable_PositionsAt.f x263000 x263001 x263002 x263003 x263004 x263005 x13 0).bind fun bt278 => (ambidextertop_TopTimetable.l3 k x11 x13 x18 1 x258000 x258001 x258002 x263000 x263001 x263002 x263003 x263004 x263005 x272000 x272001 x272002 x272003 x272004 x272005 bt278.1 bt278.2.1 bt278.2.2.1 bt278.2.2.2.1 bt278.2.2.2.2.1 bt278.2.2.2.2.2))
def ambidextertop_TopTimetable.l3 : Nat → Bool → List (S67) → Int → Int → Int → Int → Int → Int → Int → Int → Int → Int → Int → Int → Int → Int → Int → Int → Int → Int → Int → Int → Int → Int → Int → Option (Bool)
 | 0, _, _, _, _, _, _, _, _, _, _, _, _, _, _, _, _, _, _, _, _, _, _, _, _, _ => none
 | k + 1, x11, x13, x18, x25, x258000, x258001, x258002, x263000, x263001, x263002, x263003, x263004, x263005, x272000, x272001, x272002, x272003, x272004, x272005, x285000, x285001, x285002, x285003, x285004, x285005 => if x25 ≤ (wrap64 (x18 + 1)) then ((timetable_PositionsAt.f x263000 x263001 x263002 x263003 x263004 x263005 x13 x25).bind fun bt285 => (ambidextertop_TopTimetable.l4 k x11 x13 x18 x25 0 0 x258000 x258001 x258002 x263000 x263001 x263002 x263003 x263004 x263005 x272000 x272001 x272002 x272003 x272004 x272005 x285000 x285001 x285002 x285003 x285004 x285005 bt285.1 bt285.2.1 bt285.2.2.1 bt285.2.2.2.1 bt285.2.2.2.2.1 bt285.2.2.2.2.2)) else (ambidextertop_TopTimetable.l5 k x11 0 x272000 x272001 x272002 x272003 x272004 x272005 x285000 x285001 x285002 x285003 x285004 x285005)
def ambidextertop_TopTimetable.l4 : Nat → Bool → List (S67) → Int → Int → Int → Int → Int → Int → Int → Int → Int → Int → Int → Int → Int → Int → Int → Int → Int → Int → Int → Int → Int → Int → Int → Int → Int → Int → Int → Int → Int → Int → Int → Option (Bool)
 | 0, _, _, _, _, _, _, _, _, _, _, _, _, _, _, _, _, _, _, _, _, _, _, _, _, _, _, _, _, _, _, _, _, _ => none
 | k + 1, x11, x13, x18, x25, x27, x28, x258000, x258001, x258002, x263000, x263001, x263002, x263003, x263004, x263005, x272000, x272001, x272002, x272003, x272004, x272005, x285000, x285001, x285002, x285003, x285004, x285005, x292000, x292001, x292002, x292003, x292004, x292005 => if x28 < 6 then (if 0 ≤ (wrap64 (Int.tdiv x28 3)) then (if (wrap64 (Int.tdiv x28 3)) < 2 then (if 0 ≤ (Int.tmod x28 3) then (if (Int.tmod x28 3) < 3 then (if (wrap64 ((dget [x292000, x292001, x292002, x292003, x292004, x292005] ((wrap64 (Int.tdiv x28 3)) * 3 + (Int.tmod x28 3))) - (dget [x285000, x285001, x285002, x285003, x285004, x285005] ((wrap64 (Int.tdiv x28 3)) * 3 + (Int.tmod x28 3))))) > x258000 then (ambidextertop_TopTimetable.j6 k x11 x13 x18 x25 x27 x28 (wrap64 ((dget [x292000, x292001, x292002, x292003, x292004, x292005] ((wrap64 (Int.tdiv x28 3)) * 3 + (Int.tmod x28 3))) - (dget [x285000, x285001, x285002, x285003, x285004, x285005] ((wrap64 (Int.tdiv x28 3)) * 3 + (Int.tmod x28 3))))) true x258000 x258001 x258002 x263000 x263001 x263002 x263003 x263004 x263005 x272000 x272001 x272002 x272003 x272004 x272005 x285000 x285001 x285002 x285003 x285004 x285005 x292000 x292001 x292002 x292003 x292004 x292005) else (ambidextertop_TopTimetable.j6 k x11 x13 x18 x25 x27 x28 (wrap64 ((dget [x292000, x292001, x292002, x292003, x292004, x292005] ((wrap64 (Int.tdiv x28 3)) * 3 + (Int.tmod x28 3))) - (dget [x285000, x285001, x285002, x285003, x285004, x285005] ((wrap64 (Int.tdiv x28 3)) * 3 + (Int.tmod x28 3))))) (decide ((wrap64 ((dget [x292000, x292001, x292002, x292003, x292004, x292005] ((wrap64 (Int.tdiv x28 3)) * 3 + (Int.tmod x28 3))) - (dget [x285000, x285001, x285002, x285003, x285004, x285005] ((wrap64 (Int.tdiv x28 3)) * 3 + (Int.tmod x28 3))))) < (wrap64 (-x258000)))) x258000 x258001 x258002 x263000 x263001 x263002 x263003 x263004 x263005 x272000 x272001 x272002 x272003 x272004 x272005 x285000 x285001 x285002 x285003 x285004 x285005 x292000 x292001 x292002 x292003 x292004 x292005)) else (none)) else (none)) else (none)) else (none)) else (if x27 > 1 then (some false) else (ambidextertop_TopTimetable.l3 k x11 x13 x18 (wrap64 (x25 + 1)) x258000 x258001 x258002 x263000 x263001 x263002 x263003 x263004 x263005 x272000 x272001 x272002 x272003 x272004 x272005 x292000 x292001 x292002 x292003 x292004 x292005))
def ambidextertop_TopTimetable.j6 : Nat → Bool → List (S67) → Int → Int → Int → Int → Int → Bool → Int → Int → Int → Int → Int → Int → Int → Int → Int → Int → Int → Int → Int → Int → Int → Int → Int → Int → Int → Int → Int → Int → Int → Int → Int → Int → Int → Option (Bool)
 | 0, _, _, _, _, _, _, _, _, _, _, _, _, _, _, _, _, _, _, _, _, _, _, _, _, _, _, _, _, _, _, _, _, _, _, _ => none
 | k + 1, x11, x13, x18, x25, x27, x28, x29, x218, x258000, x258001, x258002, x263000, x263001, x263002, x263003, x263004, x263005, x272000, x272001, x272002, x272003, x272004, x272005, x285000, x285001, x285002, x285003, x285004, x285005, x292000, x292001, x292002, x292003, x292004, x292005 => if x218 = true then (some false) else (if x29 = 0 then (ambidextertop_TopTimetable.l4 k x11 x13 x18 x25 x27 (wrap64 (x28 + 1)) x258000 x258001 x258002 x263000 x263001 x263002 x263003 x263004 x263005 x272000 x272001 x272002 x272003 x272004 x272005 x285000 x285001 x285002 x285003 x285004 x285005 x292000 x292001 x292002 x292003 x292004 x292005) else (ambidextertop_TopTimetable.l4 k x11 x13 x18 x25 (wrap64 (x27 + 1)) (wrap64 (x28 + 1)) x258000 x258001 x258002 x263000 x263001 x263002 x263003 x263004 x263005 x272000 x272001 x272002 x272003 x272004 x272005 x285000 x285001 x285002 x285003 x285004 x285005 x292000 x292001 x292002 x292003 x292004 x292005))
def ambidextertop_TopTimetable.l5 : Nat → Bool → Int → Int → Int → Int → Int → Int → Int → Int → Int → Int → Int → Int → Int → Option (Bool)
 | 0, _, _, _, _, _, _, _, _, _, _, _, _, _, _ => none
 | k + 1, x11, x30, x272000, x272001, x272002, x272003, x272004, x272005, x285000, x285001, x285002, x285003, x285004, x285005 => if x30 < 6 then (if 0 ≤ (wrap64 (Int.tdiv x30 3)) then (if (wrap64 (Int.tdiv x30 3)) < 2 then (if 0 ≤ (Int.tmod x30 3) then (if (Int.tmod x30 3) < 3 then (if (dget [x285000, x285001, x285002, x285003, x285004, x285005] ((wrap64 (Int.tdiv x30 3)) * 3 + (Int.tmod x30 3))) = (wrap64 (12 * (dget [x272000, x272001, x272002, x272003, x272004, x272005] ((wrap64 (Int.tdiv x30 3)) * 3 + (Int.tmod x30 3))))) then (ambidextertop_TopTimetable.l5 k x11 (wrap64 (x30 + 1)) x272000 x272001 x272002 x272003 x272004 x272005 x285000 x285001 x285002 x285003 x285004 x285005) else (some false)) else (none)) else (none)) else (none)) else (none)) else (some x11)
end
def ambidextertop_TopTimetable.f (k : Nat) (a0 : Int) (a1 : Int) (a2 : Int) (l3 : List (S63)) (a4_0 : Int) (a4_1 : Int) (a4_2 : Int) (a4_3 : Int) (a4_4 : Int) (a4_5 : Int) : Option (Bool) := (ambidextertop_head23.f k).bind fun t253 => ((ambidextertop_limR14.f a0 a1 a2).bind fun bt254 => (if (l3.length : Int) > 30 then (some t253) else ((timetable_Sequential.f k bt254.1 bt254.2.1 bt254.2.2 l3).bind fun bt258 => (if bt258.2 = 0 then (ambidextertop_TopTimetable.l0 k l3 t253 bt258.1 0 a4_0 a4_1 a4_2 a4_3 a4_4 a4_5 bt254.1 bt254.2.1 bt254.2.2 0 0 0 0 0 0) else (if t253 = true then (some ((bt258.1.length : Int) == 0)) else (some false))))))
theorem ambidextertop_TopTimetable.mono_l : ∀ k, (∀ y0 y1 y2 y3 y4 y5 y6 y7 y8 y9 y10 y11 y12 y13 y14 y15 y16 y17 y18, LeO (ambidextertop_TopTimetable.l0 k y0 y1 y2 y3 y4 y5 y6 y7 y8 y9 y10 y11 y12 y13 y14 y15 y16 y17 y18) (ambidextertop_TopTimetable.l0 (k + 1) y0 y1 y2 y3 y4 y5 y6 y7 y8 y9 y10 y11 y12 y13 y14 y15 y16 y17 y18)) ∧ (∀ y0 y1 y2 y3 y4 y5 y6 y7 y8 y9 y10 y11 y12 y13 y14, LeO (ambidextertop_TopTimetable.l1 k y0 y1 y2 y3 y4 y5 y6 y7 y8 y9 y10 y11 y12 y13 y14) (ambidextertop_TopTimetable.l1 (k + 1) y0 y1 y2 y3 y4 y5 y6 y7 y8 y9 y10 y11 y12 y13 y14)) ∧ (∀ y0 y1 y2 y3 y4 y5 y6 y7 y8 y9 y10 y11 y12 y13 y14 y15 y16 y17 y18 y19 y20, LeO (ambidextertop_TopTimetable.l2 k y0 y1 y2 y3 y4 y5 y6 y7 y8 y9 y10 y11 y12 y13 y14 y15 y16 y17 y18 y19 y20) (ambidextertop_TopTimetable.l2 (k + 1) y0 y1 y2 y3 y4 y5 y6 y7 y8 y9 y10 y11 y12 y13 y14 y15 y16 y17 y18 y19 y20)) ∧ (∀ y0 y1 y2 y3 y4 y5 y6 y7 y8 y9 y10 y11 y12 y13 y14 y15 y16 y17 y18, LeO (ambidextertop_TopTimetable.j3 k y0 y1 y2 y3 y4 y5 y6 y7 y8 y9 y10 y11 y12 y13 y14 y15 y16 y17 y18) (ambidextertop_TopTimetable.j3 (k + 1) y0 y1 y2 y3 y4 y5 y6 y7 y8 y9 y10 y11 y12 y13 y14 y15 y16 y17 y18)) ∧ (∀ y0 y1 y2 y3 y4 y5 y6 y7 y8 y9 y10 y11 y12 y13 y14 y15 y16 y17 y18 y19 y20 y21 y22 y23 y24, LeO (ambidextertop_TopTimetable.l3 k y0 y1 y2 y3 y4 y5 y6 y7 y8 y9 y10 y11 y12 y13 y14 y15 y16 y17 y18 y19 y20 y21 y22 y23 y24) (ambidextertop_TopTimetable.l3 (k + 1) y0 y1 y2 y3 y4 y5 y6 y7 y8 y9 y10 y11 y12 y13 y14 y15 y16 y17 y18 y19 y20 y21 y22 y23 y24)) ∧ (∀ y0 y1 y2 y3 y4 y5 y6 y7 y8 y9 y10 y11 y12 y13 y14 y15 y16 y17 y18 y19 y20 y21 y22 y23 y24 y25 y26 y27 y28 y29 y30 y31 y32, LeO (ambidextertop_TopTimetable.l4 k y0 y1 y2 y3 y4 y5 y6 y7 y8 y9 y10 y11 y12 y13 y14 y15 y16 y17 y18 y19 y20 y21 y22 y23 y24 y25 y26 y27 y28 y29 y30 y31 y32) (ambidextertop_TopTimetable.l4 (k + 1) y0 y1 y2 y3 y4 y5 y6 y7 y8 y9 y10 y11 y12 y13 y14 y15 y16 y17 y18 y19 y20 y21 y22 y23 y24 y25 y26 y27 y28 y29 y30 y31 y32)) ∧ (∀ y0 y1 y2 y3 y4 y5 y6 y7 y8 y9 y10 y11 y12 y13 y14 y15 y16 y17 y18 y19 y20 y21 y22 y23 y24 y25 y26 y27 y28 y29 y30 y31 y32 y33 y34, LeO (ambidextertop_TopTimetable.j6 k y0 y1 y2 y3 y4 y5 y6 y7 y8 y9 y10 y11 y12 y13 y14 y15 y16 y17 y18 y19 y20 y21 y22 y23 y24 y25 y26 y27 y28 y29 y30 y31 y32 y33 y34) (ambidextertop_TopTimetable.j6 (k + 1) y0 y1 y2 y3 y4 y5 y6 y7 y8 y9 y10 y11 y12 y13 y14 y15 y16 y17 y18 y19 y20 y21 y22 y23 y24 y25 y26 y27 y28 y29 y30 y31 y32 y33 y34)) ∧ (∀ y0 y1 y2 y3 y4 y5 y6 y7 y8 y9 y10 y11 y12 y13, LeO (ambidextertop_TopTimetable.l5 k y0 y1 y2 y3 y4 y5 y6 y7 y8 y9 y10 y11 y12 y13) (ambidextertop_TopTimetable.l5 (k + 1) y0 y1 y2 y3 y4 y5 y6 y7 y8 y9 y10 y11 y12 y13))
 | 0 => ⟨fun _ _ _ _ _ _ _ _ _ _ _ _ _ _ _ _ _ _ _ r h => by simp [ambidextertop_TopTimetable.l0] at h, fun _ _ _ _ _ _ _ _ _ _ _ _ _ _ _ r h => by simp [ambidextertop_TopTimetable.l1] at h, fun _ _ _ _ _ _ _ _ _ _ _ _ _ _ _ _ _ _ _ _ _ r h => by simp [ambidextertop_TopTimetable.l2] at h, fun _ _ _ _ _ _ _ _ _ _ _ _ _ _ _ _ _ _ _ r h => by simp [ambidextertop_TopTimetable.j3] at h, fun _ _ _ _ _ _ _ _ _ _ _ _ _ _ _ _ _ _ _ _ _ _ _ _ _ r h => by simp [ambidextertop_TopTimetable.l3] at h, fun _ _ _ _ _ _ _ _ _ _ _ _ _ _ _ _ _ _ _ _ _ _ _ _ _ _ _ _ _ _ _ _ _ r h => by simp [ambidextertop_TopTimetable.l4] at h, fun _ _ _ _ _ _ _ _ _ _ _ _ _ _ _ _ _ _ _ _ _ _ _ _ _ _ _ _ _ _ _ _ _ _ _ r h => by simp [ambidextertop_TopTimetable.j6] at h, fun _ _ _ _ _ _ _ _ _ _ _ _ _ _ r h => by simp [ambidextertop_TopTimetable.l5] at h⟩
 | k + 1 => by
  obtain ⟨ih0, ih1, ih2, ih3, ih4, ih5, ih6, ih7⟩ := ambidextertop_TopTimetable.mono_l k
  refine ⟨?_, ?_, ?_, ?_, ?_, ?_, ?_, ?_⟩
  ·
   intro y0 y1 y2 y3 y4 y5 y6 y7 y8 y9 y10 y11 y12 y13 y14 y15 y16 y17 y18
   unfold ambidextertop_TopTimetable.l0
   repeat' first
   | (with_reducible exact ih0 _ _ _ _ _ _ _ _ _ _ _ _ _ _ _ _ _ _ _)
   | (with_reducible exact ih1 _ _ _ _ _ _ _ _ _ _ _ _ _ _ _)
   | (with_reducible exact ih2 _ _ _ _ _ _ _ _ _ _ _ _ _ _ _ _ _ _ _ _ _)
   | (with_reducible exact ih3 _ _ _ _ _ _ _ _ _ _ _ _ _ _ _ _ _ _ _)
   | (with_reducible exact ih4 _ _ _ _ _ _ _ _ _ _ _ _ _ _ _ _ _ _ _ _ _ _ _ _ _)
   | (with_reducible exact ih5 _ _ _ _ _ _ _ _ _ _ _ _ _ _ _ _ _ _ _ _ _ _ _ _ _ _ _ _ _ _ _ _ _)
   | (with_reducible exact ih6 _ _ _ _ _ _ _ _ _ _ _ _ _ _ _ _ _ _ _ _ _ _ _ _ _ _ _ _ _ _ _ _ _ _ _)
   | (with_reducible exact ih7 _ _ _ _ _ _ _ _ _ _ _ _ _ _)
   | (with_reducible exact ambidexterref23_Runs.mono _ _)
   | (with_reducible exact ambidextertop_head23.mono _)
   | (with_reducible exact mintime_Duration.mono _ _ _ _ _)
   | (with_reducible exact timetable_Duration.mono _ _)
   | (with_reducible exact timetable_Sequential.mono _ _ _ _ _)
   | (with_reducible exact LeO.refl _)
   | (with_reducible exact LeO.none _)
   | (with_reducible refine LeO.ite ?_ ?_)
   | (with_reducible refine LeO.bind ?_ (fun _ => ?_))
   | exact ih0 _ _ _ _ _ _ _ _ _ _ _ _ _ _ _ _ _ _ _
   | exact ih1 _ _ _ _ _ _ _ _ _ _ _ _ _ _ _
   | exact ih2 _ _ _ _ _ _ _ _ _ _ _ _ _ _ _ _ _ _ _ _ _
   | exact ih3 _ _ _ _ _ _ _ _ _ _ _ _ _ _ _ _ _ _ _
   | exact ih4 _ _ _ _ _ _ _ _ _ _ _ _ _ _ _ _ _ _ _ _ _ _ _ _ _
   | exact ih5 _ _ _ _ _ _ _ _ _ _ _ _ _ _ _ _ _ _ _ _ _ _ _ _ _ _ _ _ _ _ _ _ _
   | exact ih6 _ _ _ _ _ _ _ _ _ _ _ _ _ _ _ _ _ _ _ _ _ _ _ _ _ _ _ _ _ _ _ _ _ _ _
   | exact ih7 _ _ _ _ _ _ _ _ _ _ _ _ _ _
   | exact ambidexterref23_Runs.mono _ _
   | exact ambidextertop_head23.mono _
   | exact mintime_Duration.mono _ _ _ _ _
   | exact timetable_Duration.mono _ _
   | exact timetable_Sequential.mono _ _ _ _ _
   | exact LeO.none _
   | refine LeO.ite ?_ ?_
   | refine LeO.bind ?_ (fun _ => ?_)
  ·
   intro y0 y1 y2 y3 y4 y5 y6 y7 y8 y9 y10 y11 y12 y13 y14
   unfold ambidextertop_TopTimetable.l1
   repeat' first
   | (with_reducible exact ih0 _ _ _ _ _ _ _ _ _ _ _ _ _ _ _ _ _ _ _)
   | (with_reducible exact ih1 _ _ _ _ _ _ _ _ _ _ _ _ _ _ _)
   | (with_reducible exact ih2 _ _ _ _ _ _ _ _ _ _ _ _ _ _ _ _ _ _ _ _ _)
   | (with_reducible exact ih3 _ _ _ _ _ _ _ _ _ _ _ _ _ _ _ _ _ _ _)
   | (with_reducible exact ih4 _ _ _ _ _ _ _ _ _ _ _ _ _ _ _ _ _ _ _ _ _ _ _ _ _)
   | (with_reducible exact ih5 _ _ _ _ _ _ _ _ _ _ _ _ _ _ _ _ _ _ _ _ _ _ _ _ _ _ _ _ _ _ _ _ _)
   | (with_reducible exact ih6 _ _ _ _ _ _ _ _ _ _ _ _ _ _ _ _ _ _ _ _ _ _ _ _ _ _ _ _ _ _ _ _ _ _ _)
   | (with_reducible exact ih7 _ _ _ _ _ _ _ _ _ _ _ _ _ _)
   | (with_reducible exact ambidexterref23_Runs.mono _ _)
   | (with_reducible exact ambidextertop_head23.mono _)
   | (with_reducible exact mintime_Duration.mono _ _ _ _ _)
   | (with_reducible exact timetable_Duration.mono _ _)
   | (with_reducible exact timetable_Sequential.mono _ _ _ _ _)
   | (with_reducible exact LeO.refl _)
   | (with_reducible exact LeO.none _)
   | (with_reducible refine LeO.ite ?_ ?_)
   | (with_reducible refine LeO.bind ?_ (fun _ => ?_))
   | exact ih0 _ _ _ _ _ _ _ _ _ _ _ _ _ _ _ _ _ _ _
   | exact ih1 _ _ _ _ _ _ _ _ _ _ _ _ _ _ _
   | exact ih2 _ _ _ _ _ _ _ _ _ _ _ _ _ _ _ _ _ _ _ _ _
   | exact ih3 _ _ _ _ _ _ _ _ _ _ _ _ _ _ _ _ _ _ _
   | exact ih4 _ _ _ _ _ _ _ _ _ _ _ _ _ _ _ _ _ _ _ _ _ _ _ _ _
   | exact ih5 _ _ _ _ _ _ _ _ _ _ _ _ _ _ _ _ _ _ _ _ _ _ _ _ _ _ _ _ _ _ _ _ _
   | exact ih6 _ _ _ _ _ _ _ _ _ _ _ _ _ _ _ _ _ _ _ _ _ _ _ _ _ _ _ _ _ _ _ _ _ _ _
   | exact ih7 _ _ _ _ _ _ _ _ _ _ _ _ _ _
   | exact ambidexterref23_Runs.mono _ _
   | exact ambidextertop_head23.mono _
   | exact mintime_Duration.mono _ _ _ _ _
   | exact timetable_Duration.mono _ _
   | exact timetable_Sequential.mono _ _ _ _ _
   | exact LeO.none _
   | refine LeO.ite ?_ ?_
   | refine LeO.bind ?_ (fun _ => ?_)
  ·
   intro y0 y1 y2 y3 y4 y5 y6 y7 y8 y9 y10 y11 y12 y13 y14 y15 y16 y17 y18 y19 y20
   unfold ambidextertop_TopTimetable.l2
   repeat' first
   | (with_reducible exact ih0 _ _ _ _ _ _ _ _ _ _ _ _ _ _ _ _ _ _ _)
   | (with_reducible exact ih1 _ _ _ _ _ _ _ _ _ _ _ _ _ _ _)
   | (with_reducible exact ih2 _ _ _ _ _ _ _ _ _ _ _ _ _ _ _ _ _ _ _ _ _)
   | (with_reducible exact ih3 _ _ _ _ _ _ _ _ _ _ _ _ _ _ _ _ _ _ _)
   | (with_reducible exact ih4 _ _ _ _ _ _ _ _ _ _ _ _ _ _ _ _ _ _ _ _ _ _ _ _ _)
   | (with_reducible exact ih5 _ _ _ _ _ _ _ _ _ _ _ _ _ _ _ _ _ _ _ _ _ _ _ _ _ _ _ _ _ _ _ _ _)
   | (with_reducible exact ih6 _ _ _ _ _ _ _ _ _ _ _ _ _ _ _ _ _ _ _ _ _ _ _ _ _ _ _ _ _ _ _ _ _ _ _)
   | (with_reducible exact ih7 _ _ _ _ _ _ _ _ _ _ _ _ _ _)
   | (with_reducible exact ambidexterref23_Runs.mono _ _)
   | (with_reducible exact ambidextertop_head23.mono _)
   | (with_reducible exact mintime_Duration.mono _ _ _ _ _)
   | (with_reducible exact timetable_Duration.mono _ _)
   | (with_reducible exact timetable_Sequential.mono _ _ _ _ _)
   | (with_reducible exact LeO.refl _)
   | (with_reducible exact LeO.none _)
   | (with_reducible refine LeO.ite ?_ ?_)
   | (with_reducible refine LeO.bind ?_ (fun _ => ?_))
   | exact ih0 _ _ _ _ _ _ _ _ _ _ _ _ _ _ _ _ _ _ _
   | exact ih1 _ _ _ _ _ _ _ _ _ _ _ _ _ _ _
   | exact ih2 _ _ _ _ _ _ _ _ _ _ _ _ _ _ _ _ _ _ _ _ _
   | exact ih3 _ _ _ _ _ _ _ _ _ _ _ _ _ _ _ _ _ _ _
   | exact ih4 _ _ _ _ _ _ _ _ _ _ _ _ _ _ _ _ _ _ _ _ _ _ _ _ _
   | exact ih5 _ _ _ _ _ _ _ _ _ _ _ _ _ _ _ _ _ _ _ _ _ _ _ _ _ _ _ _ _ _ _ _ _
   | exact ih6 _ _ _ _ _ _ _ _ _ _ _ _ _ _ _ _ _ _ _ _ _ _ _ _ _ _ _ _ _ _ _ _ _ _ _
   | exact ih7 _ _ _ _ _ _ _ _ _ _ _ _ _ _
   | exact ambidexterref23_Runs.mono _ _
   | exact ambidextertop_head23.mono _
   | exact mintime_Duration.mono _ _ _ _ _
   | exact timetable_Duration.mono _ _
   | exact timetable_Sequential.mono _ _ _ _ _
   | exact LeO.none _
   | refine LeO.ite ?_ ?_
   | refine LeO.bind ?_ (fun _ => ?_)
  ·
   intro y0 y1 y2 y3 y4 y5 y6 y7 y8 y9 y10 y11 y12 y13 y14 y15 y16 y17 y18
   unfold ambidextertop_TopTimetable.j3
   repeat' first
   | (with_reducible exact ih0 _ _ _ _ _ _ _ _ _ _ _ _ _ _ _ _ _ _ _)
   | (with_reducible exact ih1 _ _ _ _ _ _ _ _ _ _ _ _ _ _ _)
   | (with_reducible exact ih2 _ _ _ _ _ _ _ _ _ _ _ _ _ _ _ _ _ _ _ _ _)
   | (with_reducible exact ih3 _ _ _ _ _ _ _ _ _ _ _ _ _ _ _ _ _ _ _)
   | (with_reducible exact ih4 _ _ _ _ _ _ _ _ _ _ _ _ _ _ _ _ _ _ _ _ _ _ _ _ _)
   | (with_reducible exact ih5 _ _ _ _ _ _ _ _ _ _ _ _ _ _ _ _ _ _ _ _ _ _ _ _ _ _ _ _ _ _ _ _ _)
   | (with_reducible exact ih6 _ _ _ _ _ _ _ _ _ _ _ _ _ _ _ _ _ _ _ _ _ _ _ _ _ _ _ _ _ _ _ _ _ _ _)
   | (with_reducible exact ih7 _ _ _ _ _ _ _ _ _ _ _ _ _ _)
   | (with_reducible exact ambidexterref23_Runs.mono _ _)
   | (with_reducible exact ambidextertop_head23.mono _)
   | (with_reducible exact mintime_Duration.mono _ _ _ _ _)
   | (with_reducible exact timetable_Duration.mono _ _)
   | (with_reducible exact timetable_Sequential.mono _ _ _ _ _)
   | (with_reducible exact LeO.refl _)
   | (with_reducible exact LeO.none _)
   | (with_reducible refine LeO.ite ?_ ?_)
   | (with_reducible refine LeO.bind ?_ (fun _ => ?_))
   | exact ih0 _ _ _ _ _ _ _ _ _ _ _ _ _ _ _ _ _ _ _
   | exact ih1 _ _ _ _ _ _ _ _ _ _ _ _ _ _ _
   | exact ih2 _ _ _ _ _ _ _ _ _ _ _ _ _ _ _ _ _ _ _ _ _
   | exact ih3 _ _ _ _ _ _ _ _ _ _ _ _ _ _ _ _ _ _ _
   | exact ih4 _ _ _ _ _ _ _ _ _ _ _ _ _ _ _ _ _ _ _ _ _ _ _ _ _
   | exact ih5 _ _ _ _ _ _ _ _ _ _ _ _ _ _ _ _ _ _ _ _ _ _ _ _ _ _ _ _ _ _ _ _ _
   | exact ih6 _ _ _ _ _ _ _ _ _ _ _ _ _ _ _ _ _ _ _ _ _ _ _ _ _ _ _ _ _ _ _ _ _ _ _
   | exact ih7 _ _ _ _ _ _ _ _ _ _ _ _ _ _
   | exact ambidexterref23_Runs.mono _ _
   | exact ambidextertop_head23.mono _
   | exact mintime_Duration.mono _ _ _ _ _
   | exact timetable_Duration.mono _ _
   | exact timetable_Sequential.mono _ _ _ _ _
   | exact LeO.none _
   | refine LeO.ite ?_ ?_
   | refine LeO.bind ?_ (fun _ => ?_)
  ·
   intro y0 y1 y2 y3 y4 y5 y6 y7 y8 y9 y10 y11 y12 y13 y14 y15 y16 y17 y18 y19 y20 y21 y22 y23 y24
   unfold ambidextertop_TopTimetable.l3
   repeat' first
   | (with_reducible exact ih0 _ _ _ _ _ _ _ _ _ _ _ _ _ _ _ _ _ _ _)
   | (with_reducible exact ih1 _ _ _ _ _ _ _ _ _ _ _ _ _ _ _)
   | (with_reducible exact ih2 _ _ _ _ _ _ _ _ _ _ _ _ _ _ _ _ _ _ _ _ _)
   | (with_reducible exact ih3 _ _ _ _ _ _ _ _ _ _ _ _ _ _ _ _ _ _ _)
   | (with_reducible exact ih4 _ _ _ _ _ _ _ _ _ _ _ _ _ _ _ _ _ _ _ _ _ _ _ _ _)
   | (with_reducible exact ih5 _ _ _ _ _ _ _ _ _ _ _ _ _ _ _ _ _ _ _ _ _ _ _ _ _ _ _ _ _ _ _ _ _)
   | (with_reducible exact ih6 _ _ _ _ _ _ _ _ _ _ _ _ _ _ _ _ _ _ _ _ _ _ _ _ _ _ _ _ _ _ _ _ _ _ _)
   | (with_reducible exact ih7 _ _ _ _ _ _ _ _ _ _ _ _ _ _)
   | (with_reducible exact ambidexterref23_Runs.mono _ _)
   | (with_reducible exact ambidextertop_head23.mono _)
   | (with_reducible exact mintime_Duration.mono _ _ _ _ _)
   | (with_reducible exact timetable_Duration.mono _ _)
   | (with_reducible exact timetable_Sequential.mono _ _ _ _ _)
   | (with_reducible exact LeO.refl _)
   | (with_reducible exact LeO.none _)
   | (with_reducible refine LeO.ite ?_ ?_)
   | (with_reducible refine LeO.bind ?_ (fun _ => ?_))
   | exact ih0 _ _ _ _ _ _ _ _ _ _ _ _ _ _ _ _ _ _ _
   | exact ih1 _ _ _ _ _ _ _ _ _ _ _ _ _ _ _
   | exact ih2 _ _ _ _ _ _ _ _ _ _ _ _ _ _ _ _ _ _ _ _ _
   | exact ih3 _ _ _ _ _ _ _ _ _ _ _ _ _ _ _ _ _ _ _
   | exact ih4 _ _ _ _ _ _ _ _ _ _ _ _ _ _ _ _ _ _ _ _ _ _ _ _ _
   | exact ih5 _ _ _ _ _ _ _ _ _ _ _ _ _ _ _ _ _ _ _ _ _ _ _ _ _ _ _ _ _ _ _ _ _
   | exact ih6 _ _ _ _ _ _ _ _ _ _ _ _ _ _ _ _ _ _ _ _ _ _ _ _ _ _ _ _ _ _ _ _ _ _ _
   | exact ih7 _ _ _ _ _ _ _ _ _ _ _ _ _ _
   | exact ambidexterref23_Runs.mono _ _
   | exact ambidextertop_head23.mono _
   | exact mintime_Duration.mono _ _ _ _ _
   | exact timetable_Duration.mono _ _
   | exact timetable_Sequential.mono _ _ _ _ _
   | exact LeO.none _
   | refine LeO.ite ?_ ?_
   | refine LeO.bind ?_ (fun _ => ?_)
  ·
   intro y0 y1 y2 y3 y4 y5 y6 y7 y8 y9 y10 y11 y12 y13 y14 y15 y16 y17 y18 y19 y20 y21 y22 y23 y24 y25 y26 y27 y28 y29 y30 y31 y32
   unfold ambidextertop_TopTimetable.l4
   repeat' first
   | (with_reducible exact ih0 _ _ _ _ _ _ _ _ _ _ _ _ _ _ _ _ _ _ _)
   | (with_reducible exact ih1 _ _ _ _ _ _ _ _ _ _ _ _ _ _ _)
   | (with_reducible exact ih2 _ _ _ _ _ _ _ _ _ _ _ _ _ _ _ _ _ _ _ _ _)
   | (with_reducible exact ih3 _ _ _ _ _ _ _ _ _ _ _ _ _ _ _ _ _ _ _)
   | (with_reducible exact ih4 _ _ _ _ _ _ _ _ _ _ _ _ _ _ _ _ _ _ _ _ _ _ _ _ _)
   | (with_reducible exact ih5 _ _ _ _ _ _ _ _ _ _ _ _ _ _ _ _ _ _ _ _ _ _ _ _ _ _ _ _ _ _ _ _ _)
   | (with_reducible exact ih6 _ _ _ _ _ _ _ _ _ _ _ _ _ _ _ _ _ _ _ _ _ _ _ _ _ _ _ _ _ _ _ _ _ _ _)
   | (with_reducible exact ih7 _ _ _ _ _ _ _ _ _ _ _ _ _ _)
   | (with_reducible exact ambidexterref23_Runs.mono _ _)
   | (with_reducible exact ambidextertop_head23.mono _)
   | (with_reducible exact mintime_Duration.mono _ _ _ _ _)
   | (with_reducible exact timetable_Duration.mono _ _)
   | (with_reducible exact timetable_Sequential.mono _ _ _ _ _)
   | (with_reducible exact LeO.refl _)
   | (with_reducible exact LeO.none _)
   | (with_reducible refine LeO.ite ?_ ?_)
   | (with_reducible refine LeO.bind ?_ (fun _ => ?_))
   | exact ih0 _ _ _ _ _ _ _ _ _ _ _ _ _ _ _ _ _ _ _
   | exact ih1 _ _ _ _ _ _ _ _ _ _ _ _ _ _ _
   | exact ih2 _ _ _ _ _ _ _ _ _ _ _ _ _ _ _ _ _ _ _ _ _
   | exact ih3 _ _ _ _ _ _ _ _ _ _ _ _ _ _ _ _ _ _ _
   | exact ih4 _ _ _ _ _ _ _ _ _ _ _ _ _ _ _ _ _ _ _ _ _ _ _ _ _
   | exact ih5 _ _ _ _ _ _ _ _ _ _ _ _ _ _ _ _ _ _ _ _ _ _ _ _ _ _ _ _ _ _ _ _ _
   | exact ih6 _ _ _ _ _ _ _ _ _ _ _ _ _ _ _ _ _ _ _ _ _ _ _ _ _ _ _ _ _ _ _ _ _ _ _
   | exact ih7 _ _ _ _ _ _ _ _ _ _ _ _ _ _
   | exact ambidexterref23_Runs.mono _ _
   | exact ambidextertop_head23.mono _
   | exact mintime_Duration.mono _ _ _ _ _
   | exact timetable_Duration.mono _ _
   | exact timetable_Sequential.mono _ _ _ _ _
   | exact LeO.none _
   | refine LeO.ite ?_ ?_
   | refine LeO.bind ?_ (fun _ => ?_)
  ·
   intro y0 y1 y2 y3 y4 y5 y6 y7 y8 y9 y10 y11 y12 y13 y14 y15 y16 y17 y18 y19 y20 y21 y22 y23 y24 y25 y26 y27 y28 y29 y30 y31 y32 y33 y34
   unfold ambidextertop_TopTimetable.j6
   repeat' first
   | (with_reducible exact ih0 _ _ _ _ _ _ _ _ _ _ _ _ _ _ _ _ _ _ _)
   | (with_reducible exact ih1 _ _ _ _ _ _ _ _ _ _ _ _ _ _ _)
   | (with_reducible exact ih2 _ _ _ _ _ _ _ _ _ _ _ _ _ _ _ _ _ _ _ _ _)
   | (with_reducible exact ih3 _ _ _ _ _ _ _ _ _ _ _ _ _ _ _ _ _ _ _)
   | (with_reducible exact ih4 _ _ _ _ _ _ _ _ _ _ _ _ _ _ _ _ _ _ _ _ _ _ _ _ _)
   | (with_reducible exact ih5 _ _ _ _ _ _ _ _ _ _ _ _ _ _ _ _ _ _ _ _ _ _ _ _ _ _ _ _ _ _ _ _ _)
   | (with_reducible exact ih6 _ _ _ _ _ _ _ _ _ _ _ _ _ _ _ _ _ _ _ _ _ _ _ _ _ _ _ _ _ _ _ _ _ _ _)
   | (with_reducible exact ih7 _ _ _ _ _ _ _ _ _ _ _ _ _ _)
   | (with_reducible exact ambidexterref23_Runs.mono _ _)
   | (with_reducible exact ambidextertop_head23.mono _)
   | (with_reducible exact mintime_Duration.mono _ _ _ _ _)
   | (with_reducible exact timetable_Duration.mono _ _)
   | (with_reducible exact timetable_Sequential.mono _ _ _ _ _)
   | (with_reducible exact LeO.refl _)
   | (with_reducible exact LeO.none _)
   | (with_reducible refine LeO.ite ?_ ?_)
   | (with_reducible refine LeO.bind ?_ (fun _ => ?_))
   | exact ih0 _ _ _ _ _ _ _ _ _ _ _ _ _ _ _ _ _ _ _
   | exact ih1 _ _ _ _ _ _ _ _ _ _ _ _ _ _ _
   | exact ih2 _ _ _ _ _ _ _ _ _ _ _ _ _ _ _ _ _ _ _ _ _
   | exact ih3 _ _ _ _ _ _ _ _ _ _ _ _ _ _ _ _ _ _ _
   | exact ih4 _ _ _ _ _ _ _ _ _ _ _ _ _ _ _ _ _ _ _ _ _ _ _ _ _
   | exact ih5 _ _ _ _ _ _ _ _ _ _ _ _ _ _ _ _ _ _ _ _ _ _ _ _ _ _ _ _ _ _ _ _ _
   | exact ih6 _ _ _ _ _ _ _ _ _ _ _ _ _ _ _ _ _ _ _ _ _ _ _ _ _ _ _ _ _ _ _ _ _ _ _
   | exact ih7 _ _ _ _ _ _ _ _ _ _ _ _ _ _
   | exact ambidexterref23_Runs.mono _ _
   | exact ambidextertop_head23.mono _
   | exact mintime_Duration.mono _ _ _ _ _
   | exact timetable_Duration.mono _ _
   | exact timetable_Sequential.mono _ _ _ _ _
   | exact LeO.none _
   | refine LeO.ite ?_ ?_
   | refine LeO.bind ?_ (fun _ => ?_)
  ·
   intro y0 y1 y2 y3 y4 y5 y6 y7 y8 y9 y10 y11 y12 y13
   unfold ambidextertop_TopTimetable.l5
   repeat' first
   | (with_reducible exact ih0 _ _ _ _ _ _ _ _ _ _ _ _ _ _ _ _ _ _ _)
   | (with_reducible exact ih1 _ _ _ _ _ _ _ _ _ _ _ _ _ _ _)
   | (with_reducible exact ih2 _ _ _ _ _ _ _ _ _ _ _ _ _ _ _ _ _ _ _ _ _)
   | (with_reducible exact ih3 _ _ _ _ _ _ _ _ _ _ _ _ _ _ _ _ _ _ _)
   | (with_reducible exact ih4 _ _ _ _ _ _ _ _ _ _ _ _ _ _ _ _ _ _ _ _ _ _ _ _ _)
   | (with_reducible exact ih5 _ _ _ _ _ _ _ _ _ _ _ _ _ _ _ _ _ _ _ _ _ _ _ _ _ _ _ _ _ _ _ _ _)
   | (with_reducible exact ih6 _ _ _ _ _ _ _ _ _ _ _ _ _ _ _ _ _ _ _ _ _ _ _ _ _ _ _ _ _ _ _ _ _ _ _)
   | (with_reducible exact ih7 _ _ _ _ _ _ _ _ _ _ _ _ _ _)
   | (with_reducible exact ambidexterref23_Runs.mono _ _)
   | (with_reducible exact ambidextertop_head23.mono _)
   | (with_reducible exact mintime_Duration.mono _ _ _ _ _)
   | (with_reducible exact timetable_Duration.mono _ _)
   | (with_reducible exact timetable_Sequential.mono _ _ _ _ _)
   | (with_reducible exact LeO.refl _)
   | (with_reducible exact LeO.none _)
   | (with_reducible refine LeO.ite ?_ ?_)
   | (with_reducible refine LeO.bind ?_ (fun _ => ?_))
   | exact ih0 _ _ _ _ _ _ _ _ _ _ _ _ _ _ _ _ _ _ _
   | exact ih1 _ _ _ _ _ _ _ _ _ _ _ _ _ _ _
   | exact ih2 _ _ _ _ _ _ _ _ _ _ _ _ _ _ _ _ _ _ _ _ _
   | exact ih3 _ _ _ _ _ _ _ _ _ _ _ _ _ _ _ _ _ _ _
   | exact ih4 _ _ _ _ _ _ _ _ _ _ _ _ _ _ _ _ _ _ _ _ _ _ _ _ _
   | exact ih5 _ _ _ _ _ _ _ _ _ _ _ _ _ _ _ _ _ _ _ _ _ _ _ _ _ _ _ _ _ _ _ _ _
   | exact ih6 _ _ _ _ _ _ _ _ _ _ _ _ _ _ _ _ _ _ _ _ _ _ _ _ _ _ _ _ _ _ _ _ _ _ _
   | exact ih7 _ _ _ _ _ _ _ _ _ _ _ _ _ _
   | exact ambidexterref23_Runs.mono _ _
   | exact ambidextertop_head23.mono _
   | exact mintime_Duration.mono _ _ _ _ _
   | exact timetable_Duration.mono _ _
   | exact timetable_Sequential.mono _ _ _ _ _
   | exact LeO.none _
   | refine LeO.ite ?_ ?_
   | refine LeO.bind ?_ (fun _ => ?_)
theorem ambidextertop_TopTimetable.mono : ∀ a0 a1 a2 a3 a4 a5 a6 a7 a8 a9 k, LeO (ambidextertop_TopTimetable.f k a0 a1 a2 a3 a4 a5 a6 a7 a8 a9) (ambidextertop_TopTimetable.f (k + 1) a0 a1 a2 a3 a4 a5 a6 a7 a8 a9) := by
 intro a0 a1 a2 a3 a4 a5 a6 a7 a8 a9 k
 obtain ⟨ih0, ih1, ih2, ih3, ih4, ih5, ih6, ih7⟩ := ambidextertop_TopTimetable.mono_l k
 unfold ambidextertop_TopTimetable.f
 repeat' first
   | (with_reducible exact ih0 _ _ _ _ _ _ _ _ _ _ _ _ _ _ _ _ _ _ _)
   | (with_reducible exact ih1 _ _ _ _ _ _ _ _ _ _ _ _ _ _ _)
   | (with_reducible exact ih2 _ _ _ _ _ _ _ _ _ _ _ _ _ _ _ _ _ _ _ _ _)
   | (with_reducible exact ih3 _ _ _ _ _ _ _ _ _ _ _ _ _ _ _ _ _ _ _)
   | (with_reducible exact ih4 _ _ _ _ _ _ _ _ _ _ _ _ _ _ _ _ _ _ _ _ _ _ _ _ _)
   | (with_reducible exact ih5 _ _ _ _ _ _ _ _ _ _ _ _ _ _ _ _ _ _ _ _ _ _ _ _ _ _ _ _ _ _ _ _ _)
   | (with_reducible exact ih6 _ _ _ _ _ _ _ _ _ _ _ _ _ _ _ _ _ _ _ _ _ _ _ _ _ _ _ _ _ _ _ _ _ _ _)
   | (with_reducible exact ih7 _ _ _ _ _ _ _ _ _ _ _ _ _ _)
   | (with_reducible exact ambidexterref23_Runs.mono _ _)
   | (with_reducible exact ambidextertop_head23.mono _)
   | (with_reducible exact mintime_Duration.mono _ _ _ _ _)
   | (with_reducible exact timetable_Duration.mono _ _)
   | (with_reducible exact timetable_Sequential.mono _ _ _ _ _)
   | (with_reducible exact LeO.refl _)
   | (with_reducible exact LeO.none _)
   | (with_reducible refine LeO.ite ?_ ?_)
   | (with_reducible refine LeO.bind ?_ (fun _ => ?_))
   | exact ih0 _ _ _ _ _ _ _ _ _ _ _ _ _ _ _ _ _ _ _
   | exact ih1 _ _ _ _ _ _ _ _ _ _ _ _ _ _ _
   | exact ih2 _ _ _ _ _ _ _ _ _ _ _ _ _ _ _ _ _ _ _ _ _
   | exact ih3 _ _ _ _ _ _ _ _ _ _ _ _ _ _ _ _ _ _ _
   | exact ih4 _ _ _ _ _ _ _ _ _ _ _ _ _ _ _ _ _ _ _ _ _ _ _ _ _
   | exact ih5 _ _ _ _ _ _ _ _ _ _ _ _ _ _ _ _ _ _ _ _ _ _ _ _ _ _ _ _ _ _ _ _ _
   | exact ih6 _ _ _ _ _ _ _ _ _ _ _ _ _ _ _ _ _ _ _ _ _ _ _ _ _ _ _ _ _ _ _ _ _ _ _
   | exact ih7 _ _ _ _ _ _ _ _ _ _ _ _ _ _
   | exact ambidexterref23_Runs.mono _ _
   | exact ambidextertop_head23.mono _
   | exact mintime_Duration.mono _ _ _ _ _
   | exact timetable_Duration.mono _ _
   | exact timetable_Sequential.mono _ _ _ _ _
   | exact LeO.none _
   | refine LeO.ite ?_ ?_
   | refine LeO.bind ?_ (fun _ => ?_)
def ambidextertop_TopTimetable.T12 : Bool × List (List Nat × List Nat) := (true, [([], []), ([0], [0]), ([], []), ([2], [2]), ([], []), ([4], [4]), ([], []), ([6], [6]), ([5], [5]), ([8, 7], [7, 8]), ([9], [9]), ([10], [10]), ([11], [11]), ([12], [12]), ([1], [1]), ([14, 3, 0, 1, 2, 3, 4, 5, 6, 7, 8, 9, 10, 11, 12, 13], [3, 14]), ([15, 13, 0, 1, 2, 3, 4, 5, 6, 7, 8, 9, 10, 11, 12, 13], [13, 15])])
def ambidextertop_TopTimetable.B12 : List Nat := [0, 1, 0, 4, 0, 16, 0, 64, 48, 496, 1008, 2032, 4080, 8176, 3, 32767, 65535]
theorem ambidextertop_TopTimetable.tab12 : rtab .any (opsOf Try.f5 12) = ambidextertop_TopTimetable.T12 := by kernel_rfl
theorem ambidextertop_TopTimetable.bits12 : waitsOk ambidextertop_TopTimetable.T12.2 ambidextertop_TopTimetable.B12 = true := by kernel_rfl
def ambidextertop_TopTimetable.T18 : Bool × List (List Nat × List Nat) := (true, [([], []), ([], []), ([], []), ([1, 2], [1, 2]), ([3], [3]), ([4], [4]), ([5], [5]), ([0, 6], [0, 6]), ([7], [7]), ([8], [8]), ([8], [8]), ([9, 7, 0, 1, 2, 3, 4, 5, 6, 7, 8, 9], [9]), ([10, 11, 0, 1, 2, 3, 4, 5, 6, 7, 8, 9, 10, 11], [10])])
def ambidextertop_TopTimetable.B18 : List Nat := [0, 0, 0, 6, 14, 30, 62, 127, 255, 511, 511, 1023, 4095]
theorem ambidextertop_TopTimetable.tab18 : rtab .any (opsOf Try.f5 18) = ambidextertop_TopTimetable.T18 := by kernel_rfl
theorem ambidextertop_TopTimetable.bits18 : waitsOk ambidextertop_TopTimetable.T18.2 ambidextertop_TopTimetable.B18 = true := by kernel_rfl
def ambidextertop_TopTimetable.T26 : Bool × List (List Nat × List Nat) := (true, [([], []), ([], []), ([0, 1], [0, 1]), ([2], [2]), ([3], [3]), ([], []), ([], []), ([5, 6], [5, 6]), ([7], [7]), ([8], [8]), ([], []), ([], []), ([10, 11], [10, 11]), ([12], [12]), ([13], [13]), ([], []), ([], []), ([15, 16], [15, 16]), ([17], [17]), ([18], [18]), ([14], [14]), ([20, 19], [19, 20]), ([21], [21]), ([], []), ([], []), ([23, 24], [23, 24]), ([25], [25]), ([26], [26]), ([22, 27], [22, 27]), ([4], [4]), ([29, 9, 0, 1, 2, 3, 4, 5, 6, 7, 8, 9, 10, 11, 12, 13, 14, 15, 16, 17, 18, 19, 20, 21, 22, 23, 24, 25, 26, 27, 28], [9, 29]), ([30, 28, 0, 1, 2, 3, 4, 5, 6, 7, 8, 9, 10, 11, 12, 13, 14, 15, 16, 17, 18, 19, 20, 21, 22, 23, 24, 25, 26, 27, 28], [28, 30])])
def ambidextertop_TopTimetable.B26 : List Nat := [0, 0, 3, 7, 15, 0, 0, 96, 224, 480, 0, 0, 3072, 7168, 15360, 0, 0, 98304, 229376, 491520, 31744, 2096128, 4193280, 0, 0, 25165824, 58720256, 125829120, 268434432, 31, 1073741823, 2147483647]
theorem ambidextertop_TopTimetable.tab26 : rtab .any (opsOf Try.f5 26) = ambidextertop_TopTimetable.T26 := by kernel_rfl
theorem ambidextertop_TopTimetable.bits26 : waitsOk ambidextertop_TopTimetable.T26.2 ambidextertop_TopTimetable.B26 = true := by kernel_rfl
def ambidextertop_TopTimetable.T38 : Bool × List (List Nat × List Nat) := (true, [([], []), ([0], [0]), ([], []), ([2], [2]), ([1], [1]), ([4, 3], [3, 4]), ([5], [5]), ([], []), ([7], [7]), ([], []), ([9], [9]), ([8], [8]), ([11, 10], [10, 11]), ([12], [12]), ([6, 13], [6, 13]), ([14, 0, 1, 2, 3, 4, 5, 6, 7, 8, 9, 10, 11, 12, 13, 14], [14])])
def ambidextertop_TopTimetable.B38 : List Nat := [0, 1, 0, 4, 3, 31, 63, 0, 128, 0, 512, 384, 3968, 8064, 16383, 32767]
theorem ambidextertop_TopTimetable.tab38 : rtab .any (opsOf Try.f5 38) = ambidextertop_TopTimetable.T38 := by kernel_rfl
theorem ambidextertop_TopTimetable.bits38 : waitsOk ambidextertop_TopTimetable.T38.2 ambidextertop_TopTimetable.B38 = true := by kernel_rfl
def ambidextertop_TopTimetable.T49 : Bool × List (List Nat × List Nat) := (true, [([], []), ([0], [0]), ([], []), ([2], [2]), ([1], [1]), ([4, 3], [3, 4]), ([5], [5]), ([], []), ([7], [7]), ([], []), ([9], [9]), ([8], [8]), ([11, 10], [10, 11]), ([12], [12]), ([13], [13]), ([6, 14], [6, 14])])
def ambidextertop_TopTimetable.B49 : List Nat := [0, 1, 0, 4, 3, 31, 63, 0, 128, 0, 512, 384, 3968, 8064, 16256, 32767]
theorem ambidextertop_TopTimetable.tab49 : rtab .any (opsOf Try.f5 49) = ambidextertop_TopTimetable.T49 := by kernel_rfl
theorem ambidextertop_TopTimetable.bits49 : waitsOk ambidextertop_TopTimetable.T49.2 ambidextertop_TopTimetable.B49 = true := by kernel_rfl
end Go.Proofs.Ytmmaodlngnjmlaa.P
