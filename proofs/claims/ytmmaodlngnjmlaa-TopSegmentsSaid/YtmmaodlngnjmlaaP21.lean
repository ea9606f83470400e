-- Written by this session's own program, for this seat. Lean checks it.
import Derived.Test.YtmmaodlngnjmlaaP0
import Derived.Test.YtmmaodlngnjmlaaP1
import Derived.Test.YtmmaodlngnjmlaaP3
import Derived.Test.YtmmaodlngnjmlaaP4
namespace Go.Proofs.Ytmmaodlngnjmlaa.P
open Go.RowKit Go.Proofs.YtmmaodlngnjmlaaW.PrintWords Go.Proofs.YtmmaodlngnjmlaaW.PrintLast Go.Proofs.YtmmaodlngnjmlaaW.PrintMore
attribute [local go_sem] max2_int min2_int max_two min_two max_three min_three max_four min_four   -- for this text's walks alone
set_option linter.unusedVariables false
set_option linter.unusedSimpArgs false

attribute [local go_sem high] eqA65

/-! ### ambidextertop_head23: function 26 -/
def ambidextertop_head23.f (k : Nat)  : Option (Bool) := (timetable_Sequential.f k 8 4 2 (([(⟨1, 2, (-1)⟩ : S63), (⟨1, 2, (-1)⟩ : S63), (⟨0, 0, 1⟩ : S63)] : List (S63)))).bind fun bt220 => ((mintime_Duration.f k 8 4 2 24).bind fun bt224 => ((mintime_Duration.f k 8 4 2 12).bind fun bt226 => (if (bt220.1.length : Int) = 2 then ((timetable_PositionsAt.f 1 0 0 0 0 3 bt220.1 bt224.1).bind fun bt228 => (if bt220.2 = 0 then (if bt224.2 = true then (if bt226.2 = true then (if 0 < (bt220.1.length : Int) then (if ((((rd_T67 bt220.1 0).f0.f0.f0) == 1 && (((rd_T67 bt220.1 0).f0.f0.f1) == 2 && (((rd_T67 bt220.1 0).f0.f0.f2) == (-1)))) && (((rd_T67 bt220.1 0).f0.f1) == 2)) = true then (if 1 < (bt220.1.length : Int) then (if ((rd_T67 bt220.1 1).f1) = bt224.1 then ((timetable_Duration.f k bt220.1).bind fun t237 => (if t237 = (wrap64 (bt224.1 + bt226.1)) then (if bt228.2.2.2.2.2 = 12 then (if bt228.1 = 12 then ((profile_ValidLimits.f 8 4 2).bind fun t238 => (some t238)) else (some false)) else (some false)) else (some false))) else (some false)) else (none)) else (some false)) else (none)) else (some false)) else (some false)) else (some false))) else (some false))))
theorem ambidextertop_head23.mono : ∀ k, LeO (ambidextertop_head23.f k ) (ambidextertop_head23.f (k + 1) ) := by
 intro  k
 unfold ambidextertop_head23.f
 repeat' first
   | (with_reducible exact mintime_Duration.mono _ _ _ _ _)
   | (with_reducible exact timetable_Duration.mono _ _)
   | (with_reducible exact timetable_Sequential.mono _ _ _ _ _)
   | (with_reducible exact LeO.refl _)
   | (with_reducible exact LeO.none _)
   | (with_reducible refine LeO.ite ?_ ?_)
   | (with_reducible refine LeO.bind ?_ (fun _ => ?_))
   | exact mintime_Duration.mono _ _ _ _ _
   | exact timetable_Duration.mono _ _
   | exact timetable_Sequential.mono _ _ _ _ _
   | exact LeO.none _
   | refine LeO.ite ?_ ?_
   | refine LeO.bind ?_ (fun _ => ?_)
def ambidextertop_head23.T9 : Bool × List (List Nat × List Nat) := (true, [([], []), ([0], [0]), ([1], [1]), ([2], [2]), ([2, 3], [2, 3]), ([4, 2], [4]), ([5], [5]), ([5, 6], [5, 6]), ([7, 5], [7]), ([8], [8]), ([9, 8], [8, 9]), ([10, 8], [8, 10]), ([11, 8], [8, 11]), ([8], [8]), ([13, 8], [8, 13]), ([12, 14, 8], [8, 12, 14]), ([8, 15], [8, 15]), ([16, 8], [16]), ([17], [17]), ([18, 17], [17, 18]), ([19, 17], [17, 19]), ([20, 17], [17, 20]), ([17], [17]), ([21, 22, 17], [17, 21, 22]), ([17, 23], [17, 23]), ([24, 17], [24]), ([25], [25]), ([26, 25, 25], [25, 26]), ([25], [25]), ([25], [25]), ([28, 29, 25], [25, 28, 29]), ([27, 30, 25], [25, 27, 30]), ([25, 31], [25, 31]), ([32, 27], [32]), ([33], [33]), ([34, 33], [33, 34]), ([35, 33], [33, 35]), ([36, 33], [33, 36]), ([33, 37], [33, 37]), ([38, 33], [38]), ([39], [39]), ([40, 39], [39, 40]), ([41, 39], [39, 41]), ([42, 39], [39, 42]), ([39, 43], [39, 43]), ([44, 39], [44]), ([45], [45]), ([46, 45, 45], [45, 46]), ([45, 47], [45, 47]), ([48, 47, 0, 1, 2, 3, 4, 5, 6, 7, 8, 9, 10, 11, 12, 13, 14, 15, 16, 17, 18, 19, 20, 21, 22, 23, 24, 25, 26, 27, 28, 29, 30, 31, 32, 33, 34, 35, 36, 37, 38, 39, 40, 41, 42, 43, 44, 45, 46, 47, 48], [48])])
def ambidextertop_head23.B9 : List Nat := [0, 1, 3, 7, 15, 31, 63, 127, 255, 511, 1023, 2047, 4095, 511, 8703, 32767, 65535, 131071, 262143, 524287, 1048575, 2097151, 262143, 8388607, 16777215, 33554431, 67108863, 134217727, 67108863, 67108863, 872415231, 2147483647, 4294967295, 8589934591, 17179869183, 34359738367, 68719476735, 137438953471, 274877906943, 549755813887, 1099511627775, 2199023255551, 4398046511103, 8796093022207, 17592186044415, 35184372088831, 70368744177663, 140737488355327, 281474976710655, 562949953421311]
theorem ambidextertop_head23.tab9 : rtab .any (opsOf Try.f26 9) = ambidextertop_head23.T9 := by kernel_rfl
theorem ambidextertop_head23.bits9 : waitsOk ambidextertop_head23.T9.2 ambidextertop_head23.B9 = true := by kernel_rfl
end Go.Proofs.Ytmmaodlngnjmlaa.P
