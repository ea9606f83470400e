-- Written by this session's own program, for this seat. Lean checks it.
import Derived.Test.YtmmaodlngnjmlaaP0
import Derived.Test.YtmmaodlngnjmlaaP1
import Derived.Test.YtmmaodlngnjmlaaP4
import Derived.Test.YtmmaodlngnjmlaaP5
import Derived.Test.YtmmaodlngnjmlaaP6
import Derived.Test.YtmmaodlngnjmlaaXFar2
namespace Go.Proofs.Ytmmaodlngnjmlaa.P
open Go.RowKit Go.Proofs.YtmmaodlngnjmlaaW.PrintWords Go.Proofs.YtmmaodlngnjmlaaW.PrintLast Go.Proofs.YtmmaodlngnjmlaaW.PrintMore
attribute [local go_sem] max2_int min2_int max_two min_two max_three min_three max_four min_four   -- for this text's walks alone
set_option linter.unusedVariables false
set_option linter.unusedSimpArgs false

attribute [local go_sem high] eqA69

/-! ### ambidexterlaw23_head: function 31 -/
def ambidexterlaw23_head.j0 : Nat → List (S63) → List (S65) → List (S67) → Int → Int → Bool → List (S67) → Int → Int → Int → List (S67) → Int → Int → Bool → Int → Int → Int → Option (Bool)
 | 0, _, _, _, _, _, _, _, _, _, _, _, _, _, _, _, _, _ => none
 | k + 1, x1, x3, x4, x5, x6, x7, x8, x9, x11, x13, x14, x15, x17, x87, x223000, x223001, x223002 => if x87 = true then (some false) else ((timetable_PositionsAt.f 1 2 3 0 0 0 x4 2000).bind fun bt272 => (if 0 < (x1.length : Int) then (if 2 < (x1.length : Int) then ((ambidexterref23_SameRuns.f k x3 (([(⟨(⟨(rd_T63 x1 0).f0, (rd_T63 x1 0).f1, (rd_T63 x1 0).f2⟩ : S63), 2⟩ : S65), (⟨(⟨(rd_T63 x1 2).f0, (rd_T63 x1 2).f1, (rd_T63 x1 2).f2⟩ : S63), 1⟩ : S65)] : List (S65)))).bind fun t284 => (if t284 = true then (if x5 = 0 then (if x7 = true then (if 0 < (x4.length : Int) then (if ((rd_T67 x4 0).f1) = 0 then (if (((rd_T67 x4 0).f2).length : Int) = x6 then (if 1 < (x4.length : Int) then (if ((rd_T67 x4 1).f1) = x6 then (if (x8.length : Int) = 0 then (if x9 = 0 then ((timetable_Duration.f k x8).bind fun t288 => (if t288 = 0 then (if x11 = 1 then (if x13 = 1 then (if x15 = 0 then (if 0 < (x14.length : Int) then (if ((rd_T67 x14 0).f1) = 0 then (if 1 < (x14.length : Int) then (if ((rd_T67 x14 1).f1) = 0 then (if ((rd_T67 x14 1).f0.f0.f0) = 1 then (if x17 = 1 then (if ((bt272.1 == 36 && (bt272.2.1 == 12 && (bt272.2.2.1 == 36))) && ((bt272.2.2.2.1 == 0 && (bt272.2.2.2.2.1 == 0 && (bt272.2.2.2.2.2 == 0))))) = true then ((profile_ValidLimits.f x223000 x223001 x223002).bind fun t292 => (some t292)) else (some false)) else (some false)) else (some false)) else (some false)) else (none)) else (some false)) else (none)) else (some false)) else (some false)) else (some false)) else (some false))) else (some false)) else (some false)) else (some false)) else (none)) else (some false)) else (some false)) else (none)) else (some false)) else (some false)) else (some false))) else (none)) else (none)))
def ambidexterlaw23_head.f (k : Nat)  : Option (Bool) := (some (([(⟨0, 0, 1⟩ : S63), (⟨0, 0, 1⟩ : S63), (⟨0, 1, (-1)⟩ : S63)] : List (S63)) : List (S63))).bind fun y219 => ((timetable_GroupMoves.f k y219).bind fun t223 => ((timetable_Sequential.f k 8 4 2 y219).bind fun bt226 => ((mintime_Duration.f k 8 4 2 24).bind fun bt230 => ((timetable_Sequential.f k 8 4 2 ([] : List (S63))).bind fun bt232 => ((timetable_Sequential.f k 9 4 2 y219).bind fun bt236 => ((timetable_Sequential.f k 8 4 2 (([(⟨0, 3, 1⟩ : S63)] : List (S63)))).bind fun bt243 => (if 1 ≤ (y219.length : Int) then ((timetable_Coordinated.f k 8 4 2 8 4 2 (y219.take 1) (([(⟨1, 0, 1⟩ : S63)] : List (S63))) (([(⟨true, true⟩ : S91)] : List (S91)))).bind fun bt257 => ((timetable_Coordinated.f k 8 4 2 8 4 2 (y219.take 1) ([] : List (S63)) (([(⟨false, false⟩ : S91), (⟨true, false⟩ : S91)] : List (S91)))).bind fun bt268 => (if (bt226.1.length : Int) = 2 then (ambidexterlaw23_head.j0 k y219 t223 bt226.1 bt226.2 bt230.1 bt230.2 bt232.1 bt232.2 bt236.2 bt243.2 bt257.1 bt257.2 bt268.2 ((bt257.1.length : Int) != 2) 8 4 2) else (ambidexterlaw23_head.j0 k y219 t223 bt226.1 bt226.2 bt230.1 bt230.2 bt232.1 bt232.2 bt236.2 bt243.2 bt257.1 bt257.2 bt268.2 true 8 4 2)))) else (none))))))))
theorem ambidexterlaw23_head.mono_l : ∀ k, (∀ y0 y1 y2 y3 y4 y5 y6 y7 y8 y9 y10 y11 y12 y13 y14 y15 y16, LeO (ambidexterlaw23_head.j0 k y0 y1 y2 y3 y4 y5 y6 y7 y8 y9 y10 y11 y12 y13 y14 y15 y16) (ambidexterlaw23_head.j0 (k + 1) y0 y1 y2 y3 y4 y5 y6 y7 y8 y9 y10 y11 y12 y13 y14 y15 y16))
 | 0 => fun _ _ _ _ _ _ _ _ _ _ _ _ _ _ _ _ _ r h => by simp [ambidexterlaw23_head.j0] at h
 | k + 1 => by
  have ih0 := ambidexterlaw23_head.mono_l k
  ·
   intro y0 y1 y2 y3 y4 y5 y6 y7 y8 y9 y10 y11 y12 y13 y14 y15 y16
   unfold ambidexterlaw23_head.j0
   repeat' first
   | (with_reducible exact ih0 _ _ _ _ _ _ _ _ _ _ _ _ _ _ _ _ _)
   | (with_reducible exact ambidexterref23_SameRuns.mono _ _ _)
   | (with_reducible exact mintime_Duration.mono _ _ _ _ _)
   | (with_reducible exact timetable_Coordinated.mono _ _ _ _ _ _ _ _ _ _)
   | (with_reducible exact timetable_Duration.mono _ _)
   | (with_reducible exact timetable_GroupMoves.mono _ _)
   | (with_reducible exact timetable_Sequential.mono _ _ _ _ _)
   | (with_reducible exact LeO.refl _)
   | (with_reducible exact LeO.none _)
   | (with_reducible refine LeO.ite ?_ ?_)
   | (with_reducible refine LeO.bind ?_ (fun _ => ?_))
   | exact ih0 _ _ _ _ _ _ _ _ _ _ _ _ _ _ _ _ _
   | exact ambidexterref23_SameRuns.mono _ _ _
   | exact mintime_Duration.mono _ _ _ _ _
   | exact timetable_Coordinated.mono _ _ _ _ _ _ _ _ _ _
   | exact timetable_Duration.mono _ _
   | exact timetable_GroupMoves.mono _ _
   | exact timetable_Sequential.mono _ _ _ _ _
   | exact LeO.none _
   | refine LeO.ite ?_ ?_
   | refine LeO.bind ?_ (fun _ => ?_)
theorem ambidexterlaw23_head.mono : ∀ k, LeO (ambidexterlaw23_head.f k ) (ambidexterlaw23_head.f (k + 1) ) := by
 intro  k
 have ih0 := ambidexterlaw23_head.mono_l k
 unfold ambidexterlaw23_head.f
 repeat' first
   | (with_reducible exact ih0 _ _ _ _ _ _ _ _ _ _ _ _ _ _ _ _ _)
   | (with_reducible exact ambidexterref23_SameRuns.mono _ _ _)
   | (with_reducible exact mintime_Duration.mono _ _ _ _ _)
   | (with_reducible exact timetable_Coordinated.mono _ _ _ _ _ _ _ _ _ _)
   | (with_reducible exact timetable_Duration.mono _ _)
   | (with_reducible exact timetable_GroupMoves.mono _ _)
   | (with_reducible exact timetable_Sequential.mono _ _ _ _ _)
   | (with_reducible exact LeO.refl _)
   | (with_reducible exact LeO.none _)
   | (with_reducible refine LeO.ite ?_ ?_)
   | (with_reducible refine LeO.bind ?_ (fun _ => ?_))
   | exact ih0 _ _ _ _ _ _ _ _ _ _ _ _ _ _ _ _ _
   | exact ambidexterref23_SameRuns.mono _ _ _
   | exact mintime_Duration.mono _ _ _ _ _
   | exact timetable_Coordinated.mono _ _ _ _ _ _ _ _ _ _
   | exact timetable_Duration.mono _ _
   | exact timetable_GroupMoves.mono _ _
   | exact timetable_Sequential.mono _ _ _ _ _
   | exact LeO.none _
   | refine LeO.ite ?_ ?_
   | refine LeO.bind ?_ (fun _ => ?_)
def ambidexterlaw23_head.T9 : Bool × List (List Nat × List Nat) := (true, [([], []), ([], []), ([0, 1], [0, 1]), ([], []), ([3], [3]), ([], []), ([5], [5]), ([], []), ([7], [7]), ([2, 4, 6, 8], [2, 4, 6, 8]), ([9], [9]), ([10], [10]), ([10], [10]), ([11, 9, 0, 1, 2, 3, 4, 5, 6, 7, 8, 9, 10, 11], [11]), ([12, 13, 0, 1, 2, 3, 4, 5, 6, 7, 8, 9, 10, 11, 12, 13], [12])])
def ambidexterlaw23_head.B9 : List Nat := [0, 0, 3, 0, 8, 0, 32, 0, 128, 511, 1023, 2047, 2047, 4095, 16383]
theorem ambidexterlaw23_head.tab9 : rtab .any (opsOf Try.f31 9) = ambidexterlaw23_head.T9 := by kernel_rfl
theorem ambidexterlaw23_head.bits9 : waitsOk ambidexterlaw23_head.T9.2 ambidexterlaw23_head.B9 = true := by kernel_rfl
def ambidexterlaw23_head.T10 : Bool × List (List Nat × List Nat) := (true, [([], []), ([], []), ([0, 1], [0, 1]), ([], []), ([3], [3]), ([], []), ([], []), ([5, 6], [5, 6]), ([2, 4, 7], [2, 4, 7]), ([8], [8]), ([9], [9]), ([9], [9]), ([10, 8, 0, 1, 2, 3, 4, 5, 6, 7, 8, 9, 10], [10]), ([11, 12, 0, 1, 2, 3, 4, 5, 6, 7, 8, 9, 10, 11, 12], [11])])
def ambidexterlaw23_head.B10 : List Nat := [0, 0, 3, 0, 8, 0, 0, 96, 255, 511, 1023, 1023, 2047, 8191]
theorem ambidexterlaw23_head.tab10 : rtab .any (opsOf Try.f31 10) = ambidexterlaw23_head.T10 := by kernel_rfl
theorem ambidexterlaw23_head.bits10 : waitsOk ambidexterlaw23_head.T10.2 ambidexterlaw23_head.B10 = true := by kernel_rfl
def ambidexterlaw23_head.T14 : Bool × List (List Nat × List Nat) := (true, [([], []), ([], []), ([1], [1]), ([2], [2]), ([3], [3]), ([], []), ([5], [5]), ([6], [6]), ([7], [7]), ([4, 8], [4, 8]), ([0, 9], [0, 9]), ([10, 10], [10]), ([11], [11]), ([12, 11], [11, 12]), ([11, 13], [11, 13]), ([14, 11], [14]), ([15], [15]), ([15, 16], [15, 16]), ([17, 15], [17]), ([18], [18]), ([19, 18], [18, 19]), ([20, 18], [18, 20]), ([21, 18], [18, 21]), ([22, 18], [18, 22]), ([18, 23], [18, 23]), ([24, 18], [24]), ([25], [25]), ([26, 25], [25, 26]), ([27, 25], [25, 27]), ([28, 25], [25, 28]), ([29, 25], [25, 29]), ([25], [25]), ([30, 31, 25], [25, 30, 31]), ([25, 32], [25, 32]), ([33, 25], [33]), ([34], [34]), ([35, 34], [34, 35]), ([36, 34], [34, 36]), ([37, 34], [34, 37]), ([34], [34]), ([38, 39, 34], [34, 38, 39]), ([34, 40], [34, 40]), ([41, 34], [41]), ([42], [42]), ([43, 42], [42, 43]), ([44, 42], [42, 44]), ([42, 45], [42, 45]), ([46, 42], [46]), ([47], [47]), ([48, 47], [47, 48]), ([47, 49], [47, 49]), ([50, 47], [50]), ([51], [51]), ([52, 51, 51], [51, 52]), ([53, 51], [51, 53]), ([51, 54], [51, 54]), ([55, 53], [55]), ([56], [56]), ([57, 56], [56, 57]), ([56, 58], [56, 58]), ([59, 56], [59]), ([60], [60]), ([61, 60], [60, 61]), ([60, 62], [60, 62]), ([63, 60], [63]), ([64], [64]), ([65, 64], [64, 65]), ([64, 66], [64, 66]), ([67, 64], [67]), ([68], [68]), ([69, 68], [68, 69]), ([70, 68], [68, 70]), ([71, 68], [68, 71]), ([72, 68], [68, 72]), ([68, 73], [68, 73]), ([74, 68], [74]), ([75], [75]), ([76, 75], [75, 76]), ([77, 75], [75, 77]), ([78, 75], [75, 78]), ([79, 75], [75, 79]), ([75, 80], [75, 80]), ([81, 75], [81]), ([82], [82]), ([83, 82], [82, 83]), ([84, 82], [82, 84]), ([85, 82], [82, 85]), ([86, 82], [82, 86]), ([87, 82], [82, 87]), ([88, 82], [82, 88]), ([82, 89], [82, 89]), ([90, 82], [90]), ([91], [91]), ([92, 91], [91, 92]), ([91, 93], [91, 93]), ([94, 91], [94]), ([95], [95]), ([95], [95]), ([95], [95]), ([97, 98, 95], [95, 97, 98]), ([96, 99, 95], [95, 96, 99]), ([95, 100], [95, 100]), ([101, 95], [101]), ([102], [102]), ([103, 102, 102], [102, 103]), ([102, 104], [102, 104]), ([105, 104, 0, 1, 2, 3, 4, 5, 6, 7, 8, 9, 10, 11, 12, 13, 14, 15, 16, 17, 18, 19, 20, 21, 22, 23, 24, 25, 26, 27, 28, 29, 30, 31, 32, 33, 34, 35, 36, 37, 38, 39, 40, 41, 42, 43, 44, 45, 46, 47, 48, 49, 50, 51, 52, 53, 54, 55, 56, 57, 58, 59, 60, 61, 62, 63, 64, 65, 66, 67, 68, 69, 70, 71, 72, 73, 74, 75, 76, 77, 78, 79, 80, 81, 82, 83, 84, 85, 86, 87, 88, 89, 90, 91, 92, 93, 94, 95, 96, 97, 98, 99, 100, 101, 102, 103, 104, 105], [105])])
def ambidexterlaw23_head.B14 : List Nat := [0, 0, 2, 6, 14, 0, 32, 96, 224, 510, 1023, 2047, 4095, 8191, 16383, 32767, 65535, 131071, 262143, 524287, 1048575, 2097151, 4194303, 8388607, 16777215, 33554431, 67108863, 134217727, 268435455, 536870911, 1073741823, 67108863, 4294967295, 8589934591, 17179869183, 34359738367, 68719476735, 137438953471, 274877906943, 34359738367, 1099511627775, 2199023255551, 4398046511103, 8796093022207, 17592186044415, 35184372088831, 70368744177663, 140737488355327, 281474976710655, 562949953421311, 1125899906842623, 2251799813685247, 4503599627370495, 9007199254740991, 18014398509481983, 36028797018963967, 72057594037927935, 144115188075855871, 288230376151711743, 576460752303423487, 1152921504606846975, 2305843009213693951, 4611686018427387903, 9223372036854775807, 18446744073709551615, 36893488147419103231, 73786976294838206463, 147573952589676412927, 295147905179352825855, 590295810358705651711, 1180591620717411303423, 2361183241434822606847, 4722366482869645213695, 9444732965739290427391, 18889465931478580854783, 37778931862957161709567, 75557863725914323419135, 151115727451828646838271, 302231454903657293676543, 604462909807314587353087, 1208925819614629174706175, 2417851639229258349412351, 4835703278458516698824703, 9671406556917033397649407, 19342813113834066795298815, 38685626227668133590597631, 77371252455336267181195263, 154742504910672534362390527, 309485009821345068724781055, 618970019642690137449562111, 1237940039285380274899124223, 2475880078570760549798248447, 4951760157141521099596496895, 9903520314283042199192993791, 19807040628566084398385987583, 39614081257132168796771975167, 79228162514264337593543950335, 79228162514264337593543950335, 79228162514264337593543950335, 554597137599850363154807652351, 1267650600228229401496703205375, 2535301200456458802993406410751, 5070602400912917605986812821503, 10141204801825835211973625643007, 20282409603651670423947251286015, 40564819207303340847894502572031, 81129638414606681695789005144063]
theorem ambidexterlaw23_head.tab14 : rtab .any (opsOf Try.f31 14) = ambidexterlaw23_head.T14 := by kernel_rfl
theorem ambidexterlaw23_head.bits14 : waitsOk ambidexterlaw23_head.T14.2 ambidexterlaw23_head.B14 = true := by kernel_rfl
end Go.Proofs.Ytmmaodlngnjmlaa.P
