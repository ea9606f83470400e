-- Written by this session's own program, for this seat. Lean checks it.
import Derived.Test.YtmmaodlngnjmlaaP0
import Derived.Test.YtmmaodlngnjmlaaXCordF23
namespace Go.Proofs.Ytmmaodlngnjmlaa.P
open Go.RowKit Go.Proofs.YtmmaodlngnjmlaaW.PrintWords Go.Proofs.YtmmaodlngnjmlaaW.PrintLast Go.Proofs.YtmmaodlngnjmlaaW.PrintMore
attribute [local go_sem] max2_int min2_int max_two min_two max_three min_three max_four min_four   -- for this text's walks alone
set_option linter.unusedVariables false
set_option linter.unusedSimpArgs false

/-! ### ambidexterlaw23_TimetableCoordinatedLength: function 10 -/
-- NEEDS XCordAll23
def ambidexterlaw23_TimetableCoordinatedLength.f (a0 a1 a2 a3 a4 a5 : Int) (l1 l2 : List S63) (l3 : List S91) (q0 q1 q2 q3 q4 q5 : Int) : Option Bool := if ((((0 ≤ a0 ∧ a0 ≤ 255) ∧ (0 ≤ a1 ∧ a1 ≤ 255)) ∧ (0 ≤ a2 ∧ a2 ≤ 255)) ∧ (((0 ≤ a3 ∧ a3 ≤ 255) ∧ (0 ≤ a4 ∧ a4 ≤ 255)) ∧ (0 ≤ a5 ∧ a5 ≤ 255))) ∧ l1.length ≤ 10000000000000 ∧ l2.length ≤ 10000000000000 ∧ l3.length ≤ 100000000000000 then some true else none
theorem ambidexterlaw23_TimetableCoordinatedLength.calls0 (a0 a1 a2 a3 a4 a5 : Int) (A1 : Option Addr) (c1 : Nat) (l1 : List S63) (A2 : Option Addr) (c2 : Nat) (l2 : List S63) (A3 : Option Addr) (c3 : Nat) (l3 : List S91) (q0 q1 q2 q3 q4 q5 : Int) (r : Bool) (w : World) (hr1 : Kd.C k63 w A1 l1.length l1) (hc1 : l1.length ≤ c1) (hr2 : Kd.C k63 w A2 l2.length l2) (hc2 : l2.length ≤ c2) (hr3 : Kd.C k91 w A3 l3.length l3) (hc3 : l3.length ≤ c3) (h : ambidexterlaw23_TimetableCoordinatedLength.f a0 a1 a2 a3 a4 a5 l1 l2 l3 q0 q1 q2 q3 q4 q5 = some r) (hT : r = true) :
  Calls Try.prog 10 #[.agg #[.int .u8 a0, .int .u8 a1, .int .u8 a2, .int .u8 a3, .int .u8 a4, .int .u8 a5], .slice A1 l1.length c1, .slice A2 l2.length c2, .slice A3 l3.length c3, .agg #[.int .i64 q0, .int .i64 q1, .int .i64 q2, .int .i64 q3, .int .i64 q4, .int .i64 q5]] w fun e w' => e = .returned (.bool r) ∧ Below w.heap.size w w' := by
 subst hT
 unfold ambidexterlaw23_TimetableCoordinatedLength.f at h
 split at h
 ·
  rename_i hb
  exact Pure.cord_run a0 a1 a2 a3 a4 a5 hb.1.1 hb.1.2 A1 c1 l1 A2 c2 l2 A3 c3 l3 (Pure.q6 q0 q1 q2 q3 q4 q5) w hb.2.1 hb.2.2.1 hb.2.2.2 hr1 hc1 hr2 hc2 hr3 hc3
 ·
  cases h

end Go.Proofs.Ytmmaodlngnjmlaa.P
