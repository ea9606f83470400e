-- Written by this session's own program, for this seat. Lean checks it.
import Derived.Test.YtmmaodlngnjmlaaP0
import Derived.Test.YtmmaodlngnjmlaaXReachF23
namespace Go.Proofs.Ytmmaodlngnjmlaa.P
open Go.RowKit Go.Proofs.YtmmaodlngnjmlaaW.PrintWords Go.Proofs.YtmmaodlngnjmlaaW.PrintLast Go.Proofs.YtmmaodlngnjmlaaW.PrintMore
attribute [local go_sem] max2_int min2_int max_two min_two max_three min_three max_four min_four   -- for this text's walks alone
set_option linter.unusedVariables false
set_option linter.unusedSimpArgs false

/-! ### ambidexterlaw23_TimetableReachesTargets: function 8 -/
-- NEEDS XReachAll23
def ambidexterlaw23_TimetableReachesTargets.f (a0 a1 a2 : Int) (l1 : List S63) (q0 q1 q2 q3 q4 q5 : Int) (l3 : List Int) : Option Bool := if ((((0 ≤ a0 ∧ a0 ≤ 255) ∧ (0 ≤ a1 ∧ a1 ≤ 255)) ∧ (0 ≤ a2 ∧ a2 ≤ 255)) ∧ l1.length ≤ 5864062014800) ∧ ∀ x ∈ l3, 0 ≤ x ∧ x ≤ 65535 then some true else none
theorem ambidexterlaw23_TimetableReachesTargets.calls0 (a0 a1 a2 : Int) (A1 : Option Addr) (c1 : Nat) (l1 : List S63) (q0 q1 q2 q3 q4 q5 : Int) (A3 : Option Addr) (c3 : Nat) (l3 : List Int) (r : Bool) (w : World) (hr1 : Kd.C k63 w A1 l1.length l1) (hc1 : l1.length ≤ c1) (hr3 : Kd.C (Kd.int .u16) w A3 l3.length l3) (hc3 : l3.length ≤ c3) (h : ambidexterlaw23_TimetableReachesTargets.f a0 a1 a2 l1 q0 q1 q2 q3 q4 q5 l3 = some r) (hT : r = true) :
  Calls Try.prog 8 #[.agg #[.int .u8 a0, .int .u8 a1, .int .u8 a2], .slice A1 l1.length c1, .agg #[.int .i64 q0, .int .i64 q1, .int .i64 q2, .int .i64 q3, .int .i64 q4, .int .i64 q5], .slice A3 l3.length c3] w fun e w' => e = .returned (.bool r) ∧ Below w.heap.size w w' := by
 subst hT
 unfold ambidexterlaw23_TimetableReachesTargets.f at h
 split at h
 ·
  rename_i hb
  exact Pure.reach_run a0 a1 a2 hb.1.1 A1 c1 l1 hb.1.2 (Pure.q6 q0 q1 q2 q3 q4 q5) A3 c3 l3 hb.2 w hr1 hc1 hr3 hc3
 ·
  cases h

end Go.Proofs.Ytmmaodlngnjmlaa.P
