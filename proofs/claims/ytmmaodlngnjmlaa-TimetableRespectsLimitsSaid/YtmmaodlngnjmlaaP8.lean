-- Written by this session's own program, for this seat. Lean checks it.
import Derived.Test.YtmmaodlngnjmlaaP0
import Derived.Test.YtmmaodlngnjmlaaXLimits23
namespace Go.Proofs.Ytmmaodlngnjmlaa.P
open Go.RowKit Go.Proofs.YtmmaodlngnjmlaaW.PrintWords Go.Proofs.YtmmaodlngnjmlaaW.PrintLast Go.Proofs.YtmmaodlngnjmlaaW.PrintMore
attribute [local go_sem] max2_int min2_int max_two min_two max_three min_three max_four min_four   -- for this text's walks alone
set_option linter.unusedVariables false
set_option linter.unusedSimpArgs false

/-! ### ambidexterlaw23_TimetableRespectsLimits: function 9 -/
-- NEEDS XLimsAll23
def ambidexterlaw23_TimetableRespectsLimits.f (a0 a1 a2 : Int) (l1 : List S63) : Option Bool := if (((0 ≤ a0 ∧ a0 ≤ 255) ∧ (0 ≤ a1 ∧ a1 ≤ 255)) ∧ (0 ≤ a2 ∧ a2 ≤ 255)) ∧ l1.length ≤ 5864062014800 then some true else none
theorem ambidexterlaw23_TimetableRespectsLimits.calls0 (a0 a1 a2 : Int) (A1 : Option Addr) (c1 : Nat) (l1 : List S63) (r : Bool) (w : World) (hr1 : Kd.C k63 w A1 l1.length l1) (hc1 : l1.length ≤ c1) (h : ambidexterlaw23_TimetableRespectsLimits.f a0 a1 a2 l1 = some r) (hT : r = true) :
  Calls Try.prog 9 #[.agg #[.int .u8 a0, .int .u8 a1, .int .u8 a2], .slice A1 l1.length c1] w fun e w' => e = .returned (.bool r) ∧ Below w.heap.size w w' := by
 subst hT
 unfold ambidexterlaw23_TimetableRespectsLimits.f at h
 split at h
 ·
  rename_i hb
  exact Lims.respects_run a0 a1 a2 hb.1 A1 c1 l1 hb.2 w hr1 hc1
 ·
  cases h

end Go.Proofs.Ytmmaodlngnjmlaa.P
