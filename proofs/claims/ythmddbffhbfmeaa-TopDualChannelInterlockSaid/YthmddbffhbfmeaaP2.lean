-- Written by this session's own program, for this seat. Lean checks it.
import Derived.Test.YthmddbffhbfmeaaP0
import Derived.Test.YthmddbffhbfmeaaXInter29
namespace Go.Proofs.Ythmddbffhbfmeaa.P
open Go.RowKit Go.Proofs.YthmddbffhbfmeaaW.PrintWords Go.Proofs.YthmddbffhbfmeaaW.PrintLast Go.Proofs.YthmddbffhbfmeaaW.PrintMore
attribute [local go_sem] max2_int min2_int max_two min_two max_three min_three max_four min_four   -- for this text's walks alone
set_option linter.unusedVariables false
set_option linter.unusedSimpArgs false

/-! ### ambidextertop_TopDualChannelInterlock: function 5 -/
-- NEEDS XInter29
def ambidextertop_TopDualChannelInterlock.f (l0 : List S63) (l1 : List Bool) : Option Bool := some true
theorem ambidextertop_TopDualChannelInterlock.calls0 (A0 : Option Addr) (c0 : Nat) (l0 : List S63) (A1 : Option Addr) (c1 : Nat) (l1 : List Bool) (r : Bool) (w : World) (hr0 : Kd.C k63 w A0 l0.length l0) (hc0 : l0.length ≤ c0) (hr1 : Kd.C Kd.bool w A1 l1.length l1) (hc1 : l1.length ≤ c1) (h : ambidextertop_TopDualChannelInterlock.f l0 l1 = some r) (hT : r = true) :
  Calls Try.prog 5 #[.slice A0 l0.length c0, .slice A1 l1.length c1] w fun e w' => e = .returned (.bool r) ∧ Below w.heap.size w w' := by
 subst hT
 exact Sup.interlock_run A0 c0 l0 A1 c1 l1 w hr0 hc0 hr1 hc1

end Go.Proofs.Ythmddbffhbfmeaa.P
