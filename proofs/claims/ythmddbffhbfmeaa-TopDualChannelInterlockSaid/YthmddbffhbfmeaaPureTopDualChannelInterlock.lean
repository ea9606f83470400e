/- The law of the channel pair: the walk has shown that the answer is true for all arguments (XInter29). -/
import Derived.Test.YthmddbffhbfmeaaP2
import Derived.Test.YthmddbffhbfmeaaPK
namespace Go.Proofs.Ythmddbffhbfmeaa.Pure
open Go.RowKit Go.Proofs.Ythmddbffhbfmeaa.P Go.Proofs.YthmddbffhbfmeaaW.PrintWords Go.Proofs.YthmddbffhbfmeaaW.PrintLast

theorem TopDualChannelInterlock : ∀ (l0 : List (S63)) (l1 : List Bool), (l0.length ≤ maxLen ∧ ∀ y0_ ∈ l0, ok63 y0_) → (l1.length ≤ maxLen ∧ ∀ y0_ ∈ l1, True) → ambidextertop_TopDualChannelInterlock.f l0 l1 = some true := fun _ _ _ _ => rfl

end Go.Proofs.Ythmddbffhbfmeaa.Pure
