/- The law of coordinated lengths: what the row asks. -/
import Derived.Test.YtmmaodlngnjmlaaP8
import Derived.Test.YtmmaodlngnjmlaaPK
import Derived.OpenShut
namespace Go.Proofs.Ytmmaodlngnjmlaa.Pure
open Go Go.RowKit Go.Proofs.Ytmmaodlngnjmlaa.P Go.Proofs.YtmmaodlngnjmlaaW.PrintWords Go.Proofs.YtmmaodlngnjmlaaW.PrintLast
theorem TimetableCoordinatedLength : ∀ (x0 : S89) (l1 l2 : List (S63)) (l3 : List (S91)) (x4 : S59), ok89 x0 → (l1.length ≤ maxLen ∧ ∀ y0_ ∈ l1, ok63 y0_) → (l2.length ≤ maxLen ∧ ∀ y0_ ∈ l2, ok63 y0_) → (l3.length ≤ maxLen ∧ ∀ y0_ ∈ l3, ok91 y0_) → ok59 x4 → l1.length * 24 ≤ 140737488351232 → l2.length * 24 ≤ 140737488351232 → l3.length * 2 ≤ 140737488351232 → ambidexterlaw23_TimetableCoordinatedLength.f x0.f0 x0.f1 x0.f2 x0.f3 x0.f4 x0.f5 l1 l2 l3 x4.f0.f0 x4.f0.f1 x4.f0.f2 x4.f1.f0 x4.f1.f1 x4.f1.f2 = some true := by
  intro x0 l1 l2 l3 x4 h0 _ _ _ _ h1 h2 h3
  unfold ambidexterlaw23_TimetableCoordinatedLength.f
  rw [if_pos ⟨⟨⟨⟨bounds_u8 h0.1, bounds_u8 h0.2.1⟩, bounds_u8 h0.2.2.1⟩, ⟨⟨bounds_u8 h0.2.2.2.1, bounds_u8 h0.2.2.2.2.1⟩, bounds_u8 h0.2.2.2.2.2⟩⟩, by omega, by omega, by omega⟩]
end Go.Proofs.Ytmmaodlngnjmlaa.Pure
