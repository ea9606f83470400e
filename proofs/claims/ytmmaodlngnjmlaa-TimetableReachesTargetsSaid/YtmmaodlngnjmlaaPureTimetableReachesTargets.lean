/- The law of the targets: what the row asks. -/
import Derived.Test.YtmmaodlngnjmlaaP9
import Derived.Test.YtmmaodlngnjmlaaPK
import Derived.OpenShut
namespace Go.Proofs.Ytmmaodlngnjmlaa.Pure
open Go Go.RowKit Go.Proofs.Ytmmaodlngnjmlaa.P Go.Proofs.YtmmaodlngnjmlaaW.PrintWords Go.Proofs.YtmmaodlngnjmlaaW.PrintLast
theorem bounds_u16 {n : Int} (h : (Lit.int .u16 n).wf = true) : 0 ≤ n ∧ n ≤ 65535 := by
  simp [Lit.wf, IntKind.min, IntKind.max, IntKind.signed, IntKind.bits] at h
  omega
theorem TimetableReachesTargets : ∀ (x0 : S51) (l1 : List (S63)) (x2 : S59) (l3 : List Int), ok51 x0 → (l1.length ≤ maxLen ∧ ∀ y0_ ∈ l1, ok63 y0_) → ok59 x2 → (l3.length ≤ maxLen ∧ ∀ y0_ ∈ l3, (Lit.int .u16 y0_).wf = true) → l1.length * 24 ≤ 140737488351232 → ambidexterlaw23_TimetableReachesTargets.f x0.f0 x0.f1 x0.f2 l1 x2.f0.f0 x2.f0.f1 x2.f0.f2 x2.f1.f0 x2.f1.f1 x2.f1.f2 l3 = some true := by
  intro x0 l1 x2 l3 h0 _ _ h3 h1
  unfold ambidexterlaw23_TimetableReachesTargets.f
  rw [if_pos ⟨⟨⟨⟨bounds_u8 h0.1, bounds_u8 h0.2.1⟩, bounds_u8 h0.2.2⟩, by omega⟩, fun x hx => bounds_u16 (h3.2 x hx)⟩]
end Go.Proofs.Ytmmaodlngnjmlaa.Pure
