/- A place of six cells that two numbers tell: what is read there, what they hold behind a store. -/
import Derived.WalkKit
namespace Go.Proofs.Ytmmaodlngnjmlaa.P
open Go
def dget (xs : List Int) (n : Int) : Int := xs.getD n.toNat 0
def dset (n : Int) (p : Int) (v x : Int) : Int := if n = p then v else x
theorem dget6 {K : IntKind} {I J x0 x1 x2 x3 x4 x5 : Int} (i0 : 0 ≤ I) (i1 : I < 2) (j0 : 0 ≤ J) (j1 : J < 3) :
    (#[.int K x0, .int K x1, .int K x2, .int K x3, .int K x4, .int K x5] : Array Value)[I.toNat * 3 + J.toNat]? = some (.int K (dget [x0, x1, x2, x3, x4, x5] (I * 3 + J))) := by
  rcases (by omega : I = 0 ∨ I = 1) with rfl | rfl <;> rcases (by omega : J = 0 ∨ J = 1 ∨ J = 2) with rfl | rfl | rfl <;> rfl
theorem dset6 {K : IntKind} {I J x0 x1 x2 x3 x4 x5 : Int} (i0 : 0 ≤ I) (i1 : I < 2) (j0 : 0 ≤ J) (j1 : J < 3) (u : Int) :
    (#[.int K x0, .int K x1, .int K x2, .int K x3, .int K x4, .int K x5] : Array Value).setIfInBounds (I.toNat * 3 + J.toNat) (.int K u) =
      #[.int K (dset (I * 3 + J) 0 u x0), .int K (dset (I * 3 + J) 1 u x1), .int K (dset (I * 3 + J) 2 u x2), .int K (dset (I * 3 + J) 3 u x3), .int K (dset (I * 3 + J) 4 u x4), .int K (dset (I * 3 + J) 5 u x5)] := by
  rcases (by omega : I = 0 ∨ I = 1) with rfl | rfl <;> rcases (by omega : J = 0 ∨ J = 1 ∨ J = 2) with rfl | rfl | rfl <;> rfl
theorem odx_ {p : Prop} [Decidable p] (h : decide p = true := by first | (with_reducible assumption) | assumption) : p := of_decide_eq_true h
end Go.Proofs.Ytmmaodlngnjmlaa.P
