/- Six places told by two numbers; limits out of arbitrary numbers. -/
import Derived.Test.YtmmaodlngnjmlaaXTime23
import Derived.Test.YtmmaodlngnjmlaaXDyn
import Derived.Test.YtmmaodlngnjmlaaP1
import Derived.IntWalk
import Derived.OpenShut
namespace Go.Proofs.Ytmmaodlngnjmlaa.Pure
set_option linter.unusedSimpArgs false
set_option linter.unusedVariables false
open Go Go.RowKit Go.Proofs.Ytmmaodlngnjmlaa.P Go.Proofs.YtmmaodlngnjmlaaW.PrintWords Go.Proofs.YtmmaodlngnjmlaaW.PrintLast Go.Proofs.YtmmaodlngnjmlaaW.PrintMore Go.Proofs.Ytmmaodlngnjmlaa.Motion
theorem limQ14 {v a j : Int} (hv : (Lit.int .u8 v).wf = true) (ha : (Lit.int .u8 a).wf = true) (hj : (Lit.int .u8 j).wf = true) : ∃ L : Lm, ambidextertop_limR14.f v a j = some (L.v, L.a, L.j) ∧ ok L := by
  have h0 := bounds_u8 hv
  have h1 := bounds_u8 ha
  have h2 := bounds_u8 hj
  refine ⟨⟨1 + v % 8, 1 + a % 4, 1 + j % 2⟩, ?_, by unfold ok; dsimp only; omega⟩
  unfold ambidextertop_limR14.f
  rw [w64 (x := v) (by omega) (by omega), w64 (x := a) (by omega) (by omega), w64 (x := j) (by omega) (by omega), Int.tmod_eq_emod_of_nonneg (by omega), Int.tmod_eq_emod_of_nonneg (by omega), Int.tmod_eq_emod_of_nonneg (by omega), w64 (by omega) (by omega), w64 (by omega) (by omega), w64 (by omega) (by omega)]
theorem ix6 {i : Nat} (h : i < 6) : 0 ≤ wrap64 (Int.tdiv (i : Int) 3) ∧ wrap64 (Int.tdiv (i : Int) 3) < 2 ∧ 0 ≤ Int.tmod (i : Int) 3 ∧ Int.tmod (i : Int) 3 < 3 ∧ wrap64 (Int.tdiv (i : Int) 3) * 3 + Int.tmod (i : Int) 3 = (i : Int) := by
  rw [Int.tdiv_eq_ediv_of_nonneg (by omega), Int.tmod_eq_emod_of_nonneg (by omega), k64 (by omega) (by omega)]
  omega
theorem dget_of (o : Nat → Int) {i : Nat} (h : i < 6) : dget [o 0, o 1, o 2, o 3, o 4, o 5] (i : Int) = o i := by
  match i, h with
  | 0, _ => rfl
  | 1, _ => rfl
  | 2, _ => rfl
  | 3, _ => rfl
  | 4, _ => rfl
  | 5, _ => rfl
  | k + 6, h => omega
end Go.Proofs.Ytmmaodlngnjmlaa.Pure
