/- The head of the profiles' tops, and limits out of arbitrary numbers. -/
import Derived.Test.YthmddbffhbfmeaaXPlay22
import Derived.Test.YthmddbffhbfmeaaP5
import Derived.Test.YthmddbffhbfmeaaP4
import Derived.KernelRfl
import Derived.Test.YthmddbffhbfmeaaPK
import Derived.IntWalk
import Derived.OpenShut
namespace Go.Proofs.Ythmddbffhbfmeaa.Pure
set_option linter.unusedSimpArgs false
set_option linter.unusedVariables false
open Go.RowKit Go.Proofs.Ythmddbffhbfmeaa.P Go.Proofs.YthmddbffhbfmeaaW.PrintWords Go.Proofs.YthmddbffhbfmeaaW.PrintLast Go.Proofs.YthmddbffhbfmeaaW.PrintMore Go.Proofs.Ythmddbffhbfmeaa.Motion
/-- So many rounds suffice for the head. -/
noncomputable def K25 : Nat := Classical.choose ambidextertop_head25.any
theorem head25 {k : Nat} (h : K25 ≤ k) : ambidextertop_head25.f k = some true := at_rounds ambidextertop_head25.mono h (Classical.choose_spec ambidextertop_head25.any)
theorem lim14 {v a j : Int} (hv : (Lit.int .u8 v).wf = true) (ha : (Lit.int .u8 a).wf = true) (hj : (Lit.int .u8 j).wf = true) : ∃ L : Lm, ambidextertop_limR14.f v a j = some (L.v, L.a, L.j) ∧ ok L := by
  have h0 := bounds_u8 hv
  have h1 := bounds_u8 ha
  have h2 := bounds_u8 hj
  refine ⟨⟨1 + v % 8, 1 + a % 4, 1 + j % 2⟩, ?_, by unfold ok; dsimp only; omega⟩
  unfold ambidextertop_limR14.f
  rw [w64 (x := v) (by omega) (by omega), w64 (x := a) (by omega) (by omega), w64 (x := j) (by omega) (by omega), Int.tmod_eq_emod_of_nonneg (by omega), Int.tmod_eq_emod_of_nonneg (by omega), Int.tmod_eq_emod_of_nonneg (by omega), w64 (by omega) (by omega), w64 (by omega) (by omega), w64 (by omega) (by omega)]
theorem tmod16 {a : Int} (h : (Lit.int .u16 a).wf = true) (n : Int) (h0 : 0 < n) : ∃ d : Int, Int.tmod (wrap64 a) n = d ∧ 0 ≤ d ∧ d < n := by
  have h := bounds_u16 h
  refine ⟨a % n, ?_, Int.emod_nonneg _ (by omega), Int.emod_lt_of_pos _ h0⟩
  rw [w64 (by omega) (by omega), Int.tmod_eq_emod_of_nonneg (by omega)]
theorem tmod8 {a : Int} (h : (Lit.int .u8 a).wf = true) (n : Int) (h0 : 0 < n) : ∃ d : Int, Int.tmod (wrap64 a) n = d ∧ 0 ≤ d ∧ d < n := by
  have h := bounds_u8 h
  refine ⟨a % n, ?_, Int.emod_nonneg _ (by omega), Int.emod_lt_of_pos _ h0⟩
  rw [w64 (by omega) (by omega), Int.tmod_eq_emod_of_nonneg (by omega)]
end Go.Proofs.Ythmddbffhbfmeaa.Pure
