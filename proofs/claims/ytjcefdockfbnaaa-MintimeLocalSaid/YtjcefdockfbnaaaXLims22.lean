/- The law's limits and distances out of arbitrary numbers. -/
import Derived.Test.YtjcefdockfbnaaaXHead22
import Derived.Test.YtjcefdockfbnaaaP3
import Derived.Test.YtjcefdockfbnaaaPK
import Derived.OpenShut
import Derived.IntWalk
namespace Go.Proofs.Ytjcefdockfbnaaa.Pure
set_option linter.unusedSimpArgs false
set_option linter.unusedVariables false
open Go.RowKit Go.Proofs.Ytjcefdockfbnaaa.P Go.Proofs.YtjcefdockfbnaaaW.PrintWords Go.Proofs.YtjcefdockfbnaaaW.PrintLast Go.Proofs.YtjcefdockfbnaaaW.PrintMore Go.Proofs.Ytjcefdockfbnaaa.Motion
theorem lims {x : S32} (h : ok32 x) : ∃ L : Lm, ambidexterlaw22_Limits.f x.f0 x.f1 x.f2 = some (L.v, L.a, L.j) ∧ ok L := by
  have h0 := bounds_u8 h.1
  have h1 := bounds_u8 h.2.1
  have h2 := bounds_u8 h.2.2
  refine ⟨⟨1 + x.f0 % 8, 1 + x.f1 % 4, 1 + x.f2 % 2⟩, ?_, by unfold ok; dsimp only; omega⟩
  unfold ambidexterlaw22_Limits.f
  rw [w64 (x := x.f0) (by omega) (by omega), w64 (x := x.f1) (by omega) (by omega), w64 (x := x.f2) (by omega) (by omega), Int.tmod_eq_emod_of_nonneg (by omega), Int.tmod_eq_emod_of_nonneg (by omega), Int.tmod_eq_emod_of_nonneg (by omega), w64 (by omega) (by omega), w64 (by omega) (by omega), w64 (by omega) (by omega)]
theorem dist22 {a : Int} (h : (Lit.int .u16 a).wf = true) : ∃ d : Int, Int.tmod (wrap64 a) 421 = d ∧ 0 ≤ d ∧ d ≤ 420 := by
  have h := bounds_u16 h
  refine ⟨a % 421, ?_, by omega, by omega⟩
  rw [w64 (by omega) (by omega), Int.tmod_eq_emod_of_nonneg (by omega)]
end Go.Proofs.Ytjcefdockfbnaaa.Pure
