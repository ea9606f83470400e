-- Written by this session's own program, for this seat. Lean checks it.
import Derived.Test.YthnbcedpdjingaaP0
namespace Go.Proofs.Ythnbcedpdjingaa.P
open Go.RowKit Go.Proofs.YthnbcedpdjingaaW.PrintWords Go.Proofs.YthnbcedpdjingaaW.PrintLast Go.Proofs.YthnbcedpdjingaaW.PrintMore
attribute [local go_sem] max2_int min2_int max_two min_two max_three min_three max_four min_four   -- for this text's walks alone
set_option linter.unusedVariables false
set_option linter.unusedSimpArgs false

theorem eqA44 (d : Nat) (w : World) (x0 y0 : Bool) (x1 y1 : Bool) (x2 y2 : Int) (x3 y3 : Bool) :
    (Op.equalIn (d + 2) 44 (.agg #[.bool x0, .bool x1, .int .i64 x2, .bool x3]) (.agg #[.bool y0, .bool y1, .int .i64 y2, .bool y3])).run Try.prog w = .ok (x0 == y0 && (x1 == y1 && (x2 == y2 && (x3 == y3)))) w := by
  refine eqA_of Try.underlying44 (by kernel_rfl) ?_
  refine eqf_cons (by rfl) (by go_simp; rfl) (by go_simp; rfl) (by go_simp) ?_
  refine eqf_cons (by rfl) (by go_simp; rfl) (by go_simp; rfl) (by go_simp) ?_
  refine eqf_cons (by rfl) (by go_simp; rfl) (by go_simp; rfl) (by go_simp) ?_
  exact eqf_last (by rfl) (by go_simp; rfl) (by go_simp; rfl) (by go_simp)
end Go.Proofs.Ythnbcedpdjingaa.P
