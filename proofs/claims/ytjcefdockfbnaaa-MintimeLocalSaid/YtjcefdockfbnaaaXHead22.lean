/- The law's head. -/
import Derived.Test.YtjcefdockfbnaaaXLen22
import Derived.Test.YtjcefdockfbnaaaP3
import Derived.KernelRfl
namespace Go.Proofs.Ytjcefdockfbnaaa.Pure
set_option linter.unusedSimpArgs false
set_option linter.unusedVariables false
open Go.RowKit Go.Proofs.Ytjcefdockfbnaaa.P Go.Proofs.YtjcefdockfbnaaaW.PrintWords Go.Proofs.YtjcefdockfbnaaaW.PrintLast Go.Proofs.YtjcefdockfbnaaaW.PrintMore Go.Proofs.Ytjcefdockfbnaaa.Motion
theorem head22_ : ambidexterlaw22_head.f 2000 = some true := by kernel_rfl
theorem head22 {k : Nat} (h : 2000 ≤ k) : ambidexterlaw22_head.f k = some true := at_rounds ambidexterlaw22_head.mono h head22_
end Go.Proofs.Ytjcefdockfbnaaa.Pure
