-- Written by this session's own program, for this seat. Lean checks it.
import Derived.Test.YthmddbffhbfmeaaP0
import Derived.Test.YthmddbffhbfmeaaXOpens
import Derived.KernelRfl
namespace Go.Proofs.Ythmddbffhbfmeaa.P
open Go.RowKit Go.Proofs.YthmddbffhbfmeaaW.PrintWords
end Go.Proofs.Ythmddbffhbfmeaa.P
