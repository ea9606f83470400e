-- Written by this session's own program, for this seat. Lean checks it.
import Derived.Test.YthmddbffhbfmeaaP0
import Derived.Test.YthmddbffhbfmeaaXOpens
import Derived.KernelRfl
namespace Go.Proofs.Ythmddbffhbfmeaa.P
open Go.RowKit Go.Proofs.YthmddbffhbfmeaaW.PrintWords
def ok63 (x : S63) : Prop := (True) ∧ (True) ∧ ((Lit.int .i64 x.f2).wf = true) ∧ (True)
theorem opens63 : Opn.Opens Try.prog 63 k63 ok63 := Opn.Opens.struct Try.underlying63 (L := [(4, 0), (4, 1), (3, 2), (4, 3)]) (by kernel_rfl) (Opn.OpensF.cons (Opn.Opens.bool Try.underlying4 (by kernel_rfl)) (Opn.OpensF.cons (Opn.Opens.bool Try.underlying4 (by kernel_rfl)) (Opn.OpensF.cons (Opn.Opens.int Try.underlying3 (by kernel_rfl)) (Opn.OpensF.one (Opn.Opens.bool Try.underlying4 (by kernel_rfl)))))) (by kernel_rfl) (fun x : S63 => (x.f0, x.f1, x.f2, x.f3)) (fun y => ⟨y.1, y.2.1, y.2.2.1, y.2.2.2⟩) (fun _ => rfl)
end Go.Proofs.Ythmddbffhbfmeaa.P
