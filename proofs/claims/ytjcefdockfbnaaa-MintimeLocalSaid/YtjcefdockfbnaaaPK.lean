-- Written by this session's own program, for this seat. Lean checks it.
import Derived.Test.YtjcefdockfbnaaaP0
import Derived.Test.YtjcefdockfbnaaaXOpens
import Derived.KernelRfl
namespace Go.Proofs.Ytjcefdockfbnaaa.P
open Go.RowKit Go.Proofs.YtjcefdockfbnaaaW.PrintWords
def ok32 (x : S32) : Prop := ((Lit.int .u8 x.f0).wf = true) ∧ ((Lit.int .u8 x.f1).wf = true) ∧ ((Lit.int .u8 x.f2).wf = true)
theorem opens32 : Opn.Opens Try.prog 32 k32 ok32 := Opn.Opens.array Try.underlying32 (L := [(5, 0), (5, 1), (5, 2)]) (by kernel_rfl) (Opn.OpensF.cons (Opn.Opens.int Try.underlying5 (by kernel_rfl)) (Opn.OpensF.cons (Opn.Opens.int Try.underlying5 (by kernel_rfl)) (Opn.OpensF.one (Opn.Opens.int Try.underlying5 (by kernel_rfl))))) (by kernel_rfl) (fun x : S32 => (x.f0, x.f1, x.f2)) (fun y => ⟨y.1, y.2.1, y.2.2⟩) (fun _ => rfl)
end Go.Proofs.Ytjcefdockfbnaaa.P
