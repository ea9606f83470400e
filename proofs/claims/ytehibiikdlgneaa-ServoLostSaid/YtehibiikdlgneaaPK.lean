-- Written by this session's own program, for this seat. Lean checks it.
import Derived.Test.YtehibiikdlgneaaP0
import Derived.Test.YtehibiikdlgneaaXOpens
import Derived.KernelRfl
namespace Go.Proofs.Ytehibiikdlgneaa.P
open Go.RowKit Go.Proofs.YtehibiikdlgneaaW.PrintWords
def ok54 (x : S54) : Prop := ((Lit.int .u8 x.f0).wf = true) ∧ ((Lit.int .i16 x.f1).wf = true) ∧ ((Lit.int .i16 x.f2).wf = true)
theorem opens54 : Opn.Opens Try.prog 54 k54 ok54 := Opn.Opens.struct Try.underlying54 (L := [(5, 0), (24, 1), (24, 2)]) (by kernel_rfl) (Opn.OpensF.cons (Opn.Opens.int Try.underlying5 (by kernel_rfl)) (Opn.OpensF.cons (Opn.Opens.int Try.underlying24 (by kernel_rfl)) (Opn.OpensF.one (Opn.Opens.int Try.underlying24 (by kernel_rfl))))) (by kernel_rfl) (fun x : S54 => (x.f0, x.f1, x.f2)) (fun y => ⟨y.1, y.2.1, y.2.2⟩) (fun _ => rfl)
end Go.Proofs.Ytehibiikdlgneaa.P
