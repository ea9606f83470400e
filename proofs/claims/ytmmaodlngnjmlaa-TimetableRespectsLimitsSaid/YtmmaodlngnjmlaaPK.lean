-- Written by this session's own program, for this seat. Lean checks it.
import Derived.Test.YtmmaodlngnjmlaaP0
import Derived.Test.YtmmaodlngnjmlaaXOpens
import Derived.KernelRfl
namespace Go.Proofs.Ytmmaodlngnjmlaa.P
open Go.RowKit Go.Proofs.YtmmaodlngnjmlaaW.PrintWords
def ok51 (x : S51) : Prop := ((Lit.int .u8 x.f0).wf = true) ∧ ((Lit.int .u8 x.f1).wf = true) ∧ ((Lit.int .u8 x.f2).wf = true)
theorem opens51 : Opn.Opens Try.prog 51 k51 ok51 := Opn.Opens.array Try.underlying51 (L := [(5, 0), (5, 1), (5, 2)]) (by kernel_rfl) (Opn.OpensF.cons (Opn.Opens.int Try.underlying5 (by kernel_rfl)) (Opn.OpensF.cons (Opn.Opens.int Try.underlying5 (by kernel_rfl)) (Opn.OpensF.one (Opn.Opens.int Try.underlying5 (by kernel_rfl))))) (by kernel_rfl) (fun x : S51 => (x.f0, x.f1, x.f2)) (fun y => ⟨y.1, y.2.1, y.2.2⟩) (fun _ => rfl)
def ok63 (x : S63) : Prop := ((Lit.int .i64 x.f0).wf = true) ∧ ((Lit.int .i64 x.f1).wf = true) ∧ ((Lit.int .i64 x.f2).wf = true)
theorem opens63 : Opn.Opens Try.prog 63 k63 ok63 := Opn.Opens.struct Try.underlying63 (L := [(3, 0), (3, 1), (3, 2)]) (by kernel_rfl) (Opn.OpensF.cons (Opn.Opens.int Try.underlying3 (by kernel_rfl)) (Opn.OpensF.cons (Opn.Opens.int Try.underlying3 (by kernel_rfl)) (Opn.OpensF.one (Opn.Opens.int Try.underlying3 (by kernel_rfl))))) (by kernel_rfl) (fun x : S63 => (x.f0, x.f1, x.f2)) (fun y => ⟨y.1, y.2.1, y.2.2⟩) (fun _ => rfl)
end Go.Proofs.Ytmmaodlngnjmlaa.P
