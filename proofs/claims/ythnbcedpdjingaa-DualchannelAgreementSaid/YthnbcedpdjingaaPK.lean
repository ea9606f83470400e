-- Written by this session's own program, for this seat. Lean checks it.
import Derived.Test.YthnbcedpdjingaaP0
import Derived.Test.YthnbcedpdjingaaXOpens
import Derived.KernelRfl
namespace Go.Proofs.Ythnbcedpdjingaa.P
open Go.RowKit Go.Proofs.YthnbcedpdjingaaW.PrintWords
def ok23 (x : S23) : Prop := ((Lit.int .i64 x.f0).wf = true) ∧ ((Lit.int .i64 x.f1).wf = true) ∧ ((Lit.int .i64 x.f2).wf = true)
theorem opens23 : Opn.Opens Try.prog 23 k23 ok23 := Opn.Opens.struct Try.underlying23 (L := [(3, 0), (3, 1), (3, 2)]) (by kernel_rfl) (Opn.OpensF.cons (Opn.Opens.int Try.underlying3 (by kernel_rfl)) (Opn.OpensF.cons (Opn.Opens.int Try.underlying3 (by kernel_rfl)) (Opn.OpensF.one (Opn.Opens.int Try.underlying3 (by kernel_rfl))))) (by kernel_rfl) (fun x : S23 => (x.f0, x.f1, x.f2)) (fun y => ⟨y.1, y.2.1, y.2.2⟩) (fun _ => rfl)
def ok35 (x : S35) : Prop := ((Lit.int .i16 x.f0).wf = true) ∧ ((Lit.int .u8 x.f1).wf = true)
theorem opens35 : Opn.Opens Try.prog 35 k35 ok35 := Opn.Opens.struct Try.underlying35 (L := [(33, 0), (5, 1)]) (by kernel_rfl) (Opn.OpensF.cons (Opn.Opens.int Try.underlying33 (by kernel_rfl)) (Opn.OpensF.one (Opn.Opens.int Try.underlying5 (by kernel_rfl)))) (by kernel_rfl) (fun x : S35 => (x.f0, x.f1)) (fun y => ⟨y.1, y.2⟩) (fun _ => rfl)
def ok47 (x : S47) : Prop := ((Lit.int .u8 x.f0).wf = true) ∧ (True) ∧ (True)
theorem opens47 : Opn.Opens Try.prog 47 k47 ok47 := Opn.Opens.struct Try.underlying47 (L := [(5, 0), (4, 1), (4, 2)]) (by kernel_rfl) (Opn.OpensF.cons (Opn.Opens.int Try.underlying5 (by kernel_rfl)) (Opn.OpensF.cons (Opn.Opens.bool Try.underlying4 (by kernel_rfl)) (Opn.OpensF.one (Opn.Opens.bool Try.underlying4 (by kernel_rfl))))) (by kernel_rfl) (fun x : S47 => (x.f0, x.f1, x.f2)) (fun y => ⟨y.1, y.2.1, y.2.2⟩) (fun _ => rfl)
end Go.Proofs.Ythnbcedpdjingaa.P
