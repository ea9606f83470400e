-- Written by this session's own program, for this seat. Lean checks it.
import Derived.Test.YtjcefdockfbnaaaP0
import Derived.Test.YtjcefdockfbnaaaXOpens
import Derived.KernelRfl
namespace Go.Proofs.Ytjcefdockfbnaaa.P
open Go.RowKit Go.Proofs.YtjcefdockfbnaaaW.PrintWords
def ok23 (x : S23) : Prop := ((Lit.int .i64 x.f0).wf = true) ∧ ((Lit.int .i64 x.f1).wf = true) ∧ ((Lit.int .i64 x.f2).wf = true)
theorem opens23 : Opn.Opens Try.prog 23 k23 ok23 := Opn.Opens.struct Try.underlying23 (L := [(3, 0), (3, 1), (3, 2)]) (by kernel_rfl) (Opn.OpensF.cons (Opn.Opens.int Try.underlying3 (by kernel_rfl)) (Opn.OpensF.cons (Opn.Opens.int Try.underlying3 (by kernel_rfl)) (Opn.OpensF.one (Opn.Opens.int Try.underlying3 (by kernel_rfl))))) (by kernel_rfl) (fun x : S23 => (x.f0, x.f1, x.f2)) (fun y => ⟨y.1, y.2.1, y.2.2⟩) (fun _ => rfl)
def ok37 (x : S37) : Prop := ((Lit.int .i64 x.f0).wf = true) ∧ ((Lit.int .i64 x.f1).wf = true) ∧ ((Lit.int .i64 x.f2).wf = true)
theorem opens37 : Opn.Opens Try.prog 37 k37 ok37 := Opn.Opens.struct Try.underlying37 (L := [(3, 0), (3, 1), (3, 2)]) (by kernel_rfl) (Opn.OpensF.cons (Opn.Opens.int Try.underlying3 (by kernel_rfl)) (Opn.OpensF.cons (Opn.Opens.int Try.underlying3 (by kernel_rfl)) (Opn.OpensF.one (Opn.Opens.int Try.underlying3 (by kernel_rfl))))) (by kernel_rfl) (fun x : S37 => (x.f0, x.f1, x.f2)) (fun y => ⟨y.1, y.2.1, y.2.2⟩) (fun _ => rfl)
end Go.Proofs.Ytjcefdockfbnaaa.P
