-- Written by this session's own program, for this seat. Lean checks it.
import Derived.Test.YtmmaodlngnjmlaaP0
import Derived.Test.YtmmaodlngnjmlaaXOpens
import Derived.KernelRfl
namespace Go.Proofs.Ytmmaodlngnjmlaa.P
set_option linter.unusedVariables false
open Go.RowKit Go.Proofs.YtmmaodlngnjmlaaW.PrintWords
def ok89 (x : S89) : Prop := ((Lit.int .u8 x.f0).wf = true) ∧ ((Lit.int .u8 x.f1).wf = true) ∧ ((Lit.int .u8 x.f2).wf = true) ∧ ((Lit.int .u8 x.f3).wf = true) ∧ ((Lit.int .u8 x.f4).wf = true) ∧ ((Lit.int .u8 x.f5).wf = true)
theorem opens89 : Opn.Opens Try.prog 89 k89 ok89 := Opn.Opens.array Try.underlying89 (L := [(5, 0), (5, 1), (5, 2), (5, 3), (5, 4), (5, 5)]) (by kernel_rfl) (Opn.OpensF.cons (Opn.Opens.int Try.underlying5 (by kernel_rfl)) (Opn.OpensF.cons (Opn.Opens.int Try.underlying5 (by kernel_rfl)) (Opn.OpensF.cons (Opn.Opens.int Try.underlying5 (by kernel_rfl)) (Opn.OpensF.cons (Opn.Opens.int Try.underlying5 (by kernel_rfl)) (Opn.OpensF.cons (Opn.Opens.int Try.underlying5 (by kernel_rfl)) (Opn.OpensF.one (Opn.Opens.int Try.underlying5 (by kernel_rfl)))))))) (by kernel_rfl) (fun x : S89 => (x.f0, x.f1, x.f2, x.f3, x.f4, x.f5)) (fun y => ⟨y.1, y.2.1, y.2.2.1, y.2.2.2.1, y.2.2.2.2.1, y.2.2.2.2.2⟩) (fun _ => rfl)
def ok63 (x : S63) : Prop := ((Lit.int .i64 x.f0).wf = true) ∧ ((Lit.int .i64 x.f1).wf = true) ∧ ((Lit.int .i64 x.f2).wf = true)
theorem opens63 : Opn.Opens Try.prog 63 k63 ok63 := Opn.Opens.struct Try.underlying63 (L := [(3, 0), (3, 1), (3, 2)]) (by kernel_rfl) (Opn.OpensF.cons (Opn.Opens.int Try.underlying3 (by kernel_rfl)) (Opn.OpensF.cons (Opn.Opens.int Try.underlying3 (by kernel_rfl)) (Opn.OpensF.one (Opn.Opens.int Try.underlying3 (by kernel_rfl))))) (by kernel_rfl) (fun x : S63 => (x.f0, x.f1, x.f2)) (fun y => ⟨y.1, y.2.1, y.2.2⟩) (fun _ => rfl)
def ok91 (x : S91) : Prop := (True) ∧ (True)
theorem opens91 : Opn.Opens Try.prog 91 k91 ok91 := Opn.Opens.struct Try.underlying91 (L := [(4, 0), (4, 1)]) (by kernel_rfl) (Opn.OpensF.cons (Opn.Opens.bool Try.underlying4 (by kernel_rfl)) (Opn.OpensF.one (Opn.Opens.bool Try.underlying4 (by kernel_rfl)))) (by kernel_rfl) (fun x : S91 => (x.f0, x.f1)) (fun y => ⟨y.1, y.2⟩) (fun _ => rfl)
def ok58 (x : S58) : Prop := ((Lit.int .i64 x.f0).wf = true) ∧ ((Lit.int .i64 x.f1).wf = true) ∧ ((Lit.int .i64 x.f2).wf = true)
theorem opens58 : Opn.Opens Try.prog 58 k58 ok58 := Opn.Opens.array Try.underlying58 (L := [(3, 0), (3, 1), (3, 2)]) (by kernel_rfl) (Opn.OpensF.cons (Opn.Opens.int Try.underlying3 (by kernel_rfl)) (Opn.OpensF.cons (Opn.Opens.int Try.underlying3 (by kernel_rfl)) (Opn.OpensF.one (Opn.Opens.int Try.underlying3 (by kernel_rfl))))) (by kernel_rfl) (fun x : S58 => (x.f0, x.f1, x.f2)) (fun y => ⟨y.1, y.2.1, y.2.2⟩) (fun _ => rfl)
def ok59 (x : S59) : Prop := (ok58 x.f0) ∧ (ok58 x.f1)
theorem opens59 : Opn.Opens Try.prog 59 k59 ok59 := Opn.Opens.array Try.underlying59 (L := [(58, 0), (58, 3)]) (by kernel_rfl) (Opn.OpensF.cons opens58 (Opn.OpensF.one opens58)) (by kernel_rfl) (fun x : S59 => (x.f0, x.f1)) (fun y => ⟨y.1, y.2⟩) (fun _ => rfl)
end Go.Proofs.Ytmmaodlngnjmlaa.P
