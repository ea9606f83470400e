/- The loop tells what the reference tells. -/
import Derived.Test.YtehibiikdlgneaaXServo25
import Derived.Test.YtehibiikdlgneaaP14
namespace Go.Proofs.Ytehibiikdlgneaa.Pure
set_option linter.unusedSimpArgs false
set_option linter.unusedVariables false
open Go.RowKit Go.Proofs.Ytehibiikdlgneaa.P Go.Proofs.YtehibiikdlgneaaW.PrintWords Go.Proofs.YtehibiikdlgneaaW.PrintLast Go.Proofs.YtehibiikdlgneaaW.PrintMore
theorem mr_l0 {l : List S54} (hl : l.length ≤ 300) (ho : ∀ y ∈ l, In16 y) : ∀ (m i : Nat) (s : Sv), i + m = l.length → Bd i s → ambidexterlaw25_ServoMatchesReference.l0 (m + 3) l true i s.c s.m s.g s.o s.l s.c s.m s.g s.o s.l = some true
  | 0, i, s, h, hb => by
    rw [ambidexterlaw25_ServoMatchesReference.l0, if_neg (by omega), if_pos rfl]
    simp
  | m + 1, i, s, h, hb => by
    have hi : i < l.length := by omega
    obtain ⟨o1, o2, o3, o4, o5, o6⟩ := ho _ (List.getElem_mem hi)
    rw [show m + 1 + 3 = (m + 3) + 1 by omega, ambidexterlaw25_ServoMatchesReference.l0, if_pos (by omega), if_pos (by omega), sight_at hi, wi25 (by omega) hi, v64 (x := l[i].f1) (by omega) (by omega), v64 (x := l[i].f2) (by omega) (by omega), step_eq (by omega) hb (by omega) (by omega), tick_eq (by omega) hb (by omega) (by omega) (by omega)]
    have hb' := hb.next (k := Int.tmod (wrap64 l[i].f0) 4) (n := l[i].f1) (t := l[i].f2) (by omega)
    obtain ⟨b1, b2, b3, b4, b5, b6⟩ := id hb'
    simp only [Option.bind_some]
    rw [if_neg (by simp), if_pos trivial, err _ _ _ ⟨b1, b2⟩ (by omega) (by omega), rerr _ _ _ ⟨b1, b2⟩ (by omega) (by omega)]
    simp only [Option.bind_some]
    rw [if_pos trivial]
    exact mr_l0 hl ho m (i + 1) _ (by omega) hb'
theorem ServoMatchesReference : ∀ (a0 : Int) (l1 : List (S54)), (Lit.int .i16 a0).wf = true → (l1.length ≤ maxLen ∧ ∀ y0_ ∈ l1, ok54 y0_) → ∃ k, ambidexterlaw25_ServoMatchesReference.f k a0 l1 = some true := by
  intro x l hx hl
  have hx := bounds_i16 hx
  refine ⟨l.length + 3, ?_⟩
  unfold ambidexterlaw25_ServoMatchesReference.f
  rw [head25]
  simp only [Option.bind_some]
  by_cases c : (l.length : Int) > 300
  · rw [if_pos c]
  · rw [if_neg c, v64 (by omega) (by omega), snew (by omega) (by omega), rsnew (by omega) (by omega)]
    exact mr_l0 (by omega) (fun y hy => in16 (hl.2 y hy)) l.length 0 ⟨x / 16, 0, 0, 0, false⟩ (by omega) (new_bd (by omega) (by omega))
end Go.Proofs.Ytehibiikdlgneaa.Pure
