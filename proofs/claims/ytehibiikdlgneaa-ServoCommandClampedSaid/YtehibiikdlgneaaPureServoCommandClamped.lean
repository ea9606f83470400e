/- Commands keep within their bounds; a tick without a good sample lessens the error by its command. -/
import Derived.Test.YtehibiikdlgneaaXServo25
import Derived.Test.YtehibiikdlgneaaP17
namespace Go.Proofs.Ytehibiikdlgneaa.Pure
set_option linter.unusedSimpArgs false
set_option linter.unusedVariables false
open Go.RowKit Go.Proofs.Ytehibiikdlgneaa.P Go.Proofs.YtehibiikdlgneaaW.PrintWords Go.Proofs.YtehibiikdlgneaaW.PrintLast Go.Proofs.YtehibiikdlgneaaW.PrintMore
theorem cc_l0 {l : List S54} (hl : l.length ≤ 300) (ho : ∀ y ∈ l, In16 y) {t : Int} (ht : -32768 ≤ t ∧ t ≤ 32767) : ∀ (m i : Nat) (s : Sv), i + m = l.length → Bd i s → ambidexterlaw25_ServoCommandClamped.l0 (2 * m + 1) l t true i s.c s.m s.g s.o s.l = some true
  | 0, i, s, h, h1 => by rw [ambidexterlaw25_ServoCommandClamped.l0, if_neg (by omega)]
  | m + 1, i, s, h, h1 => by
    have hi : i < l.length := by omega
    obtain ⟨o1, o2, o3, o4, o5, o6⟩ := ho _ (List.getElem_mem hi)
    obtain ⟨b1, b2, b3, b4, b5, b6⟩ := id h1
    have h2 := h1.next (k := Int.tmod (wrap64 l[i].f0) 4) (n := l[i].f1) (t := l[i].f2) (by omega)
    obtain ⟨c1, c2, c3, c4, c5, c6⟩ := id h2
    have hs := say_in (hear s (Int.tmod (wrap64 l[i].f0) 4) l[i].f1) l[i].f2
    have es : (period s (Int.tmod (wrap64 l[i].f0) 4) l[i].f1 l[i].f2).o = say (hear s (Int.tmod (wrap64 l[i].f0) 4) l[i].f1) l[i].f2 := rfl
    rw [show 2 * (m + 1) + 1 = (2 * m + 1) + 1 + 1 by omega, ambidexterlaw25_ServoCommandClamped.l0, if_pos (by omega), v64 (x := t) (by omega) (by omega), err _ _ _ ⟨b1, b2⟩ (by omega) (by omega)]
    simp only [Option.bind_some]
    rw [if_pos (by omega), sight_at hi, v64 (x := l[i].f1) (by omega) (by omega), v64 (x := l[i].f2) (by omega) (by omega), step_eq (by omega) h1 (by omega) (by omega)]
    simp only [Option.bind_some]
    rw [if_neg (by omega), if_neg (by omega), ambidexterlaw25_ServoCommandClamped.j1, if_neg (by simp), if_pos (by omega), if_pos (by omega), sight_at hi, wi25 (by omega) hi]
    have ih := cc_l0 hl ho ht m (i + 1) _ (by omega) h2
    by_cases c : Int.tmod (wrap64 l[i].f0) 4 = 1
    · rw [if_pos c]
      exact ih
    · rw [if_neg c, v64 (x := t) (by omega) (by omega), err _ _ _ ⟨c1, c2⟩ (by omega) (by omega)]
      simp only [Option.bind_some]
      rw [if_pos, ih]
      rw [v64 (x := 16 * t + 8 - (16 * s.c + s.m + 8) - (period s (Int.tmod (wrap64 l[i].f0) 4) l[i].f1 l[i].f2).o) (by omega) (by omega)]
      have e1 : (period s (Int.tmod (wrap64 l[i].f0) 4) l[i].f1 l[i].f2).c = s.c := by simp [period, hear, c]
      have e2 : (period s (Int.tmod (wrap64 l[i].f0) 4) l[i].f1 l[i].f2).m = s.m + (period s (Int.tmod (wrap64 l[i].f0) 4) l[i].f1 l[i].f2).o := by simp [period, hear, c]
      rw [e1, e2]
      omega
theorem ServoCommandClamped : ∀ (a0 : Int) (l1 : List (S54)) (a2 : Int), (Lit.int .i16 a0).wf = true → (l1.length ≤ maxLen ∧ ∀ y0_ ∈ l1, ok54 y0_) → (Lit.int .i16 a2).wf = true → ∃ k, ambidexterlaw25_ServoCommandClamped.f k a0 l1 a2 = some true := by
  intro x l t hx hl ht
  have hx := bounds_i16 hx
  have ht := bounds_i16 ht
  refine ⟨2 * l.length + 1, ?_⟩
  unfold ambidexterlaw25_ServoCommandClamped.f
  rw [head25]
  simp only [Option.bind_some]
  by_cases c : (l.length : Int) > 300
  · rw [if_pos c]
  · rw [if_neg c, v64 (by omega) (by omega), snew (by omega) (by omega)]
    exact cc_l0 (by omega) (fun y hy => in16 (hl.2 y hy)) ht l.length 0 ⟨x / 16, 0, 0, 0, false⟩ (by omega) (new_bd (by omega) (by omega))
end Go.Proofs.Ytehibiikdlgneaa.Pure
