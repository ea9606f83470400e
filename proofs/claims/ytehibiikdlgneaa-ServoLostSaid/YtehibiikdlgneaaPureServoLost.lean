/- Lost just where seven samples on end were not good. -/
import Derived.Test.YtehibiikdlgneaaXServo25
import Derived.Test.YtehibiikdlgneaaP4
namespace Go.Proofs.Ytehibiikdlgneaa.Pure
set_option linter.unusedSimpArgs false
set_option linter.unusedVariables false
open Go.RowKit Go.Proofs.Ytehibiikdlgneaa.P Go.Proofs.YtehibiikdlgneaaW.PrintWords Go.Proofs.YtehibiikdlgneaaW.PrintLast Go.Proofs.YtehibiikdlgneaaW.PrintMore
theorem lost_l0 {l : List S54} (hl : l.length ≤ 600) (ho : ∀ y ∈ l, In16 y) : ∀ (m i : Nat) (s : Sv), i + m = l.length → Bd i s → ambidexterlaw25_ServoLost.l0 (m + 1) true s.g s.l l i s.c s.m s.g s.o s.l = some true
  | 0, i, s, h, h1 => by rw [ambidexterlaw25_ServoLost.l0, if_neg (by omega)]
  | m + 1, i, s, h, h1 => by
    have hi : i < l.length := by omega
    obtain ⟨o1, o2, o3, o4, o5, o6⟩ := ho _ (List.getElem_mem hi)
    obtain ⟨b1, b2, b3, b4, b5, b6⟩ := id h1
    have h2 := h1.next (k := Int.tmod (wrap64 l[i].f0) 4) (n := l[i].f1) (t := l[i].f2) (by omega)
    have ih := lost_l0 hl ho m (i + 1) _ (by omega) h2
    rw [ambidexterlaw25_ServoLost.l0, if_pos (by omega), if_pos (by omega), sight_at hi, wi25 (by omega) hi, v64 (x := l[i].f1) (by omega) (by omega), v64 (x := l[i].f2) (by omega) (by omega), step_eq (by omega) h1 (by omega) (by omega), v64 (x := s.g + 1) (by omega) (by omega)]
    simp only [Option.bind_some]
    by_cases c : Int.tmod (wrap64 l[i].f0) 4 = 1
    · have eg : (period s (Int.tmod (wrap64 l[i].f0) 4) l[i].f1 l[i].f2).g = 0 := by simp [period, hear, c]
      have el : (period s (Int.tmod (wrap64 l[i].f0) 4) l[i].f1 l[i].f2).l = s.l := by simp [period, hear, c]
      rw [if_pos c]
      cases hs : s.l with
      | true =>
        have eo : (period s (Int.tmod (wrap64 l[i].f0) 4) l[i].f1 l[i].f2).o = 0 := by simp [period, hear, c, say, hs]
        rw [if_pos rfl, el, hs, if_neg (by decide), if_pos eo]
        rw [eg, el, hs] at ih
        rw [eg]
        exact ih
      | false =>
        rw [if_neg (by decide), el, hs, if_neg (by decide)]
        rw [eg, el, hs] at ih
        rw [eg]
        exact ih
    · have eg : (period s (Int.tmod (wrap64 l[i].f0) 4) l[i].f1 l[i].f2).g = s.g + 1 := by simp [period, hear, c]
      have el : (period s (Int.tmod (wrap64 l[i].f0) 4) l[i].f1 l[i].f2).l = (s.l || decide (s.g + 1 > 6)) := by simp [period, hear, c]
      rw [if_neg c]
      cases hs : s.l with
      | true =>
        have el' : (period s (Int.tmod (wrap64 l[i].f0) 4) l[i].f1 l[i].f2).l = true := by rw [el, hs]; rfl
        have eo : (period s (Int.tmod (wrap64 l[i].f0) 4) l[i].f1 l[i].f2).o = 0 := by simp [period, hear, c, say, hs]
        rw [if_pos rfl, el', if_neg (by decide), if_pos eo]
        rw [eg, el'] at ih
        rw [eg]
        exact ih
      | false =>
        have el' : (period s (Int.tmod (wrap64 l[i].f0) 4) l[i].f1 l[i].f2).l = decide (s.g + 1 > 6) := by rw [el, hs]; rfl
        rw [if_neg (by decide), el', if_neg (by simp)]
        rw [eg, el'] at ih
        rw [eg]
        by_cases c6 : s.g + 1 > 6
        · have eo : (period s (Int.tmod (wrap64 l[i].f0) 4) l[i].f1 l[i].f2).o = 0 := by
            have : (hear s (Int.tmod (wrap64 l[i].f0) 4) l[i].f1).l = true := by simp [hear, c, c6]
            show say _ _ = 0
            unfold say
            rw [if_pos this]
          rw [if_pos c6, if_pos eo]
          exact ih
        · rw [if_neg c6]
          exact ih
theorem ServoLost : ∀ (a0 : Int) (l1 : List (S54)) (l2 : List (S54)), (Lit.int .i16 a0).wf = true → (l1.length ≤ maxLen ∧ ∀ y0_ ∈ l1, ok54 y0_) → (l2.length ≤ maxLen ∧ ∀ y0_ ∈ l2, ok54 y0_) → ∃ k, ambidexterlaw25_ServoLost.f k a0 l1 l2 = some true := by
  intro x l l' hx hl hl'
  have hx := bounds_i16 hx
  refine ⟨(l ++ l').length + 1 + 1, ?_⟩
  unfold ambidexterlaw25_ServoLost.f
  rw [head25]
  simp only [Option.bind_some, ambidexterlaw25_ServoLost.j0]
  have hlen : (l ++ l').length = l.length + l'.length := by simp
  by_cases c : (l.length : Int) > 300
  · rw [if_pos c, if_pos trivial]
  · rw [if_neg c]
    by_cases c' : (l'.length : Int) > 300
    · rw [if_pos (by simpa using c')]
    · rw [if_neg (by simpa using c'), v64 (by omega) (by omega), snew (by omega) (by omega)]
      simp only [Option.bind_some, List.length_nil, List.nil_append]
      rw [if_pos (by omega), if_pos (by omega)]
      exact lost_l0 (by omega) (fun y hy => by
        rcases List.mem_append.1 hy with h | h
        · exact in16 (hl.2 y h)
        · exact in16 (hl'.2 y h)) (l ++ l').length 0 ⟨x / 16, 0, 0, 0, false⟩ (by omega) (new_bd (by omega) (by omega))
end Go.Proofs.Ytehibiikdlgneaa.Pure
