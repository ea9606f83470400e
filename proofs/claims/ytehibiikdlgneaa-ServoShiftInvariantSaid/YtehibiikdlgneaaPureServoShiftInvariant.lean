/- The same counts added to everything change no command. -/
import Derived.Test.YtehibiikdlgneaaXServo25
import Derived.Test.YtehibiikdlgneaaP19
namespace Go.Proofs.Ytehibiikdlgneaa.Pure
set_option linter.unusedSimpArgs false
set_option linter.unusedVariables false
open Go.RowKit Go.Proofs.Ytehibiikdlgneaa.P Go.Proofs.YtehibiikdlgneaaW.PrintWords Go.Proofs.YtehibiikdlgneaaW.PrintLast Go.Proofs.YtehibiikdlgneaaW.PrintMore
def moved (by_ : Int) (s : Sv) : Sv := ⟨s.c + by_, s.m, s.g, s.o, s.l⟩
theorem hear_moved (b : Int) (s : Sv) (k n : Int) : hear (moved b s) k (n + b) = moved b (hear s k n) := by
  unfold hear moved
  split <;> rfl
theorem say_moved (b : Int) (s : Sv) (t : Int) : say (moved b s) (t + b) = say s t := by
  have e : far (moved b s) (t + b) = far s t := by unfold far moved; dsimp only; omega
  unfold say
  rw [e]
  rfl
theorem period_moved (b : Int) (s : Sv) (k n t : Int) : period (moved b s) k (n + b) (t + b) = moved b (period s k n t) := by
  unfold period
  rw [hear_moved, say_moved]
  rfl
theorem sh_l0 {l : List S54} (hl : l.length ≤ 300) (ho : ∀ y ∈ l, In16 y) {b : Int} (hb : -128 ≤ b ∧ b ≤ 127) : ∀ (m i : Nat) (s : Sv), i + m = l.length → Bd i s → Bd i (moved b s) → ambidexterlaw25_ServoShiftInvariant.l0 (m + 1) b l true i s.c s.m s.g s.o s.l (moved b s).c (moved b s).m (moved b s).g (moved b s).o (moved b s).l = some true
  | 0, i, s, h, h1, h2 => by rw [ambidexterlaw25_ServoShiftInvariant.l0, if_neg (by omega)]
  | m + 1, i, s, h, h1, h2 => by
    have hi : i < l.length := by omega
    obtain ⟨o1, o2, o3, o4, o5, o6⟩ := ho _ (List.getElem_mem hi)
    rw [ambidexterlaw25_ServoShiftInvariant.l0, if_pos (by omega), if_pos (by omega), sight_at hi, wi25 (by omega) hi, v64 (x := l[i].f1) (by omega) (by omega), v64 (x := l[i].f2) (by omega) (by omega), v64 (x := b) (by omega) (by omega), v64 (x := l[i].f1 + b) (by omega) (by omega), v64 (x := l[i].f2 + b) (by omega) (by omega),
      step_eq (by omega) h1 (by omega) (by omega), step_eq (by omega) h2 (by omega) (by omega), period_moved]
    simp only [Option.bind_some]
    rw [if_pos (by rfl), if_neg (by simp [moved])]
    have h2' := h2.next (k := Int.tmod (wrap64 l[i].f0) 4) (n := l[i].f1 + b) (t := l[i].f2 + b) (by omega)
    rw [period_moved] at h2'
    exact sh_l0 hl ho hb m (i + 1) _ (by omega) (h1.next (by omega)) h2'
theorem ServoShiftInvariant : ∀ (a0 : Int) (a1 : Int) (l2 : List (S54)), (Lit.int .i16 a0).wf = true → (Lit.int .i8 a1).wf = true → (l2.length ≤ maxLen ∧ ∀ y0_ ∈ l2, ok54 y0_) → ∃ k, ambidexterlaw25_ServoShiftInvariant.f k a0 a1 l2 = some true := by
  intro x b l hx hb hl
  have hx := bounds_i16 hx
  have hb := bounds_i8 hb
  refine ⟨l.length + 1, ?_⟩
  unfold ambidexterlaw25_ServoShiftInvariant.f
  rw [head25]
  simp only [Option.bind_some]
  by_cases c : (l.length : Int) > 300
  · rw [if_pos c]
  · rw [if_neg c, v64 (x := x) (by omega) (by omega), v64 (x := b) (by omega) (by omega), v64 (x := 16 * b) (by omega) (by omega), v64 (x := x + 16 * b) (by omega) (by omega), snew (by omega) (by omega), snew (by omega) (by omega)]
    have e : (x + 16 * b) / 16 = x / 16 + b := by omega
    rw [e]
    refine sh_l0 (by omega) (fun y hy => in16 (hl.2 y hy)) hb l.length 0 ⟨x / 16, 0, 0, 0, false⟩ (by omega) (new_bd (by omega) (by omega)) ?_
    unfold Bd moved
    dsimp only
    omega
end Go.Proofs.Ytehibiikdlgneaa.Pure
