/- Towards a target that stays, with good samples: full speed while it is far, then in its count, for good. -/
import Derived.Test.YtehibiikdlgneaaXServo25
import Derived.Test.YtehibiikdlgneaaP16
namespace Go.Proofs.Ytehibiikdlgneaa.Pure
set_option linter.unusedSimpArgs false
set_option linter.unusedVariables false
open Go.RowKit Go.Proofs.Ytehibiikdlgneaa.P Go.Proofs.YtehibiikdlgneaaW.PrintWords Go.Proofs.YtehibiikdlgneaaW.PrintLast Go.Proofs.YtehibiikdlgneaaW.PrintMore
/-- Where the joint stands after i ticks: in the count; or one full step nearer with each. -/
def On (t at_ far_ : Int) (i : Nat) : Prop := at_ / 16 = t ∨ (at_ ≤ 16 * t + 8 ∧ 16 * t + 8 - at_ + 128 * (i : Int) = far_) ∨ (16 * t + 8 ≤ at_ ∧ at_ - (16 * t + 8) + 128 * (i : Int) = far_)
theorem on_next {t at_ far_ : Int} {i : Nat} (h : On t at_ far_ i) :
    (at_ + clamp (16 * t + 8 - (16 * (at_ / 16) + 0 + 8))) / 16 = t ∨ ((at_ + clamp (16 * t + 8 - (16 * (at_ / 16) + 0 + 8))) / 16 ≠ t ∧ On t (at_ + clamp (16 * t + 8 - (16 * (at_ / 16) + 0 + 8))) far_ (i + 1) ∧ 128 * ((i : Int) + 1) ≤ far_) := by
  have hc : clamp (16 * t + 8 - (16 * (at_ / 16) + 0 + 8)) = if 16 * t + 8 - (16 * (at_ / 16) + 0 + 8) > 128 then 128 else if 16 * t + 8 - (16 * (at_ / 16) + 0 + 8) < -128 then -128 else 16 * t + 8 - (16 * (at_ / 16) + 0 + 8) := rfl
  generalize clamp (16 * t + 8 - (16 * (at_ / 16) + 0 + 8)) = o at *
  by_cases e : (at_ + o) / 16 = t
  · exact .inl e
  · right
    refine ⟨e, ?_⟩
    unfold On at *
    split at hc
    · omega
    · split at hc
      · omega
      · omega
theorem cv_l0 {t : Int} (ht : -32768 ≤ t ∧ t ≤ 32767) {more : Int} (hm : 0 ≤ more ∧ more ≤ 255) {far_ : Int} (hf0 : 0 ≤ far_) (hf : far_ ≤ 600000) : ∀ (m i : Nat) (at_ : Int) (s : Sv), ((i + m : Nat) : Int) = far_ / 128 + 2 + more → Bd i s → s.l = false → -600000 ≤ at_ → at_ ≤ 600000 → On t at_ far_ i → (far_ / 128 + 2 < (i : Int) → at_ / 16 = t) →
    ambidexterlaw25_ServoConverges.l0 (3 * m + 2) t more true at_ (16 * t + 8) (far_ / 128 + 2) i s.c s.m s.g s.o s.l = some true
  | 0, i, at_, s, h, h1, hs, a1, a2, hon, hin => by
    rw [ambidexterlaw25_ServoConverges.l0, if_pos (by omega), v64 (x := more) (by omega) (by omega), v64 (by omega) (by omega), ambidexterlaw25_ServoConverges.j2, if_neg (by simp; omega)]
  | m + 1, i, at_, s, h, h1, hs, a1, a2, hon, hin => by
    have h2 := h1.next (k := 1) (n := at_ / 16) (t := t) (by omega)
    have eo : (period s 1 (at_ / 16) t).o = clamp (16 * t + 8 - (16 * (at_ / 16) + 0 + 8)) := by
      show say (hear s 1 (at_ / 16)) t = _
      have : (hear s 1 (at_ / 16)).l = false := by simp [hear, hs]
      unfold say
      rw [if_neg (by rw [this]; decide)]
      rfl
    have el : (period s 1 (at_ / 16) t).l = false := by simp [period, hear, hs]
    have hnx := on_next hon
    rw [← eo] at hnx
    have hcl := clamp_in (16 * t + 8 - (16 * (at_ / 16) + 0 + 8))
    have hc : (period s 1 (at_ / 16) t).o = if 16 * t + 8 - (16 * (at_ / 16) + 0 + 8) > 128 then 128 else if 16 * t + 8 - (16 * (at_ / 16) + 0 + 8) < -128 then -128 else 16 * t + 8 - (16 * (at_ / 16) + 0 + 8) := by rw [eo]; rfl
    have q1 : 16 * t + 8 - at_ > 140 → (period s 1 (at_ / 16) t).o = 128 := fun c => by rw [hc, if_pos (by omega)]
    have q2 : 16 * t + 8 - at_ < -140 → (period s 1 (at_ / 16) t).o = -128 := fun c => by rw [hc, if_neg (by omega), if_pos (by omega)]
    have hr : -600000 ≤ at_ + (period s 1 (at_ / 16) t).o ∧ at_ + (period s 1 (at_ / 16) t).o ≤ 600000 := by
      split at hc
      · omega
      · split at hc <;> omega
    have hon' : On t (at_ + (period s 1 (at_ / 16) t).o) far_ (i + 1) := by
      rcases hnx with e | ⟨_, e, _⟩
      · exact .inl e
      · exact e
    have hin' : far_ / 128 + 2 ≤ (i : Int) → (at_ + (period s 1 (at_ / 16) t).o) / 16 = t := fun c => by
      rcases hnx with e | ⟨_, _, e⟩
      · exact e
      · omega
    have ih := cv_l0 ht hm hf0 hf m (i + 1) _ _ (by omega) h2 el hr.1 hr.2 hon' (fun c => hin' (by omega))
    have hj3 : ambidexterlaw25_ServoConverges.j3 (3 * m + 3) t more true (at_ + (period s 1 (at_ / 16) t).o) (16 * t + 8) (far_ / 128 + 2) i false (period s 1 (at_ / 16) t).c (period s 1 (at_ / 16) t).m (period s 1 (at_ / 16) t).g (period s 1 (at_ / 16) t).o (period s 1 (at_ / 16) t).l = some true := by
      rw [ambidexterlaw25_ServoConverges.j3, if_neg (by decide), wi25 (n := i + 1) (by omega) (by omega), v64 (x := t) (by omega) (by omega)]
      by_cases c : (i : Int) ≥ far_ / 128 + 2
      · rw [if_pos c, rquant (by omega) (by omega)]
        simp only [Option.bind_some]
        rw [if_pos (hin' c)]
        exact ih
      · rw [if_neg c]
        exact ih
    rw [show 3 * (m + 1) + 2 = (3 * m + 3) + 1 + 1 by omega, ambidexterlaw25_ServoConverges.l0, if_pos (by omega), v64 (x := more) (by omega) (by omega), v64 (by omega) (by omega), ambidexterlaw25_ServoConverges.j2, if_pos (by simp; omega), rquant (by omega) (by omega)]
    simp only [Option.bind_some]
    rw [v64 (x := t) (by omega) (by omega), step_eq (by omega) h1 (by omega) (by omega), v64 (x := 16 * t + 8 - at_) (by omega) (by omega)]
    simp only [Option.bind_some]
    rw [v64 (x := at_ + (period s 1 (at_ / 16) t).o) (by omega) (by omega)]
    by_cases c1 : 16 * t + 8 - at_ > 140
    · rw [if_pos c1, if_pos (q1 c1), if_neg (by omega)]
      exact hj3
    · rw [if_neg c1]
      by_cases c2 : 16 * t + 8 - at_ < -140
      · have e : ((period s 1 (at_ / 16) t).o != -128) = false := by rw [q2 c2]; rfl
        rw [if_pos c2, e]
        exact hj3
      · rw [if_neg c2]
        exact hj3
theorem ServoConverges : ∀ (a0 : Int) (a1 : Int) (a2 : Int), (Lit.int .i16 a0).wf = true → (Lit.int .i16 a1).wf = true → (Lit.int .u8 a2).wf = true → ∃ k, ambidexterlaw25_ServoConverges.f k a0 a1 a2 = some true := by
  intro x t more hx ht hm
  have hx := bounds_i16 hx
  have ht := bounds_i16 ht
  have hm := bounds_u8 hm
  have key : ∀ far_ : Int, 0 ≤ far_ → far_ ≤ 600000 → On t x far_ 0 → ambidexterlaw25_ServoConverges.j0 (3 * 5000 + 2 + 1) t more true x (16 * t + 8) far_ (x / 16) 0 0 0 false = some true := by
    intro far_ h0 h1 h2
    rw [ambidexterlaw25_ServoConverges.j0, Int.tdiv_eq_ediv_of_nonneg h0, v64 (x := far_ / 128) (by omega) (by omega), v64 (by omega) (by omega)]
    obtain ⟨m, hm'⟩ : ∃ m : Nat, (m : Int) = far_ / 128 + 2 + more := ⟨(far_ / 128 + 2 + more).toNat, by omega⟩
    have := cv_l0 ht hm h0 h1 m 0 x ⟨x / 16, 0, 0, 0, false⟩ (by omega) (new_bd (by omega) (by omega)) rfl (by omega) (by omega) h2 (fun c => by omega)
    exact at_rounds (fun k' => (ambidexterlaw25_ServoConverges.mono_l k').2.1 _ _ _ _ _ _ _ _ _ _ _ _) (by omega) this
  refine ⟨3 * 5000 + 2 + 1, ?_⟩
  unfold ambidexterlaw25_ServoConverges.f
  rw [head25, v64 (x := x) (by omega) (by omega), v64 (x := t) (by omega) (by omega), v64 (x := 16 * t) (by omega) (by omega), v64 (x := 16 * t + 8) (by omega) (by omega), v64 (x := 16 * t + 8 - x) (by omega) (by omega), snew (by omega) (by omega)]
  simp only [Option.bind_some]
  by_cases c : 16 * t + 8 - x < 0
  · rw [if_pos c, v64 (by omega) (by omega)]
    exact key _ (by omega) (by omega) (by unfold On; omega)
  · rw [if_neg c]
    exact key _ (by omega) (by omega) (by unfold On; omega)
end Go.Proofs.Ytehibiikdlgneaa.Pure
