/- A joint that moves as commanded keeps in its target count. -/
import Derived.Test.YtehibiikdlgneaaXServo25
import Derived.Test.YtehibiikdlgneaaP15
namespace Go.Proofs.Ytehibiikdlgneaa.Pure
set_option linter.unusedSimpArgs false
set_option linter.unusedVariables false
open Go.RowKit Go.Proofs.Ytehibiikdlgneaa.P Go.Proofs.YtehibiikdlgneaaW.PrintWords Go.Proofs.YtehibiikdlgneaaW.PrintLast Go.Proofs.YtehibiikdlgneaaW.PrintMore
/-- The place is where the estimate says, but for the place within the count. -/
def Near (at_ : Int) (s : Sv) : Prop := 0 ≤ at_ - 16 * s.c - s.m ∧ at_ - 16 * s.c - s.m ≤ 15
theorem near_hear {at_ : Int} {s : Sv} (h : Near at_ s) (k : Int) : Near at_ (hear s k (at_ / 16)) := by
  unfold Near at *
  unfold hear
  split <;> dsimp only <;> omega
theorem near_period {at_ : Int} {s : Sv} (h : Near at_ s) (k t : Int) : Near (at_ + (period s k (at_ / 16) t).o) (period s k (at_ / 16) t) := by
  have h1 := near_hear h k
  unfold Near at *
  unfold period
  dsimp only
  omega
theorem tt_period {at_ : Int} {s : Sv} (h : Near at_ s) (k t : Int) (hl : (period s k (at_ / 16) t).l = false) (h0 : (period s k (at_ / 16) t).o < 128) (h1 : (period s k (at_ / 16) t).o > -128) : (at_ + (period s k (at_ / 16) t).o) / 16 = t := by
  have hn := near_hear h k
  have hl' : (hear s k (at_ / 16)).l = false := hl
  have eo : (period s k (at_ / 16) t).o = clamp (far (hear s k (at_ / 16)) t) := by
    show say _ _ = _
    unfold say
    rw [if_neg (by rw [hl']; decide)]
  rw [eo] at h0 h1 ⊢
  unfold Near at hn
  have e : clamp (far (hear s k (at_ / 16)) t) = far (hear s k (at_ / 16)) t := by
    unfold clamp at h0 h1 ⊢
    split at h0 <;> (try split at h0) <;> (try split at h1) <;> simp_all <;> omega
  rw [e]
  unfold far
  omega
theorem tt_l0 {l : List S54} (hl : l.length ≤ 300) (ho : ∀ y ∈ l, In16 y) : ∀ (m i : Nat) (at_ : Int) (s : Sv), i + m = l.length → Bd i s → Near at_ s → s.l = false → s.g ≤ 6 → -32768 - 128 * (i : Int) ≤ at_ → at_ ≤ 32767 + 128 * (i : Int) → ambidexterlaw25_ServoTracksTarget.l0 (3 * m + 1) l true at_ s.g i s.c s.m s.g s.o s.l = some true
  | 0, i, at_, s, h, _, _, _, _, _, _ => by rw [ambidexterlaw25_ServoTracksTarget.l0, if_neg (by omega)]
  | m + 1, i, at_, s, h, h1, hn, hs, hg, a1, a2 => by
    have hi : i < l.length := by omega
    obtain ⟨o1, o2, o3, o4, o5, o6⟩ := ho _ (List.getElem_mem hi)
    have b5 := h1.2.2.2.2.1
    have key : ∀ k : Int, (k ≠ 1 → s.g + 1 ≤ 6) → ambidexterlaw25_ServoTracksTarget.j1 (3 * m + 3) l true at_ s.g i k s.c s.m s.g s.o s.l = some true := by
      intro k hk
      have h2 := h1.next (k := k) (n := at_ / 16) (t := l[i].f2) (by omega)
      have hn2 := near_period hn k l[i].f2
      have hsay := say_in (hear s k (at_ / 16)) l[i].f2
      have es : (period s k (at_ / 16) l[i].f2).o = say (hear s k (at_ / 16)) l[i].f2 := rfl
      have hg2 : (period s k (at_ / 16) l[i].f2).g = if k = 1 then 0 else s.g + 1 := by
        show (hear s k (at_ / 16)).g = _
        unfold hear
        split <;> rfl
      have hg6 : (period s k (at_ / 16) l[i].f2).g ≤ 6 := by
        rw [hg2]
        by_cases c : k = 1
        · rw [if_pos c]; omega
        · rw [if_neg c]; exact hk c
      have hl2 : (period s k (at_ / 16) l[i].f2).l = false := by
        show (hear s k (at_ / 16)).l = _
        unfold hear
        by_cases c : k = 1
        · rw [if_pos c]; exact hs
        · rw [if_neg c, hs]
          have := hk c
          simp
          omega
      have ih := tt_l0 hl ho m (i + 1) _ _ (by omega) h2 hn2 hl2 hg6 (by omega) (by omega)
      have hj2 : ambidexterlaw25_ServoTracksTarget.j2 (3 * m + 2) l true at_ (period s k (at_ / 16) l[i].f2).g i k s.c s.m s.g s.o s.l = some true := by
        rw [ambidexterlaw25_ServoTracksTarget.j2, rquant (by omega) (by omega)]
        simp only [Option.bind_some]
        rw [if_pos (by omega), if_pos (by omega), sight_at hi, v64 (x := l[i].f2) (by omega) (by omega), step_eq (by omega) h1 (by omega) (by omega)]
        simp only [Option.bind_some]
        rw [if_neg (by rw [hl2]; decide), wi25 (by omega) hi, v64 (x := at_ + (period s k (at_ / 16) l[i].f2).o) (by omega) (by omega)]
        by_cases c1 : (period s k (at_ / 16) l[i].f2).o < 128
        · rw [if_pos c1]
          by_cases c2 : (period s k (at_ / 16) l[i].f2).o > -128
          · rw [if_pos c2, rquant (by omega) (by omega)]
            simp only [Option.bind_some]
            rw [if_pos (tt_period hn k l[i].f2 hl2 c1 c2)]
            exact ih
          · rw [if_neg c2]
            exact ih
        · rw [if_neg c1]
          exact ih
      rw [ambidexterlaw25_ServoTracksTarget.j1]
      by_cases c : k = 1
      · rw [if_pos c]
        rw [hg2, if_pos c] at hj2
        exact hj2
      · rw [if_neg c, v64 (by omega) (by omega)]
        rw [hg2, if_neg c] at hj2
        exact hj2
    rw [show 3 * (m + 1) + 1 = (3 * m + 3) + 1 by omega, ambidexterlaw25_ServoTracksTarget.l0, if_pos (by omega), if_pos (by omega)]
    by_cases c : s.g ≥ 6
    · rw [if_pos c]
      exact key 1 (fun e => absurd rfl e)
    · rw [if_neg c]
      exact key _ (fun _ => by omega)
theorem ServoTracksTarget : ∀ (a0 : Int) (l1 : List (S54)), (Lit.int .i16 a0).wf = true → (l1.length ≤ maxLen ∧ ∀ y0_ ∈ l1, ok54 y0_) → ∃ k, ambidexterlaw25_ServoTracksTarget.f k a0 l1 = some true := by
  intro x l hx hl
  have hx := bounds_i16 hx
  refine ⟨3 * l.length + 1, ?_⟩
  unfold ambidexterlaw25_ServoTracksTarget.f
  rw [head25]
  simp only [Option.bind_some]
  by_cases c : (l.length : Int) > 300
  · rw [if_pos c]
  · rw [if_neg c, v64 (by omega) (by omega), snew (by omega) (by omega)]
    refine tt_l0 (by omega) (fun y hy => in16 (hl.2 y hy)) l.length 0 x ⟨x / 16, 0, 0, 0, false⟩ (by omega) (new_bd (by omega) (by omega)) ?_ rfl (by dsimp only; omega) (by omega) (by omega)
    unfold Near
    dsimp only
    omega
end Go.Proofs.Ytehibiikdlgneaa.Pure
