/- Profile gives the best path, or tells that there is none. -/
import Derived.Test.YtjcefdockfbnaaaXGreedy22
namespace Go.Proofs.Ytjcefdockfbnaaa.Pure
set_option linter.unusedSimpArgs false
set_option linter.unusedVariables false
open Go.RowKit Go.Proofs.Ytjcefdockfbnaaa.P Go.Proofs.YtjcefdockfbnaaaW.PrintWords Go.Proofs.YtjcefdockfbnaaaW.PrintLast Go.Proofs.YtjcefdockfbnaaaW.PrintMore Go.Proofs.Ytjcefdockfbnaaa.Motion

theorem valid_ok {L : Lm} (hL : ok L) : profile_ValidLimits.f L.v L.a L.j = some true := by
  unfold profile_ValidLimits.f
  unfold ok at hL
  rw [decide_eq_true hL]
theorem profile_ok {L : Lm} (hL : ok L) {d : Int} (d0 : 0 ≤ d) (d1 : d ≤ 420) :
    (∃ l K, (∀ k, K ≤ k → mintime_Profile.f k L.v L.a L.j d = some (l, true)) ∧ Best L d l) ∨ ((∃ K, ∀ k, K ≤ k → mintime_Profile.f k L.v L.a L.j d = some ([], false)) ∧ ¬ ∃ l, Path L d zero l (goal d)) := by
  obtain ⟨k1, out, hk1, hp⟩ := left_ok hL d0 d1
  have hz : may L d zero := by
    unfold ok at hL
    unfold may zero
    dsimp only
    omega
  obtain ⟨r0, r1, r2⟩ := idx_range hL d0 d1 hz
  have hlen := hp.tab.len
  have hnn := lab_nn hL d0 d1 hp.tab hz
  have e1 := of_at hL d0 d1 zero
  rw [if_pos hz] at e1
  have e1' : mintime_space_of.f L.v L.a L.j d 0 0 0 = some (idx L zero, true) := e1
  have hf : ∀ k res, mintime_Profile.j0 k d false L.v L.a L.j = some res → mintime_Profile.f k L.v L.a L.j d = some res := fun k res h => by
    rw [mintime_Profile.f, valid_ok hL]
    simp only [Option.bind_some]
    rw [if_pos trivial, if_neg (by omega), decide_eq_false (by omega)]
    exact h
  by_cases c : lab L out zero = 0
  · right
    refine ⟨⟨k1 + 1, fun k hk => ?_⟩, ?_⟩
    · have h1 : mintime_Profile.f (k1 + 1) L.v L.a L.j d = some ([], false) := by
        apply hf
        rw [mintime_Profile.j0, if_neg (by decide), hk1]
        simp only [Option.bind_some]
        rw [e1']
        simp only [Option.bind_some]
        rw [if_pos r0, if_pos (by omega), rd_idx, if_pos c]
      exact at_rounds (mintime_Profile.mono L.v L.a L.j d) hk h1
    · rintro ⟨l, hl⟩
      have := (hp.full l zero hz hl (.inr (by omega))).1
      omega
  · left
    obtain ⟨t, ht⟩ : ∃ t : Nat, lab L out zero = (t : Int) + 1 := ⟨(lab L out zero - 1).toNat, by omega⟩
    obtain ⟨k2, r, hk2, hpath, hrl, hbest⟩ := greedy hL d0 d1 hp t zero [] hz ht (by omega) (by simp; omega)
    have hk2' : mintime_Profile.l0 k2 out (idx L zero) [] L.v L.a L.j L.v L.a L.j d 0 0 0 = some (r, true) := hk2
    refine ⟨r, max k1 k2 + 1, fun k hk => ?_, hpath, fun s hs => ?_⟩
    · have h1 : mintime_Profile.f (max k1 k2 + 1) L.v L.a L.j d = some (r, true) := by
        apply hf
        rw [mintime_Profile.j0, if_neg (by decide), at_rounds (mintime_space_left.mono L.v L.a L.j d) (Nat.le_max_left k1 k2) hk1]
        simp only [Option.bind_some]
        rw [e1']
        simp only [Option.bind_some]
        rw [if_pos r0, if_pos (by omega), rd_idx, if_neg c]
        exact at_rounds (fun k' => (mintime_Profile.mono_l k').2.1 _ _ _ _ _ _ _ _ _ _ _ _ _) (Nat.le_max_right k1 k2) hk2'
      exact at_rounds (mintime_Profile.mono L.v L.a L.j d) hk h1
    · have := hp.exact hz (Int.le_refl _) hs
      exact ⟨by omega, fun e => hbest s hs (by omega)⟩
/-- Of limits that are not valid, and of distances out of bounds, it tells nothing. -/
theorem profile_no {v a j d : Int} (h : ¬ (ok ⟨v, a, j⟩ ∧ 0 ≤ d ∧ d ≤ 420)) (k : Nat) : mintime_Profile.f (k + 1) v a j d = some ([], false) := by
  have hj : mintime_Profile.j0 (k + 1) d true v a j = some ([], false) := by rw [mintime_Profile.j0, if_pos rfl]
  rw [mintime_Profile.f, profile_ValidLimits.f]
  simp only [Option.bind_some]
  by_cases c : ok ⟨v, a, j⟩
  · rw [if_pos (decide_eq_true (show 1 ≤ v ∧ v ≤ 8 ∧ 1 ≤ a ∧ a ≤ 4 ∧ 1 ≤ j ∧ j ≤ 2 from c))]
    by_cases c1 : d < 0
    · rw [if_pos c1]; exact hj
    · rw [if_neg c1, decide_eq_true (show d > 420 by have h2 : ¬ (0 ≤ d ∧ d ≤ 420) := fun e => h ⟨c, e⟩; omega)]
      exact hj
  · rw [if_neg (by rw [decide_eq_true_eq]; exact c)]
    exact hj
end Go.Proofs.Ytjcefdockfbnaaa.Pure
