/- Closed holds only if both channels are true and Bad is not set; a single act clears Bad only if it is a reset at which the channels agree: for every sequence of acts and one act more. -/
import Derived.Test.YthnbcedpdjingaaXDual
import Derived.Test.YthnbcedpdjingaaP14
import Derived.Test.YthnbcedpdjingaaP14
namespace Go.Proofs.Ythnbcedpdjingaa.Pure
set_option linter.unusedSimpArgs false
set_option linter.unusedVariables false
open Go.RowKit Go.Proofs.Ythnbcedpdjingaa.P Go.Proofs.YthnbcedpdjingaaW.PrintWords Go.Proofs.YthnbcedpdjingaaW.PrintLast
theorem made_loop (l : List S47) (d : Nat) : ∀ (k : Nat) (i : Int) (a b : Bool) (n : Int) (c : Bool), 0 ≤ i → i ≤ l.length → (l.length : Int) - i = d → d + 1 ≤ k → l.length ≤ maxLen → Vd a b n c →
    ∃ a' b' n' c', ambidexterlaw26_Made.l0 k l i a b n c = some (a', b', n', c') ∧ Vd a' b' n' c' := by
  induction d with
  | zero =>
    intro k i a b n c h0 h1 hd hk hm hv
    obtain ⟨k, rfl⟩ : ∃ m, k = m + 1 := ⟨k - 1, by omega⟩
    refine ⟨a, b, n, c, ?_, hv⟩
    simp only [ambidexterlaw26_Made.l0]
    rw [if_neg (by omega)]
  | succ d ih =>
    intro k i a b n c h0 h1 hd hk hm hv
    obtain ⟨k, rfl⟩ : ∃ m, k = m + 1 := ⟨k - 1, by omega⟩
    have hlt : i < (l.length : Int) := by omega
    unfold maxLen at hm
    by_cases h3 : i < 300
    · have hv' := stp_valid (z := decide (Int.tmod (rd_T47 l i).f0 8 = 0)) (x := (rd_T47 l i).f1) (y := (rd_T47 l i).f2) hv
      obtain ⟨a', b', n', c', e, hv2⟩ := ih k (i + 1) _ _ _ _ (by omega) (by omega) (by omega) (by omega) (by unfold maxLen; omega) hv'
      refine ⟨a', b', n', c', ?_, hv2⟩
      simp only [ambidexterlaw26_Made.l0]
      rw [if_pos hlt, if_pos h3, if_pos h0, want_eq hv, w64 (x := i + 1) (by omega) (by omega)]
      exact e
    · refine ⟨a, b, n, c, ?_, hv⟩
      simp only [ambidexterlaw26_Made.l0]
      rw [if_pos hlt, if_neg h3]
theorem made (l : List S47) (hm : l.length ≤ maxLen) (j : Nat) : ∃ a b n c, ambidexterlaw26_Made.f ((j + l.length + 1) + 2000) l = some (a, b, n, c) ∧ Vd a b n c :=
  made_loop l l.length _ 0 _ _ _ _ (by omega) (by omega) (by omega) (by omega) hm vd0

theorem DualchannelSafe : ∀ (l0 : List (S47)) (x1 : S47), (l0.length ≤ maxLen ∧ ∀ y0_ ∈ l0, ok47 y0_) → ok47 x1 → ∃ k, ambidexterlaw26_DualchannelSafe.f k l0 x1.f0 x1.f1 x1.f2 = some true := by
  rintro l ⟨d, x, y⟩ ⟨hm, -⟩ -
  obtain ⟨a, b, n, c, hma, hv⟩ := made l hm 0
  refine ⟨(0 + l.length + 1) + 2000, ?_⟩
  unfold ambidexterlaw26_DualchannelSafe.f
  rw [head26, hma]
  simp only [Option.bind_some]
  rw [step_eq hv]
  simp only [Option.bind_some, dualchannel_Closed.f]
  by_cases hz : Int.tmod d 8 = 0
  · simp only [hz, decide_true, stp, if_true]
    cases a <;> cases b <;> cases c <;> simp [ambidexterlaw26_DualchannelSafe.j0, dualchannel_Closed.f, hz]
  · simp only [hz, decide_false, stp, Bool.false_eq_true, if_false]
    obtain ⟨h1, h2, h3, h4⟩ := hv
    by_cases hn : 3 ≤ n
    · simp only [if_pos hn]
      cases x <;> cases y <;> cases c <;> simp [ambidexterlaw26_DualchannelSafe.j0, dualchannel_Closed.f]
    · simp only [if_neg hn]
      cases x <;> cases y <;> cases c <;> simp [ambidexterlaw26_DualchannelSafe.j0, dualchannel_Closed.f]
end Go.Proofs.Ythnbcedpdjingaa.Pure
