/- Each state and each result of Closed agrees with the reference: for every sequence of acts (the first 300 are looked at). -/
import Derived.Test.YthnbcedpdjingaaXDual
import Derived.Test.YthnbcedpdjingaaP11
namespace Go.Proofs.Ythnbcedpdjingaa.Pure
set_option linter.unusedSimpArgs false
set_option linter.unusedVariables false
open Go.RowKit Go.Proofs.Ythnbcedpdjingaa.P Go.Proofs.YthnbcedpdjingaaW.PrintWords Go.Proofs.YthnbcedpdjingaaW.PrintLast
theorem closed_eq (a b : Bool) (n : Int) (c : Bool) : ambidexterref26_Closed.f a b n c = dualchannel_Closed.f a b n c := by
  cases a <;> cases b <;> cases c <;> rfl
theorem matches_loop (l : List S47) (d : Nat) : ∀ (k : Nat) (i : Int) (a b : Bool) (n : Int) (c : Bool), 0 ≤ i → i ≤ l.length → (l.length : Int) - i = d → 2 * d + 2 ≤ k → l.length ≤ maxLen → Vd a b n c →
    ambidexterlaw26_DualchannelMatchesReference.l0 k l true i a b n c = some true := by
  induction d with
  | zero =>
    intro k i a b n c h0 h1 hd hk hm hv
    obtain ⟨k, rfl⟩ : ∃ m, k = m + 2 := ⟨k - 2, by omega⟩
    simp only [ambidexterlaw26_DualchannelMatchesReference.l0, ambidexterlaw26_DualchannelMatchesReference.j1]
    rw [if_neg (by omega), if_neg (by decide)]
  | succ d ih =>
    intro k i a b n c h0 h1 hd hk hm hv
    obtain ⟨k, rfl⟩ : ∃ m, k = m + 2 := ⟨k - 2, by omega⟩
    have hlt : i < (l.length : Int) := by omega
    unfold maxLen at hm
    simp only [ambidexterlaw26_DualchannelMatchesReference.l0, ambidexterlaw26_DualchannelMatchesReference.j1]
    rw [if_pos hlt]
    by_cases h3 : i < 300
    · rw [if_pos (decide_eq_true h3), if_pos h0, if_pos hlt, step_eq hv, want_eq hv, w64 (x := i + 1) (by omega) (by omega)]
      have hv' := stp_valid (z := decide (Int.tmod (rd_T47 l i).f0 8 = 0)) (x := (rd_T47 l i).f1) (y := (rd_T47 l i).f2) hv
      generalize stp (decide (Int.tmod (rd_T47 l i).f0 8 = 0)) a b n c (rd_T47 l i).f1 (rd_T47 l i).f2 = z at hv' ⊢
      obtain ⟨z1, z2, z3, z4⟩ := z
      simp only [Option.bind_some, closed_eq, beq_self_eq_true, Bool.not_true, Bool.or_false]
      rw [if_neg (by decide)]
      simp only [dualchannel_Closed.f, Option.bind_some, bne_self_eq_false]
      rw [if_neg (by decide)]
      exact ih k (i + 1) _ _ _ _ (by omega) (by omega) (by omega) (by omega) (by unfold maxLen; omega) hv'
    · rw [if_neg (by simpa using h3)]
theorem DualchannelMatchesReference : ∀ (l0 : List (S47)), (l0.length ≤ maxLen ∧ ∀ y0_ ∈ l0, ok47 y0_) → ∃ k, ambidexterlaw26_DualchannelMatchesReference.f k l0 = some true := by
  rintro l ⟨hm, -⟩
  refine ⟨(2 * l.length + 2) + 2000, ?_⟩
  unfold ambidexterlaw26_DualchannelMatchesReference.f
  rw [head26]
  simp only [Option.bind_some]
  exact matches_loop l l.length _ 0 _ _ _ _ (by omega) (by omega) (by omega) (by omega) hm vd0
end Go.Proofs.Ythnbcedpdjingaa.Pure
