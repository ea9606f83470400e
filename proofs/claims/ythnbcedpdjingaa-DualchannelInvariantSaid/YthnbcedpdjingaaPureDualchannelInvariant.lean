/- Every reachable state is valid: for every sequence of acts (the first 300 are looked at). -/
import Derived.Test.YthnbcedpdjingaaXDual
import Derived.Test.YthnbcedpdjingaaP12
namespace Go.Proofs.Ythnbcedpdjingaa.Pure
set_option linter.unusedSimpArgs false
set_option linter.unusedVariables false
open Go.RowKit Go.Proofs.Ythnbcedpdjingaa.P Go.Proofs.YthnbcedpdjingaaW.PrintWords Go.Proofs.YthnbcedpdjingaaW.PrintLast
theorem right_eq {a b : Bool} {n : Int} {c : Bool} (h : Vd a b n c) : ambidexterref26_Right.f a b n c = some true := by
  obtain ⟨h1, h2, h3, h4⟩ := h
  unfold ambidexterref26_Right.f
  have e : ((n == 0) == (a == b)) = true := by
    rw [beq_iff_eq, Bool.eq_iff_iff, beq_iff_eq, beq_iff_eq]
    exact h3
  rw [if_pos (by omega), if_pos h2, if_pos e]
  by_cases hn : n < 4
  · rw [if_pos hn]
  · rw [if_neg hn, h4 (by omega)]
theorem invariant_loop (l : List S47) (d : Nat) : ∀ (k : Nat) (i : Int) (a b : Bool) (n : Int) (c : Bool), 0 ≤ i → i ≤ l.length → (l.length : Int) - i = d → 2 * d + 2 ≤ k → l.length ≤ maxLen → Vd a b n c →
    ambidexterlaw26_DualchannelInvariant.l0 k l true i a b n c = some true := by
  induction d with
  | zero =>
    intro k i a b n c h0 h1 hd hk hm hv
    obtain ⟨k, rfl⟩ : ∃ m, k = m + 2 := ⟨k - 2, by omega⟩
    simp only [ambidexterlaw26_DualchannelInvariant.l0, ambidexterlaw26_DualchannelInvariant.j1]
    rw [if_neg (by omega), if_neg (by decide)]
  | succ d ih =>
    intro k i a b n c h0 h1 hd hk hm hv
    obtain ⟨k, rfl⟩ : ∃ m, k = m + 2 := ⟨k - 2, by omega⟩
    have hlt : i < (l.length : Int) := by omega
    unfold maxLen at hm
    simp only [ambidexterlaw26_DualchannelInvariant.l0, ambidexterlaw26_DualchannelInvariant.j1]
    rw [if_pos hlt]
    by_cases h3 : i < 300
    · rw [if_pos (decide_eq_true h3), if_pos h0, if_pos hlt, step_eq hv, w64 (x := i + 1) (by omega) (by omega)]
      have hv' := stp_valid (z := decide (Int.tmod (rd_T47 l i).f0 8 = 0)) (x := (rd_T47 l i).f1) (y := (rd_T47 l i).f2) hv
      simp only [Option.bind_some]
      rw [right_eq hv']
      simp only [Option.bind_some, if_true]
      exact ih k (i + 1) _ _ _ _ (by omega) (by omega) (by omega) (by omega) (by unfold maxLen; omega) hv'
    · rw [if_neg (by simpa using h3)]
theorem DualchannelInvariant : ∀ (l0 : List (S47)), (l0.length ≤ maxLen ∧ ∀ y0_ ∈ l0, ok47 y0_) → ∃ k, ambidexterlaw26_DualchannelInvariant.f k l0 = some true := by
  rintro l ⟨hm, -⟩
  refine ⟨(2 * l.length + 2) + 2000, ?_⟩
  unfold ambidexterlaw26_DualchannelInvariant.f
  rw [head26]
  simp only [Option.bind_some]
  exact invariant_loop l l.length _ 0 _ _ _ _ (by omega) (by omega) (by omega) (by omega) hm vd0
end Go.Proofs.Ythnbcedpdjingaa.Pure
