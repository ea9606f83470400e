/- Bad is set if and only if the channels disagreed for four consecutive ticks since the last reset at which they agreed: for every sequence of acts (the first 300 are looked at). -/
import Derived.Test.YthnbcedpdjingaaXDual
import Derived.Test.YthnbcedpdjingaaP13
namespace Go.Proofs.Ythnbcedpdjingaa.Pure
set_option linter.unusedSimpArgs false
set_option linter.unusedVariables false
open Go.RowKit Go.Proofs.Ythnbcedpdjingaa.P Go.Proofs.YthnbcedpdjingaaW.PrintWords Go.Proofs.YthnbcedpdjingaaW.PrintLast
theorem bad_loop (l : List S47) (d : Nat) : ∀ (k : Nat) (i row : Int) (a b : Bool) (n : Int) (c : Bool), 0 ≤ i → i ≤ l.length → (l.length : Int) - i = d → 2 * d + 2 ≤ k → l.length ≤ maxLen → Vd a b n c → 0 ≤ row → row ≤ i → (n = 4 → 4 ≤ row) → (n < 4 → row = n) →
    ambidexterlaw26_DualchannelBad.l0 k l true row c a b i a b n c = some true := by
  induction d with
  | zero =>
    intro k i row a b n c h0 h1 hd hk hm hv _ _ _ _
    obtain ⟨k, rfl⟩ : ∃ m, k = m + 2 := ⟨k - 2, by omega⟩
    simp only [ambidexterlaw26_DualchannelBad.l0, ambidexterlaw26_DualchannelBad.j1]
    rw [if_neg (by omega), if_neg (by decide)]
  | succ d ih =>
    intro k i row a b n c h0 h1 hd hk hm hv hr0 hr1 hr2 hr3
    obtain ⟨k, rfl⟩ : ∃ m, k = m + 2 := ⟨k - 2, by omega⟩
    have hlt : i < (l.length : Int) := by omega
    unfold maxLen at hm
    simp only [ambidexterlaw26_DualchannelBad.l0, ambidexterlaw26_DualchannelBad.j1]
    rw [if_pos hlt]
    by_cases h3 : i < 300
    · rw [if_pos (decide_eq_true h3), if_pos h0, if_pos hlt, step_eq hv, w64 (x := i + 1) (by omega) (by omega), w64 (x := row + 1) (by omega) (by omega)]
      have hv' := stp_valid (z := decide (Int.tmod (rd_T47 l i).f0 8 = 0)) (x := (rd_T47 l i).f1) (y := (rd_T47 l i).f2) hv
      have ih' := ih k (i + 1)
      generalize rd_T47 l i = x at hv' ⊢
      obtain ⟨z, x, y⟩ := x
      obtain ⟨g1, g2, g3, g4⟩ := hv
      simp only [Option.bind_some]
      by_cases hz : Int.tmod z 8 = 0
      · rw [if_pos hz]
        simp only [hz, decide_true, stp, if_true] at hv' ⊢
        cases c with
        | true =>
          simp only [Bool.true_and, bne_self_eq_false, if_true] at hv' ⊢
          simp only [Bool.false_eq_true, if_false]
          exact ih' row _ _ _ _ (by omega) (by omega) (by omega) (by omega) (by unfold maxLen; omega) hv' (by omega) (by omega) hr2 hr3
        | false =>
          simp only [Bool.false_and, bne_self_eq_false, Bool.false_eq_true, if_false] at hv' ⊢
          exact ih' row _ _ _ _ (by omega) (by omega) (by omega) (by omega) (by unfold maxLen; omega) hv' (by omega) (by omega) hr2 hr3
      · rw [if_neg hz]
        simp only [hz, decide_false, stp, Bool.false_eq_true, if_false] at hv' ⊢
        by_cases hx : (x == y) = true
        · rw [if_pos hx] at hv' ⊢
          rw [if_pos hx]
          cases c with
          | true =>
            simp only [bne_self_eq_false, Bool.false_eq_true, if_false, if_true] at hv' ⊢
            exact ih' 0 _ _ _ _ (by omega) (by omega) (by omega) (by omega) (by unfold maxLen; omega) hv' (by omega) (by omega) (by omega) (by omega)
          | false =>
            have e0 : decide ((0 : Int) ≥ 4) = false := by decide
            simp only [e0, bne_self_eq_false, Bool.false_eq_true, if_false] at hv' ⊢
            exact ih' 0 _ _ _ _ (by omega) (by omega) (by omega) (by omega) (by unfold maxLen; omega) hv' (by omega) (by omega) (by omega) (by omega)
        · rw [if_neg hx] at hv' ⊢
          rw [if_neg hx]
          by_cases hn : 3 ≤ n
          · rw [if_pos hn] at hv' ⊢
            have e0 : decide (row + 1 ≥ 4) = true := decide_eq_true (by omega)
            cases c with
            | true =>
              simp only [bne_self_eq_false, Bool.false_eq_true, if_false, if_true] at hv' ⊢
              exact ih' (row + 1) _ _ _ _ (by omega) (by omega) (by omega) (by omega) (by unfold maxLen; omega) hv' (by omega) (by omega) (by omega) (by omega)
            | false =>
              simp only [e0, bne_self_eq_false, Bool.false_eq_true, if_false] at hv' ⊢
              exact ih' (row + 1) _ _ _ _ (by omega) (by omega) (by omega) (by omega) (by unfold maxLen; omega) hv' (by omega) (by omega) (by omega) (by omega)
          · rw [if_neg hn] at hv' ⊢
            have e0 : decide (row + 1 ≥ 4) = false := decide_eq_false (by omega)
            cases c with
            | true =>
              simp only [bne_self_eq_false, Bool.false_eq_true, if_false, if_true] at hv' ⊢
              exact ih' (row + 1) _ _ _ _ (by omega) (by omega) (by omega) (by omega) (by unfold maxLen; omega) hv' (by omega) (by omega) (by omega) (by omega)
            | false =>
              simp only [e0, bne_self_eq_false, Bool.false_eq_true, if_false] at hv' ⊢
              exact ih' (row + 1) _ _ _ _ (by omega) (by omega) (by omega) (by omega) (by unfold maxLen; omega) hv' (by omega) (by omega) (by omega) (by omega)
    · rw [if_neg (by simpa using h3)]
theorem DualchannelBad : ∀ (l0 : List (S47)), (l0.length ≤ maxLen ∧ ∀ y0_ ∈ l0, ok47 y0_) → ∃ k, ambidexterlaw26_DualchannelBad.f k l0 = some true := by
  rintro l ⟨hm, -⟩
  refine ⟨(2 * l.length + 2) + 2000, ?_⟩
  unfold ambidexterlaw26_DualchannelBad.f
  rw [head26]
  simp only [Option.bind_some]
  exact bad_loop l l.length _ 0 0 _ _ _ _ (by omega) (by omega) (by omega) (by omega) hm vd0 (by omega) (by omega) (by omega) (by omega)
end Go.Proofs.Ythnbcedpdjingaa.Pure
