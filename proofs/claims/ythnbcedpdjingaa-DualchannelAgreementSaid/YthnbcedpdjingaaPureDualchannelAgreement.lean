/- After a tick of agreement the state equals a fresh state with the same values, except for Bad; if the channels agree in every fourth tick, Bad is never set: for every sequence of acts and of ticks (the first 300 of each are looked at). -/
import Derived.Test.YthnbcedpdjingaaXDual
import Derived.Test.YthnbcedpdjingaaP14
import Derived.Test.YthnbcedpdjingaaP16
namespace Go.Proofs.Ythnbcedpdjingaa.Pure
set_option linter.unusedSimpArgs false
set_option linter.unusedVariables false
open Go.RowKit Go.Proofs.Ythnbcedpdjingaa.P Go.Proofs.YthnbcedpdjingaaW.PrintWords Go.Proofs.YthnbcedpdjingaaW.PrintLast
theorem made_loop (l : List S47) (d : Nat) : ∀ (k : Nat) (i : Int) (a b : Bool) (n : Int) (c : Bool), 0 ≤ i → i ≤ l.length → (l.length : Int) - i = d → d + 1 ≤ k → l.length ≤ maxLen → Vd a b n c →
    ∃ a' b' n' c', ambidexterlaw26_Made.l0 k l i a b n c = some (a', b', n', c') ∧ Vd a' b' n' c' := by
  induction d with
  | zero =>
    intro k i a b n c h0 h1 hd hk hm hv
    obtain ⟨k, rfl⟩ : ∃ m, k = m + 1 := ⟨k - 1, by omega⟩
    refine ⟨a, b, n, c, ?_, hv⟩
    simp only [ambidexterlaw26_Made.l0]
    rw [if_neg (by omega)]
  | succ d ih =>
    intro k i a b n c h0 h1 hd hk hm hv
    obtain ⟨k, rfl⟩ : ∃ m, k = m + 1 := ⟨k - 1, by omega⟩
    have hlt : i < (l.length : Int) := by omega
    unfold maxLen at hm
    by_cases h3 : i < 300
    · have hv' := stp_valid (z := decide (Int.tmod (rd_T47 l i).f0 8 = 0)) (x := (rd_T47 l i).f1) (y := (rd_T47 l i).f2) hv
      obtain ⟨a', b', n', c', e, hv2⟩ := ih k (i + 1) _ _ _ _ (by omega) (by omega) (by omega) (by omega) (by unfold maxLen; omega) hv'
      refine ⟨a', b', n', c', ?_, hv2⟩
      simp only [ambidexterlaw26_Made.l0]
      rw [if_pos hlt, if_pos h3, if_pos h0, want_eq hv, w64 (x := i + 1) (by omega) (by omega)]
      exact e
    · refine ⟨a, b, n, c, ?_, hv⟩
      simp only [ambidexterlaw26_Made.l0]
      rw [if_pos hlt, if_neg h3]
theorem made (l : List S47) (hm : l.length ≤ maxLen) (j : Nat) : ∃ a b n c, ambidexterlaw26_Made.f ((j + l.length + 1) + 2000) l = some (a, b, n, c) ∧ Vd a b n c :=
  made_loop l l.length _ 0 _ _ _ _ (by omega) (by omega) (by omega) (by omega) hm vd0

theorem agreement_loop (l : List S47) (d : Nat) : ∀ (k : Nat) (i : Int) (a b : Bool) (n : Int) (p q : Bool) (m : Int) (s : Bool), 0 ≤ i → i ≤ l.length → (l.length : Int) - i = d → 2 * d + 2 ≤ k → l.length ≤ maxLen → Vd a b n false → n ≤ i % 4 → Vd p q m s →
    ambidexterlaw26_DualchannelAgreement.l0 k l true i a b n false p q m s p q m s = some true := by
  induction d with
  | zero =>
    intro k i a b n p q m s h0 h1 hd hk hm hv _ _
    obtain ⟨k, rfl⟩ : ∃ m, k = m + 2 := ⟨k - 2, by omega⟩
    simp only [ambidexterlaw26_DualchannelAgreement.l0, ambidexterlaw26_DualchannelAgreement.j1]
    rw [if_neg (by omega), if_neg (by decide)]
  | succ d ih =>
    intro k i a b n p q m s h0 h1 hd hk hm hv hn hp
    obtain ⟨k, rfl⟩ : ∃ m, k = m + 2 := ⟨k - 2, by omega⟩
    have hlt : i < (l.length : Int) := by omega
    unfold maxLen at hm
    simp only [ambidexterlaw26_DualchannelAgreement.l0, ambidexterlaw26_DualchannelAgreement.j1]
    rw [if_pos hlt]
    by_cases h3 : i < 300
    · rw [if_pos (decide_eq_true h3), if_pos h0, if_pos hlt, step_eq hp, w64 (x := i + 1) (by omega) (by omega), Int.tmod_eq_emod_of_nonneg h0]
      have hp' := stp_valid (z := decide (Int.tmod (rd_T47 l i).f0 8 = 0)) (x := (rd_T47 l i).f1) (y := (rd_T47 l i).f2) hp
      generalize stp (decide (Int.tmod (rd_T47 l i).f0 8 = 0)) p q m s (rd_T47 l i).f1 (rd_T47 l i).f2 = z at hp' ⊢
      obtain ⟨z1, z2, z3, z4⟩ := z
      generalize rd_T47 l i = x
      obtain ⟨x0, x, y⟩ := x
      simp only [Option.bind_some, beq_self_eq_true, Bool.not_true, Bool.or_false]
      rw [if_neg (by decide)]
      by_cases h4 : i % 4 = 3
      · rw [if_pos h4]
        have e := stp_valid (z := false) (x := x) (y := x) hv
        simp only [stp, Bool.false_eq_true, if_false, beq_self_eq_true, if_true] at e
        simp only [dualchannel_Observe.f, beq_self_eq_true, if_true, Option.bind_some, Bool.false_eq_true, if_false]
        exact ih k (i + 1) _ _ _ _ _ _ _ (by omega) (by omega) (by omega) (by omega) (by unfold maxLen; omega) e (by omega) hp'
      · rw [if_neg h4]
        have e := stp_valid (z := false) (x := x) (y := y) hv
        by_cases hx : (x == y) = true
        · simp only [stp, Bool.false_eq_true, if_false, if_pos hx] at e
          simp only [dualchannel_Observe.f, if_pos hx, Option.bind_some, Bool.false_eq_true, if_false]
          exact ih k (i + 1) _ _ _ _ _ _ _ (by omega) (by omega) (by omega) (by omega) (by unfold maxLen; omega) e (by omega) hp'
        · have h5 : ¬ 3 ≤ n := by omega
          simp only [stp, Bool.false_eq_true, if_false, if_neg hx, if_neg h5] at e
          have hn0 := hv.1
          simp only [dualchannel_Observe.f, if_neg hx, if_neg h5, Option.bind_some, Bool.false_eq_true, if_false]
          rw [w64 (x := n + 1) (by omega) (by omega)]
          exact ih k (i + 1) _ _ _ _ _ _ _ (by omega) (by omega) (by omega) (by omega) (by unfold maxLen; omega) e (by omega) hp'
    · rw [if_neg (by simpa using h3)]
theorem DualchannelAgreement : ∀ (l0 : List (S47)) (a1 : Bool) (l2 : List (S47)), (l0.length ≤ maxLen ∧ ∀ y0_ ∈ l0, ok47 y0_) → (l2.length ≤ maxLen ∧ ∀ y0_ ∈ l2, ok47 y0_) → ∃ k, ambidexterlaw26_DualchannelAgreement.f k l0 a1 l2 = some true := by
  rintro l z l2 ⟨hm, -⟩ ⟨hm2, -⟩
  obtain ⟨a, b, n, c, hma, hv⟩ := made l hm (2 * l2.length + 2)
  refine ⟨((2 * l2.length + 2) + l.length + 1) + 2000, ?_⟩
  unfold ambidexterlaw26_DualchannelAgreement.f
  rw [head26, hma]
  simp only [Option.bind_some, dualchannel_Observe.f, beq_self_eq_true, if_true, Bool.not_true, Bool.or_false, dualchannel_Reset.f, Bool.and_false]
  rw [if_neg (by decide)]
  have hz : Vd z z 0 false := ⟨by omega, by omega, by simp, fun h => by omega⟩
  exact agreement_loop l2 l2.length _ 0 _ _ _ _ _ _ _ (by omega) (by omega) (by omega) (by omega) hm2 hz (by omega) hz
end Go.Proofs.Ythnbcedpdjingaa.Pure
