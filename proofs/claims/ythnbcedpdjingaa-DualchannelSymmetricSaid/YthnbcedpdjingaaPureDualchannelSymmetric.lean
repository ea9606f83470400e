/- Exchanging the channels changes nothing but A and B, and Reset is idempotent: for every sequence of acts (the first 300 are looked at). -/
import Derived.Test.YthnbcedpdjingaaXDual
import Derived.Test.YthnbcedpdjingaaP15
namespace Go.Proofs.Ythnbcedpdjingaa.Pure
set_option linter.unusedSimpArgs false
set_option linter.unusedVariables false
open Go.RowKit Go.Proofs.Ythnbcedpdjingaa.P Go.Proofs.YthnbcedpdjingaaW.PrintWords Go.Proofs.YthnbcedpdjingaaW.PrintLast
theorem stp_swap (z a b c x y : Bool) (n : Int) : stp z b a n c y x = ((stp z a b n c x y).2.1, (stp z a b n c x y).1, (stp z a b n c x y).2.2.1, (stp z a b n c x y).2.2.2) := by
  unfold stp
  by_cases hn : 3 ≤ n
  · simp only [if_pos hn]
    cases z <;> cases a <;> cases b <;> cases c <;> cases x <;> cases y <;> rfl
  · simp only [if_neg hn]
    cases z <;> cases a <;> cases b <;> cases c <;> cases x <;> cases y <;> rfl
theorem vd_swap {a b c : Bool} {n : Int} (h : Vd a b n c) : Vd b a n c := ⟨h.1, h.2.1, h.2.2.1.trans ⟨fun e => e.symm, fun e => e.symm⟩, h.2.2.2⟩
theorem reset_end (a b c : Bool) (n : Int) : ((dualchannel_Reset.f a b n c).bind fun bt375 => ((dualchannel_Reset.f bt375.1 bt375.2.1 bt375.2.2.1 bt375.2.2.2).bind fun bt379 => ((dualchannel_Reset.f a b n c).bind fun bt383 => (some (bt379.1 == bt383.1 && (bt379.2.1 == bt383.2.1 && (bt379.2.2.1 == bt383.2.2.1 && (bt379.2.2.2 == bt383.2.2.2)))))))) = some true := by
  simp only [dualchannel_Reset.f, Option.bind_some]
  cases a <;> cases b <;> cases c <;> simp
theorem symmetric_loop (l : List S47) (d : Nat) : ∀ (k : Nat) (i : Int) (a b : Bool) (n : Int) (c : Bool), 0 ≤ i → i ≤ l.length → (l.length : Int) - i = d → 2 * d + 2 ≤ k → l.length ≤ maxLen → Vd a b n c →
    ambidexterlaw26_DualchannelSymmetric.l0 k l true i a b n c b a n c = some true := by
  induction d with
  | zero =>
    intro k i a b n c h0 h1 hd hk hm hv
    obtain ⟨k, rfl⟩ : ∃ m, k = m + 2 := ⟨k - 2, by omega⟩
    simp only [ambidexterlaw26_DualchannelSymmetric.l0, ambidexterlaw26_DualchannelSymmetric.j1]
    rw [if_neg (by omega), if_neg (by decide), if_pos trivial]
    exact reset_end a b c n
  | succ d ih =>
    intro k i a b n c h0 h1 hd hk hm hv
    obtain ⟨k, rfl⟩ : ∃ m, k = m + 2 := ⟨k - 2, by omega⟩
    have hlt : i < (l.length : Int) := by omega
    unfold maxLen at hm
    simp only [ambidexterlaw26_DualchannelSymmetric.l0, ambidexterlaw26_DualchannelSymmetric.j1]
    rw [if_pos hlt]
    by_cases h3 : i < 300
    · rw [if_pos (decide_eq_true h3), if_pos h0, if_pos hlt, step_eq hv, step_eq (vd_swap hv), w64 (x := i + 1) (by omega) (by omega), stp_swap (decide (Int.tmod (rd_T47 l i).f0 8 = 0)) a b c (rd_T47 l i).f1 (rd_T47 l i).f2 n]
      have hv' := stp_valid (z := decide (Int.tmod (rd_T47 l i).f0 8 = 0)) (x := (rd_T47 l i).f1) (y := (rd_T47 l i).f2) hv
      generalize stp (decide (Int.tmod (rd_T47 l i).f0 8 = 0)) a b n c (rd_T47 l i).f1 (rd_T47 l i).f2 = z at hv' ⊢
      obtain ⟨z1, z2, z3, z4⟩ := z
      simp only [Option.bind_some, if_true, bne_self_eq_false, dualchannel_Closed.f]
      rw [if_neg (by decide), if_neg (by decide), if_neg (by decide)]
      have e : (z1 == z2 && (z1 && !z4) != (z2 == z1 && (z2 && !z4))) = false := by cases z1 <;> cases z2 <;> cases z4 <;> rfl
      have e' : ((z1 == z2 && (z1 && !z4)) != (z2 == z1 && (z2 && !z4))) = false := by cases z1 <;> cases z2 <;> cases z4 <;> rfl
      rw [if_neg (by rw [e']; decide)]
      exact ih k (i + 1) _ _ _ _ (by omega) (by omega) (by omega) (by omega) (by unfold maxLen; omega) hv'
    · rw [if_neg (by simpa using h3), if_pos trivial]
      exact reset_end a b c n
theorem DualchannelSymmetric : ∀ (l0 : List (S47)), (l0.length ≤ maxLen ∧ ∀ y0_ ∈ l0, ok47 y0_) → ∃ k, ambidexterlaw26_DualchannelSymmetric.f k l0 = some true := by
  rintro l ⟨hm, -⟩
  refine ⟨(2 * l.length + 2) + 2000, ?_⟩
  unfold ambidexterlaw26_DualchannelSymmetric.f
  rw [head26]
  simp only [Option.bind_some]
  exact symmetric_loop l l.length _ 0 _ _ _ _ (by omega) (by omega) (by omega) (by omega) hm vd0
end Go.Proofs.Ythnbcedpdjingaa.Pure
