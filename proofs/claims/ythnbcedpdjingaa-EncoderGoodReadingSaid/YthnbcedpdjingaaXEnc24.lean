/- Plain laws of the encoder's functions as they are told by the walk. -/
import Derived.Test.YthnbcedpdjingaaP3
import Derived.Test.YthnbcedpdjingaaPK
import Derived.OpenShut
import Derived.IntWalk
namespace Go.Proofs.Ythnbcedpdjingaa.Pure
open Go.RowKit Go.Proofs.Ythnbcedpdjingaa.P Go.Proofs.YthnbcedpdjingaaW.PrintWords Go.Proofs.YthnbcedpdjingaaW.PrintLast

theorem w64 {x : Int} (h0 : -9223372036854775808 ≤ x) (h1 : x ≤ 9223372036854775807) : wrap64 x = x := by unfold wrap64; omega
theorem quot16 (x : Int) : Int.tdiv x 16 = if Int.tmod x 16 < 0 then x / 16 + 1 else x / 16 := by
  rcases Int.le_total 0 x with h | h
  · rw [Int.tdiv_eq_ediv_of_nonneg h, Int.tmod_eq_emod_of_nonneg h, if_neg (by omega)]
  · obtain ⟨y, rfl⟩ : ∃ y, x = -y := ⟨-x, by omega⟩
    rw [Int.neg_tdiv, Int.neg_tmod, Int.tdiv_eq_ediv_of_nonneg (by omega), Int.tmod_eq_emod_of_nonneg (by omega)]
    split <;> omega
theorem rem16 (x : Int) : Int.tmod x 16 = if x % 16 ≠ 0 ∧ x < 0 then x % 16 - 16 else x % 16 := by
  rcases Int.le_total 0 x with h | h
  · rw [Int.tmod_eq_emod_of_nonneg h, if_neg (by omega)]
  · obtain ⟨y, rfl⟩ : ∃ y, x = -y := ⟨-x, by omega⟩
    rw [Int.neg_tmod, Int.tmod_eq_emod_of_nonneg (by omega)]
    split <;> omega
theorem quant {x : Int} (h0 : -4611686018427387904 ≤ x) (h1 : x ≤ 4611686018427387904) : encoder_Quantize.f x = some (x / 16) := by
  unfold encoder_Quantize.f
  have hq := quot16 x
  by_cases c : Int.tmod x 16 < 0
  · rw [if_pos c] at hq ⊢
    rw [hq, w64 (x := x / 16 + 1) (by omega) (by omega), w64 (by omega) (by omega)]
    congr 1
    omega
  · rw [if_neg c] at hq ⊢
    rw [hq, w64 (by omega) (by omega)]
theorem rquant {x : Int} (h0 : -4611686018427387904 ≤ x) (h1 : x ≤ 4611686018427387904) : ambidexterref24_Quant.f x = some (x / 16) := by
  unfold ambidexterref24_Quant.f
  have hr := rem16 x
  by_cases c : Int.tmod x 16 < 0
  · rw [if_pos c]
    have hm : Int.tmod x 16 = x % 16 - 16 := by rw [hr]; rw [hr] at c; split at c <;> simp_all <;> omega
    rw [hm, w64 (x := x % 16 - 16 + 16) (by omega) (by omega), w64 (x := x - (x % 16 - 16 + 16)) (by omega) (by omega)]
    have e : x - (x % 16 - 16 + 16) = 16 * (x / 16) := by omega
    rw [e, Int.mul_tdiv_cancel_left _ (by omega), w64 (by omega) (by omega)]
  · rw [if_neg c]
    have hm : Int.tmod x 16 = x % 16 := by rw [hr]; rw [hr] at c; split at c <;> simp_all <;> omega
    rw [hm, w64 (x := x - x % 16) (by omega) (by omega)]
    have e : x - x % 16 = 16 * (x / 16) := by omega
    rw [e, Int.mul_tdiv_cancel_left _ (by omega), w64 (by omega) (by omega)]
theorem new_ {x : Int} (h0 : -4611686018427387904 ≤ x) (h1 : x ≤ 4611686018427387904) : encoder_New.f x = some (x / 16, 0, 0) := by
  unfold encoder_New.f
  rw [quant h0 h1]
  rfl
theorem rnew {x : Int} (h0 : -4611686018427387904 ≤ x) (h1 : x ≤ 4611686018427387904) : ambidexterref24_New.f x = some (x / 16, 0, 0) := by
  unfold ambidexterref24_New.f
  rw [rquant h0 h1]
  rfl
/-- States within the ranges that the reference speaks of. -/
def May (a b c : Int) : Prop := -68719476736 ≤ a ∧ a ≤ 68719476736 ∧ -1099511627776 ≤ b ∧ b ≤ 1099511627776 ∧ 0 ≤ c ∧ c ≤ 1099511627776
instance (a b c : Int) : Decidable (May a b c) := by unfold May; infer_instance
theorem may_ (a b c : Int) : ambidexterref24_May.f a b c = some (decide (May a b c)) := by
  unfold ambidexterref24_May.f
  repeat' split
  all_goals simp only [Option.some.injEq]
  all_goals first | (symm; rw [decide_eq_false_iff_not]; unfold May; omega) | (rw [Bool.eq_iff_iff]; simp only [decide_eq_true_eq]; unfold May; omega)
theorem head24 : ambidexterlaw24_head.f = some true := by kernel_rfl
theorem estimate {a b c : Int} (h : May a b c) : encoder_Estimate.f a b c = some (16 * a + b + 8) := by
  unfold encoder_Estimate.f
  obtain ⟨h1, h2, h3, h4, h5, h6⟩ := h
  rw [w64 (x := a * 16) (by omega) (by omega), w64 (x := a * 16 + b) (by omega) (by omega), w64 (by omega) (by omega)]
  congr 1
  omega
theorem command {a b c n : Int} (h0 : -4611686018427387904 ≤ b + n) (h1 : b + n ≤ 4611686018427387904) : encoder_Command.f a b c n = some (a, b + n, c) := by
  unfold encoder_Command.f
  rw [w64 (by omega) (by omega)]
theorem rd_in {α : Type} (z : α) (l : List α) (i : Int) (h0 : 0 ≤ i) (h1 : i < (l.length : Int)) : l.getD i.toNat z ∈ l := by
  rw [List.getD_eq_getElem?_getD, List.getElem?_eq_getElem (by omega)]
  exact List.getElem_mem _
end Go.Proofs.Ythnbcedpdjingaa.Pure
