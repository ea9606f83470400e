/- New returns the state after a good reading at that position; its estimate increases by 16 from one count to the next: for every state and position within the law's bounds. -/
import Derived.Test.YthnbcedpdjingaaXEnc24
import Derived.Test.YthnbcedpdjingaaP9
namespace Go.Proofs.Ythnbcedpdjingaa.Pure
open Go.RowKit Go.Proofs.Ythnbcedpdjingaa.P Go.Proofs.YthnbcedpdjingaaW.PrintWords Go.Proofs.YthnbcedpdjingaaW.PrintLast
theorem EncoderGoodReading : ∀ (x0 : S23) (a1 : Int) (a2 : Int), ok23 x0 → (Lit.int .i64 a1).wf = true → (Lit.int .u8 a2).wf = true → ∃ k, ambidexterlaw24_EncoderGoodReading.f k x0.f0 x0.f1 x0.f2 a1 a2 = some true := by
  rintro ⟨p, q, s⟩ x y - hx hy
  have hx := bounds_i64 hx
  have hy := bounds_u8 hy
  refine ⟨0 + 1, ?_⟩
  unfold ambidexterlaw24_EncoderGoodReading.f
  rw [head24, may_]
  simp only [Option.bind_some]
  by_cases c0 : ¬ May p q s
  · rw [decide_eq_false c0, if_neg (by decide)]; rfl
  replace c0 := Decidable.not_not.mp c0
  rw [decide_eq_true c0, if_pos rfl]
  by_cases c1 : x < -549755813888
  · rw [if_pos c1]; rfl
  rw [if_neg c1]
  by_cases c2 : x > 549755813888
  · rw [decide_eq_true c2]; rfl
  rw [decide_eq_false c2]
  simp only [ambidexterlaw24_EncoderGoodReading.j0]
  rw [if_neg (by decide), new_ (by omega) (by omega), quant (by omega) (by omega)]
  simp only [Option.bind_some, encoder_Observe.f, if_true]
  rw [w64 (x := 16 * (x / 16)) (by omega) (by omega), w64 (x := y) (by omega) (by omega), Int.tmod_eq_emod_of_nonneg (by omega), w64 (x := 16 * (x / 16) + y % 16) (by omega) (by omega), new_ (by omega) (by omega)]
  have e : (16 * (x / 16) + y % 16) / 16 = x / 16 := by omega
  simp only [Option.bind_some, e, beq_self_eq_true, Bool.and_self, if_true]
  rw [w64 (x := x + 16) (by omega) (by omega), new_ (by omega) (by omega)]
  simp only [Option.bind_some]
  rw [estimate (by unfold May; omega), estimate (by unfold May; omega)]
  simp only [Option.bind_some]
  rw [w64 (by omega) (by omega)]
  have e2 : 16 * ((x + 16) / 16) + 0 + 8 = 16 * (x / 16) + 0 + 8 + 16 := by omega
  rw [e2, beq_self_eq_true]
end Go.Proofs.Ythnbcedpdjingaa.Pure
