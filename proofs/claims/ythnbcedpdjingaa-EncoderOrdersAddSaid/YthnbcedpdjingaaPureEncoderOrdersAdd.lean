/- Two orders have the effect of their sum, the estimate changes by the order, a reading that is not good leaves the estimate: for every state within the law's bounds. -/
import Derived.Test.YthnbcedpdjingaaXEnc24
import Derived.Test.YthnbcedpdjingaaP7
namespace Go.Proofs.Ythnbcedpdjingaa.Pure
open Go.RowKit Go.Proofs.Ythnbcedpdjingaa.P Go.Proofs.YthnbcedpdjingaaW.PrintWords Go.Proofs.YthnbcedpdjingaaW.PrintLast
theorem EncoderOrdersAdd : ∀ (x0 : S23) (a1 : Int) (a2 : Int) (a3 : Int) (a4 : Int), ok23 x0 → (Lit.int .i16 a1).wf = true → (Lit.int .i16 a2).wf = true → (Lit.int .u8 a3).wf = true → (Lit.int .i16 a4).wf = true → ∃ k, ambidexterlaw24_EncoderOrdersAdd.f k x0.f0 x0.f1 x0.f2 a1 a2 a3 a4 = some true := by
  rintro ⟨p, q, s⟩ x y kd n - hx hy hk hn
  have hx := bounds_i16 hx
  have hy := bounds_i16 hy
  have hk := bounds_u8 hk
  have hn := bounds_i16 hn
  refine ⟨0 + 1, ?_⟩
  unfold ambidexterlaw24_EncoderOrdersAdd.f
  rw [head24, may_]
  simp only [Option.bind_some]
  by_cases c0 : ¬ May p q s
  · rw [decide_eq_false c0, if_neg (by decide)]; rfl
  replace c0 := Decidable.not_not.mp c0
  have c0' := c0
  obtain ⟨h1, h2, h3, h4, h5, h6⟩ := c0'
  rw [decide_eq_true c0, if_pos rfl]
  by_cases c1 : kd = 1
  · rw [if_pos c1]; rfl
  rw [if_neg c1]
  by_cases c2 : q > 549755813888
  · rw [if_pos c2]; rfl
  rw [if_neg c2]
  by_cases c3 : q < -549755813888
  · rw [if_pos c3]; rfl
  rw [if_neg c3]
  by_cases c4 : s > 549755813888
  · rw [decide_eq_true c4]; rfl
  rw [decide_eq_false c4]
  simp only [ambidexterlaw24_EncoderOrdersAdd.j0]
  rw [if_neg (by decide), w64 (x := x) (by omega) (by omega), w64 (x := y) (by omega) (by omega), w64 (x := x + y) (by omega) (by omega), w64 (x := kd) (by omega) (by omega), w64 (x := n) (by omega) (by omega), command (by omega) (by omega)]
  simp only [Option.bind_some]
  rw [command (by omega) (by omega)]
  simp only [Option.bind_some]
  rw [command (by omega) (by omega)]
  simp only [Option.bind_some, encoder_Observe.f]
  rw [if_neg c1, command (by omega) (by omega)]
  have e : q + x + y = q + (x + y) := by omega
  simp only [Option.bind_some, e, beq_self_eq_true, Bool.and_self, if_true]
  rw [estimate (by unfold May; omega), estimate c0]
  simp only [Option.bind_some]
  rw [w64 (x := s + 1) (by omega) (by omega), w64 (x := 16 * p + q + 8 + x) (by omega) (by omega), w64 (x := 16 * p + q + 8 + x + y) (by omega) (by omega), if_pos (by omega), estimate (by unfold May; omega)]
  simp only [Option.bind_some]
  simp
end Go.Proofs.Ythnbcedpdjingaa.Pure
