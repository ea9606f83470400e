/- Quantize is non-decreasing, increases by exactly one every 16 sub-counts, and is constant within a count: for every position within the law's bounds. -/
import Derived.Test.YthnbcedpdjingaaXEnc24
import Derived.Test.YthnbcedpdjingaaP8
namespace Go.Proofs.Ythnbcedpdjingaa.Pure
open Go.RowKit Go.Proofs.Ythnbcedpdjingaa.P Go.Proofs.YthnbcedpdjingaaW.PrintWords Go.Proofs.YthnbcedpdjingaaW.PrintLast
theorem EncoderQuantization : ∀ (a0 : Int) (a1 : Int), (Lit.int .i64 a0).wf = true → (Lit.int .u16 a1).wf = true → ∃ k, ambidexterlaw24_EncoderQuantization.f k a0 a1 = some true := by
  intro x b hx hb
  have hx := bounds_i64 hx
  have hb := bounds_u16 hb
  refine ⟨0 + 1, ?_⟩
  unfold ambidexterlaw24_EncoderQuantization.f
  rw [head24]
  simp only [Option.bind_some]
  by_cases c1 : x < -549755813888
  · rw [if_pos c1]; rfl
  rw [if_neg c1]
  by_cases c2 : x > 549755813888
  · rw [decide_eq_true c2]; rfl
  rw [decide_eq_false c2]
  simp only [ambidexterlaw24_EncoderQuantization.j0]
  rw [if_neg (by decide), w64 (x := b) (by omega) (by omega), w64 (x := x + b) (by omega) (by omega), quant (by omega) (by omega), quant (by omega) (by omega)]
  simp only [Option.bind_some, if_true]
  rw [w64 (x := 16 * (x / 16)) (by omega) (by omega), w64 (x := 16 * (x / 16) + 16) (by omega) (by omega), if_pos (by omega), if_pos (by omega), w64 (x := x + 16) (by omega) (by omega), quant (by omega) (by omega)]
  simp only [Option.bind_some]
  rw [w64 (x := x / 16 + 1) (by omega) (by omega), if_pos (by omega), w64 (x := x - 16) (by omega) (by omega), quant (by omega) (by omega)]
  simp only [Option.bind_some]
  rw [w64 (x := x / 16 - 1) (by omega) (by omega), if_pos (by omega), quant (by omega) (by omega)]
  simp only [Option.bind_some]
  rw [if_pos (by omega), w64 (x := 16 * (x / 16) + 15) (by omega) (by omega), quant (by omega) (by omega)]
  simp only [Option.bind_some]
  rw [if_pos (by omega), if_pos (by omega), w64 (x := (x + b) / 16 - x / 16) (by omega) (by omega), Int.tdiv_eq_ediv_of_nonneg (by omega), w64 (x := b / 16) (by omega) (by omega), w64 (x := b / 16 + 1) (by omega) (by omega)]
  rw [decide_eq_true (by omega)]
end Go.Proofs.Ythnbcedpdjingaa.Pure
