/- The program's Quantize, New, Observe, Command and Estimate agree with the reference: for all arguments within the law's bounds. -/
import Derived.Test.YthnbcedpdjingaaXEnc24
import Derived.Test.YthnbcedpdjingaaP4
namespace Go.Proofs.Ythnbcedpdjingaa.Pure
open Go.RowKit Go.Proofs.Ythnbcedpdjingaa.P Go.Proofs.YthnbcedpdjingaaW.PrintWords Go.Proofs.YthnbcedpdjingaaW.PrintLast
theorem EncoderMatchesReference : ∀ (x0 : S23) (a1 : Int) (a2 : Int) (a3 : Int) (a4 : Int), ok23 x0 → (Lit.int .i64 a1).wf = true → (Lit.int .i64 a2).wf = true → (Lit.int .i64 a3).wf = true → (Lit.int .i64 a4).wf = true → ∃ k, ambidexterlaw24_EncoderMatchesReference.f k x0.f0 x0.f1 x0.f2 a1 a2 a3 a4 = some true := by
  rintro ⟨p, q, s⟩ kd n o x - hk hn ho hx
  refine ⟨0 + 1, ?_⟩
  unfold ambidexterlaw24_EncoderMatchesReference.f
  rw [head24, may_]
  simp only [Option.bind_some]
  by_cases c0 : ¬ May p q s
  · rw [decide_eq_false c0, if_neg (by decide)]; rfl
  replace c0 := Decidable.not_not.mp c0
  have c0' := c0
  obtain ⟨h1, h2, h3, h4, h5, h6⟩ := c0'
  rw [decide_eq_true c0, if_pos rfl]
  by_cases c1 : n < -68719476736
  · rw [if_pos c1]; rfl
  rw [if_neg c1]
  by_cases c2 : n > 68719476736
  · rw [if_pos c2]; rfl
  rw [if_neg c2]
  by_cases c3 : o < -1048576
  · rw [if_pos c3]; rfl
  rw [if_neg c3]
  by_cases c4 : o > 1048576
  · rw [if_pos c4]; rfl
  rw [if_neg c4]
  by_cases c5 : x < -1099511627776
  · rw [if_pos c5]; rfl
  rw [if_neg c5]
  by_cases c6 : x > 1099511627776
  · rw [decide_eq_true c6]; rfl
  rw [decide_eq_false c6]
  simp only [ambidexterlaw24_EncoderMatchesReference.j0]
  rw [if_neg (by decide), if_pos trivial, quant (by omega) (by omega), rquant (by omega) (by omega)]
  simp only [Option.bind_some, if_true]
  rw [new_ (by omega) (by omega), rnew (by omega) (by omega)]
  have e : encoder_Observe.f p q s kd n = ambidexterref24_Hear.f p q s kd n := rfl
  have e2 : encoder_Command.f p q s o = ambidexterref24_Tell.f p q s o := rfl
  have e3 : encoder_Estimate.f p q s = ambidexterref24_Guess.f p q s := by
    unfold encoder_Estimate.f ambidexterref24_Guess.f
    rw [Int.mul_comm p 16]
  obtain ⟨⟨r1, r2, r3⟩, hr⟩ : ∃ r, ambidexterref24_Hear.f p q s kd n = some r := by
    unfold ambidexterref24_Hear.f
    split <;> exact ⟨_, rfl⟩
  obtain ⟨⟨t1, t2, t3⟩, ht⟩ : ∃ r, ambidexterref24_Tell.f p q s o = some r := ⟨_, rfl⟩
  obtain ⟨g, hg⟩ : ∃ r, ambidexterref24_Guess.f p q s = some r := ⟨_, rfl⟩
  rw [e, e2, e3, hr, ht, hg]
  simp
end Go.Proofs.Ythnbcedpdjingaa.Pure
