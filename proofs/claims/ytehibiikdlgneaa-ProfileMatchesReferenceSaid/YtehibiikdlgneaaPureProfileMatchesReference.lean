/- Every function of the profile tells what the reference tells. -/
import Derived.Test.YtehibiikdlgneaaXLaw21
import Derived.Test.YtehibiikdlgneaaP5
namespace Go.Proofs.Ytehibiikdlgneaa.Pure
set_option linter.unusedSimpArgs false
set_option linter.unusedVariables false
open Go.RowKit Go.Proofs.Ytehibiikdlgneaa.P Go.Proofs.YtehibiikdlgneaaW.PrintWords Go.Proofs.YtehibiikdlgneaaW.PrintLast Go.Proofs.YtehibiikdlgneaaW.PrintMore Go.Proofs.Ytehibiikdlgneaa.Ticks
theorem ProfileMatchesReference : ∀ (x0 : S23) (a1 : Int) (a2 : Int) (a3 : Int) (a4 : Int) (l5 : List Int), ok23 x0 → (Lit.int .u8 a1).wf = true → (Lit.int .i16 a2).wf = true → (Lit.int .i16 a3).wf = true → (Lit.int .i16 a4).wf = true → (l5.length ≤ maxLen ∧ ∀ y0_ ∈ l5, (Lit.int .i64 y0_).wf = true) → ∃ k, ambidexterlaw21_ProfileMatchesReference.f k x0.f0 x0.f1 x0.f2 a1 a2 a3 a4 l5 = some true := by
  rintro ⟨x, y, z⟩ n p v a l - hn hp hv ha -
  have hn := bounds_u8 hn
  have hp := bounds_i16 hp
  have hv := bounds_i16 hv
  have ha := bounds_i16 ha
  obtain ⟨b, hb, hg⟩ := great l
  refine ⟨480 + 20, ?_⟩
  unfold ambidexterlaw21_ProfileMatchesReference.f
  rw [head21, hb _ (by omega)]
  simp only [Option.bind_some]
  cases b with
  | true => rfl
  | false =>
    have g := hg rfl
    have hs := good_sm g hp hv ha
    have hl := g.1
    obtain ⟨x', y', z', hL, hLb⟩ := lim_ hn
    rw [if_neg (by decide), motion hp hv ha, hL]
    simp only [Option.bind_some, if_pos]
    rw [sim (by omega), plays (by omega) p v a (by omega), final_sm hs, end_ (by omega) p v a (by omega), lastOf_tr hs, within_sm hs, right_ (by omega) hLb hs (by omega)]
    have hlen : (statesOf (tr p v a l)).length ≤ 300 := by simp [statesOf, tr_length]; exact hl
    have hv2 : ambidexterref21_May.f x y z = profile_ValidLimits.f x y z := by
      unfold ambidexterref21_May.f profile_ValidLimits.f
      repeat' split
      all_goals (congr 1; rw [Bool.eq_iff_iff]; simp only [decide_eq_true_eq, Bool.false_eq_true, false_iff, true_iff, iff_false]; omega)
    rw [hv2]
    unfold profile_ValidLimits.f
    simp only [Option.bind_some]
    rw [same (by omega) (by omega)]
    simp
end Go.Proofs.Ytehibiikdlgneaa.Pure
