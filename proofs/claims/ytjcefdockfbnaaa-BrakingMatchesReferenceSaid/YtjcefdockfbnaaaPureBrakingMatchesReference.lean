/- Stops, their durations and their distances are the reference's; a test is due past 500 hours. -/
import Derived.Test.YtjcefdockfbnaaaXRef28
import Derived.Test.YtjcefdockfbnaaaP6
namespace Go.Proofs.Ytjcefdockfbnaaa.Pure
set_option linter.unusedSimpArgs false
set_option linter.unusedVariables false
open Go Go.RowKit Go.Proofs.Ytjcefdockfbnaaa.P Go.Proofs.YtjcefdockfbnaaaW.PrintWords Go.Proofs.YtjcefdockfbnaaaW.PrintLast Go.Proofs.YtjcefdockfbnaaaW.PrintMore Go.Proofs.Ytjcefdockfbnaaa.Ramp Go.Proofs.Ytjcefdockfbnaaa.Motion Go.Proofs.Ytjcefdockfbnaaa.Search
theorem BrakingMatchesReference : ∀ (x0 : S23) (x1 : S37) (a2 : Int) (a3 : Int), ok23 x0 → ok37 x1 → (Lit.int .i64 a2).wf = true → (Lit.int .i64 a3).wf = true → ∃ k, ambidexterlaw28_BrakingMatchesReference.f k x0.f0 x0.f1 x0.f2 x1.f0 x1.f1 x1.f2 a2 a3 = some true := by
  intro x y cat h _ _ _ _
  obtain ⟨b, hb, hbt⟩ := may28 x.f0 x.f1 x.f2 y.f0 y.f1 y.f2
  refine ⟨30000, ?_⟩
  unfold ambidexterlaw28_BrakingMatchesReference.f
  rw [head28 (show 2000 ≤ 30000 by omega), hb]
  simp only [Option.bind_some]
  cases b with
  | false => rw [if_neg Bool.false_ne_true]
  | true =>
    obtain ⟨v0, v1, hM, p0, p1⟩ := hbt rfl
    have s1 := ref_stop hM x.f0 cat (k := 30000) (Nat.le_refl _)
    have s2 := stop_ok hM x.f0 cat (k := 30000) (by omega)
    have s3 := duration28 hM x.f0 cat (k := 30000) (by omega)
    have s4 := distance28 hM x.f0 cat (k := 30000) (by omega)
    have s5 := ref_way hM cat (k := 30000) (by omega)
    have n3 := (stop_near hM cat).2.2
    dsimp only at s1 s2 s3 s4 s5
    have s6 := mr_same (T := (stopL x.f1 x.f2 ⟨y.f0, y.f1, y.f2⟩ cat).map st28) (by rw [List.length_map]; omega) (k := 30000) (by rw [List.length_map]; omega)
    rw [if_pos rfl, s1, Option.bind_some, s2, Option.bind_some, s6, Option.bind_some, if_pos rfl, if_pos trivial, s3, Option.bind_some, if_pos (by rw [List.length_map]), s4, Option.bind_some, s5, Option.bind_some, if_pos rfl]
    unfold braking_TestDue.f
    simp
end Go.Proofs.Ytjcefdockfbnaaa.Pure
