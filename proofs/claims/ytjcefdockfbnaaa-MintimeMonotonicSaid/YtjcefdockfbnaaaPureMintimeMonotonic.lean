/- Greater limits never take more ticks. -/
import Derived.Test.YtjcefdockfbnaaaXLims22
import Derived.Test.YtjcefdockfbnaaaP7
namespace Go.Proofs.Ytjcefdockfbnaaa.Pure
set_option linter.unusedSimpArgs false
set_option linter.unusedVariables false
open Go.RowKit Go.Proofs.Ytjcefdockfbnaaa.P Go.Proofs.YtjcefdockfbnaaaW.PrintWords Go.Proofs.YtjcefdockfbnaaaW.PrintLast Go.Proofs.YtjcefdockfbnaaaW.PrintMore Go.Proofs.Ytjcefdockfbnaaa.Motion
theorem mx_ge (a b : Int) : a ≤ mx a b ∧ b ≤ mx a b ∧ (mx a b = a ∨ mx a b = b) := by
  unfold mx
  split <;> omega
theorem MintimeMonotonic : ∀ (x0 : S32) (x1 : S32) (a2 : Int), ok32 x0 → ok32 x1 → (Lit.int .u16 a2).wf = true → ∃ k, ambidexterlaw22_MintimeMonotonic.f k x0.f0 x0.f1 x0.f2 x1.f0 x1.f1 x1.f2 a2 = some true := by
  intro x y a hx hy ha
  obtain ⟨L, eL, hL⟩ := lims hx
  obtain ⟨M, eM, hM⟩ := lims hy
  obtain ⟨d, ed, d0, d1⟩ := dist22 ha
  obtain ⟨C, hCd⟩ : ∃ C : Lm, C = ⟨mx L.v M.v, mx L.a M.a, mx L.j M.j⟩ := ⟨_, rfl⟩
  have g1 := mx_ge L.v M.v
  have g2 := mx_ge L.a M.a
  have g3 := mx_ge L.j M.j
  have c1 : C.v = mx L.v M.v := by rw [hCd]
  have c2 : C.a = mx L.a M.a := by rw [hCd]
  have c3 : C.j = mx L.j M.j := by rw [hCd]
  have hC : ok C := by
    unfold ok at *
    omega
  have hfin : ∀ k, 2000 ≤ k → ∀ l b l' b', mintime_Profile.f k L.v L.a L.j d = some (l, b) → mintime_Profile.f k C.v C.a C.j d = some (l', b') → (b = true → b' = true ∧ (l'.length : Int) ≤ l.length) → ambidexterlaw22_MintimeMonotonic.f k x.f0 x.f1 x.f2 y.f0 y.f1 y.f2 a = some true := by
    intro k hk l b l' b' h1 h2 h3
    unfold ambidexterlaw22_MintimeMonotonic.f
    rw [head22 hk, eL, eM, ed]
    simp only [Option.bind_some]
    rw [duration h1, ← c1, ← c2, ← c3, duration h2]
    simp only [Option.bind_some]
    cases b with
    | false => rfl
    | true =>
      obtain ⟨rfl, h⟩ := h3 rfl
      simp [h]
  rcases profile_ok hL d0 d1 with ⟨l, K, hK, hB⟩ | ⟨⟨K, hK⟩, hno⟩
  · rcases profile_ok hC d0 d1 with ⟨l', K', hK', hB'⟩ | ⟨⟨K', hK'⟩, hno'⟩
    · refine ⟨max 2000 (max K K'), hfin _ (by omega) l true l' true (hK _ (by omega)) (hK' _ (by omega)) (fun _ => ⟨rfl, ?_⟩)⟩
      have := (hB'.2 l (hB.1.wider (by omega) (by omega) (by omega))).1
      omega
    · exact absurd ⟨l, hB.1.wider (by omega) (by omega) (by omega)⟩ hno'
  · rcases profile_ok hC d0 d1 with ⟨l', K', hK', hB'⟩ | ⟨⟨K', hK'⟩, hno'⟩
    · exact ⟨max 2000 (max K K'), hfin _ (by omega) [] false l' true (hK _ (by omega)) (hK' _ (by omega)) (fun e => by cases e)⟩
    · exact ⟨max 2000 (max K K'), hfin _ (by omega) [] false [] false (hK _ (by omega)) (hK' _ (by omega)) (fun e => by cases e)⟩
end Go.Proofs.Ytjcefdockfbnaaa.Pure
