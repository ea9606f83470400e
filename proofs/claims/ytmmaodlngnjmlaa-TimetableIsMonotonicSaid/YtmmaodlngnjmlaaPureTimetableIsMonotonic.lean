/- Tighter limits never shorten a timetable. -/
import Derived.Test.YtmmaodlngnjmlaaXHead23
import Derived.Test.YtmmaodlngnjmlaaXTime23
import Derived.Test.YtmmaodlngnjmlaaP12
namespace Go.Proofs.Ytmmaodlngnjmlaa.Pure
set_option linter.unusedSimpArgs false
set_option linter.unusedVariables false
open Go Go.RowKit Go.Proofs.Ytmmaodlngnjmlaa.P Go.Proofs.YtmmaodlngnjmlaaW.PrintWords Go.Proofs.YtmmaodlngnjmlaaW.PrintLast Go.Proofs.YtmmaodlngnjmlaaW.PrintMore Go.Proofs.Ytmmaodlngnjmlaa.Motion
theorem mn_le (a b : Int) : mn a b ≤ a ∧ mn a b ≤ b ∧ (mn a b = a ∨ mn a b = b) := by
  unfold mn
  split <;> omega
theorem pr_wider {L M : Lm} {K K' : Nat} (hK : ∀ n : Int, 1 ≤ n → n ≤ 35 → Fuel L K n) (hM : ∀ n : Int, 1 ≤ n → n ≤ 35 → Fuel M K' n) (h1 : M.v ≤ L.v) (h2 : M.a ≤ L.a) (h3 : M.j ≤ L.j) {n : Int} (n1 : 1 ≤ n) (n2 : n ≤ 35) : (pr L n).length ≤ (pr M n).length :=
  ((hK n n1 n2).2.1.2 _ ((hM n n1 n2).2.1.1.wider h1 h2 h3)).1
theorem end_wider {L M : Lm} (h : ∀ n : Int, 1 ≤ n → n ≤ 35 → (pr L n).length ≤ (pr M n).length) (R : List Rn) : ∀ a b : Int, a ≤ b → (∀ r ∈ R, 1 ≤ r.f1 ∧ r.f1 ≤ 35) → endOf L a R ≤ endOf M b R := by
  induction R with
  | nil => exact fun a b hab _ => hab
  | cons r rs ih =>
    intro a b hab hr
    have h1 := hr r (by simp)
    have h2 := h r.f1 h1.1 h1.2
    exact ih _ _ (by omega) (fun q hq => hr q (List.mem_cons_of_mem _ hq))
theorem TimetableIsMonotonic : ∀ (x0 : S51) (x1 : S51) (l2 : List (S63)), ok51 x0 → ok51 x1 → (l2.length ≤ maxLen ∧ ∀ y0_ ∈ l2, ok63 y0_) → ∃ k, ambidexterlaw23_TimetableIsMonotonic.f k x0.f0 x0.f1 x0.f2 x1.f0 x1.f1 x1.f2 l2 = some true := by
  intro x y l hx hy hl
  obtain ⟨K0, hK0⟩ := head23
  by_cases c : (l.length : Int) > 40
  · refine ⟨K0, ?_⟩
    unfold ambidexterlaw23_TimetableIsMonotonic.f
    rw [hK0, Option.bind_some, if_pos c]
  · obtain ⟨L, hL, l0, l1, l2⟩ := lim_ok hx
    obtain ⟨Y, hY, y0, y1, y2⟩ := lim_ok hy
    obtain ⟨M, hM0⟩ : ∃ M : Lm, M = ⟨mn L.v Y.v, mn L.a Y.a, mn L.j Y.j⟩ := ⟨_, rfl⟩
    have g1 := mn_le L.v Y.v
    have g2 := mn_le L.a Y.a
    have g3 := mn_le L.j Y.j
    have c1 : M.v = mn L.v Y.v := by rw [hM0]
    have c2 : M.a = mn L.a Y.a := by rw [hM0]
    have c3 : M.j = mn L.j Y.j := by rw [hM0]
    have hM : ok M := by
      unfold ok at *
      omega
    obtain ⟨K1, hK1⟩ := pr_all hL
    obtain ⟨K2, hK2⟩ := pr_all hM
    have hw : ∀ n : Int, 1 ≤ n → n ≤ 35 → (pr L n).length ≤ (pr M n).length := fun n n1 n2 => pr_wider hK1 hK2 (by omega) (by omega) (by omega) n1 n2
    obtain ⟨k, k0, k1, k2⟩ : ∃ k, K0 ≤ k ∧ K1 + 200 ≤ k ∧ K2 + 200 ≤ k := ⟨K0 + K1 + K2 + 200, by omega, by omega, by omega⟩
    refine ⟨k, ?_⟩
    have e0 : ambidexterlaw23_head.f k = some true := at_rounds ambidexterlaw23_head.mono k0 hK0
    have e1 := seq_ok hL hK1 (l := l) (by omega) (k := k) (by omega)
    have e2 := seq_ok hM hK2 (l := l) (by omega) (k := k) (by omega)
    have hlen := runs_length l []
    have hlen2 : (runsL l).length ≤ l.length := by simpa [runsL] using hlen
    have hn := runs_n l [] 0 (fun r hr => by cases hr)
    have hn2 : ∀ r ∈ runsL l, 1 ≤ r.f1 := fun r hr => (hn r (by simpa [runsL] using hr)).1
    unfold ambidexterlaw23_TimetableIsMonotonic.f ambidexterlaw23_lim.f
    rw [e0, Option.bind_some, if_neg c, Option.bind_some]
    dsimp only
    rw [l0, l1, l2, y0, y1, y2, ← c1, ← c2, ← c3, e1, e2]
    by_cases ha : l.all mayB = true
    · rw [if_pos ha, if_pos ha]
      have i1 := tab_iff L (runsL l) 0
      have i2 := tab_iff M (runsL l) 0
      cases t1 : tab L 0 (runsL l) with
      | none =>
        cases t2 : tab M 0 (runsL l) with
        | none => rfl
        | some t =>
          exfalso
          rw [t2] at i2
          obtain ⟨j1, j2⟩ := i2.1 rfl
          rw [t1] at i1
          have h3 := end_wider hw (runsL l) 0 0 (Int.le_refl _) (fun r hr => ⟨hn2 r hr, j1 r hr⟩)
          have h4 := i1.2 ⟨j1, by
            rcases j2 with j2 | j2
            · exact Or.inl j2
            · exact Or.inr (by omega)⟩
          cases h4
      | some s =>
        rw [t1] at i1
        obtain ⟨j1, j2⟩ := i1.1 rfl
        cases t2 : tab M 0 (runsL l) with
        | none => rfl
        | some t =>
          have d1 := dur_ok t1 (by omega) (k := k) (by omega)
          have d2 := dur_ok t2 (by omega) (k := k) (by omega)
          have h3 := end_wider hw (runsL l) 0 0 (Int.le_refl _) (fun r hr => ⟨hn2 r hr, j1 r hr⟩)
          dsimp only
          rw [Option.bind_some, Option.bind_some]
          dsimp only
          rw [if_pos rfl, if_pos rfl, if_neg (by decide), if_pos rfl, d2, Option.bind_some, d1, Option.bind_some, decide_eq_true (by omega)]
    · rw [if_neg ha, if_neg ha]
      rfl
end Go.Proofs.Ytmmaodlngnjmlaa.Pure
