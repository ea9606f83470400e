/- A stop ends at rest and is not at rest sooner; it is empty at rest alone; category 0 takes two ticks at most. -/
import Derived.Test.YtjcefdockfbnaaaXLaw28
import Derived.Test.YtjcefdockfbnaaaP3
import Derived.Test.YtjcefdockfbnaaaP6
namespace Go.Proofs.Ytjcefdockfbnaaa.Pure
set_option linter.unusedSimpArgs false
set_option linter.unusedVariables false
open Go Go.RowKit Go.Proofs.Ytjcefdockfbnaaa.P Go.Proofs.YtjcefdockfbnaaaW.PrintWords Go.Proofs.YtjcefdockfbnaaaW.PrintLast Go.Proofs.YtjcefdockfbnaaaW.PrintMore Go.Proofs.Ytjcefdockfbnaaa.Ramp Go.Proofs.Ytjcefdockfbnaaa.Motion Go.Proofs.Ytjcefdockfbnaaa.Search
theorem rest28 (p v a : Int) : ambidexterref28_Rest.f p v a = some (decide (v = 0 ∧ a = 0)) := by
  unfold ambidexterref28_Rest.f
  by_cases c : v = 0
  · rw [if_pos c]
    congr 1
    rw [Bool.eq_iff_iff]
    simp [c]
  · rw [if_neg c, decide_eq_false (fun e => c e.1)]
theorem term_l0 {A J V cat : Int} {m : Mo} (h : okM A J m) {T : List Mo} (hT : T = stopL A J m cat) (hl : T.length ≤ 12) (hp : 0 < T.length) (h2 : cat = 0 → T.length ≤ 2) (hc : cat = 0 ∨ cat = 1 ∨ cat = 2) (hf : ∀ (i : Nat) (hi : i < T.length), (T[i].v = 0 ∧ T[i].a = 0) ↔ i = T.length - 1) :
    ∀ (n i : Nat), i + n = T.length → ambidexterlaw28_BrakingTerminates.l0 (n + 4) true cat (T.map st28) (i : Int) V A J m.p m.v m.a = some true
  | 0, i, hi => by
    have hd : braking_Duration.f 3 V A J m.p m.v m.a cat = some (T.length : Int) := by rw [hT]; exact duration28 h V cat (Nat.le_refl _)
    rw [show 0 + 4 = 3 + 1 by omega, ambidexterlaw28_BrakingTerminates.l0, if_neg (by rw [List.length_map]; omega), if_pos rfl, hd, Option.bind_some, List.length_map]
    by_cases c : cat > 0
    · rw [if_pos c]; simp
    · have := h2 (by omega)
      rw [if_neg c, if_pos (by omega)]; simp
  | n + 1, i, hi => by
    have hlt : i < T.length := by omega
    have c0 : (i : Int) < ((T.map st28).length : Int) := by rw [List.length_map]; omega
    have hw := wi28 (n := T.length) (by omega) hlt
    have el : wrap64 (((T.map st28).length : Int) - 1) = (T.length : Int) - 1 := by
      clear hw
      rw [List.length_map]
      exact r64 (by omega) (by omega)
    have hne : ((decide (T[i].v = 0 ∧ T[i].a = 0)) != ((i : Int) == (T.length : Int) - 1)) = false := by
      clear hw el
      have := hf i hlt
      by_cases c : i = T.length - 1
      · rw [decide_eq_true (this.2 c)]
        have : ((i : Int) == (T.length : Int) - 1) = true := by rw [beq_iff_eq]; omega
        rw [this]
        rfl
      · rw [decide_eq_false (fun e => c (this.1 e))]
        have : ((i : Int) == (T.length : Int) - 1) = false := by rw [beq_eq_false_iff_ne]; omega
        rw [this]
        rfl
    rw [show n + 1 + 4 = (n + 4) + 1 by omega, ambidexterlaw28_BrakingTerminates.l0, if_pos c0, if_pos (Int.natCast_nonneg i), st28_at hlt, rest28, Option.bind_some, el, hne, if_neg Bool.false_ne_true, hw]
    clear hw el
    exact term_l0 h hT hl hp h2 hc hf n (i + 1) (by omega)
theorem BrakingTerminates : ∀ (x0 : S23) (x1 : S37) (a2 : Int), ok23 x0 → ok37 x1 → (Lit.int .u8 a2).wf = true → ∃ k, ambidexterlaw28_BrakingTerminates.f k x0.f0 x0.f1 x0.f2 x1.f0 x1.f1 x1.f2 a2 = some true := by
  intro x y a _ _ ha
  obtain ⟨cat, ec, hc⟩ := cat3 ha
  obtain ⟨b, hb, hbt⟩ := may28 x.f0 x.f1 x.f2 y.f0 y.f1 y.f2
  refine ⟨2000, ?_⟩
  unfold ambidexterlaw28_BrakingTerminates.f
  rw [head28 (Nat.le_refl _), hb, ec]
  simp only [Option.bind_some]
  cases b with
  | false => rfl
  | true =>
    obtain ⟨v0, v1, hM, p0, p1⟩ := hbt rfl
    have hs : braking_StopMotion.f 2000 x.f0 x.f1 x.f2 y.f0 y.f1 y.f2 cat = some ((stopL x.f1 x.f2 ⟨y.f0, y.f1, y.f2⟩ cat).map st28) := stop_ok hM x.f0 cat (by omega)
    rw [if_pos rfl, hs]
    simp only [Option.bind_some]
    rw [rest28]
    simp only [Option.bind_some]
    by_cases hr : y.f1 = 0 ∧ y.f2 = 0
    · have e : stopL x.f1 x.f2 ⟨y.f0, y.f1, y.f2⟩ cat = [] := by unfold stopL; rw [if_pos hr]
      rw [decide_eq_true hr, if_pos rfl, e, ambidexterlaw28_BrakingTerminates.j0, if_pos rfl, if_pos rfl, if_pos rfl]
      rfl
    · obtain ⟨f1, f2, f3, f4⟩ := stop_facts hM hr hc
      have e : (((((stopL x.f1 x.f2 ⟨y.f0, y.f1, y.f2⟩ cat).map st28).length : Int)) == 0) = false := by rw [beq_eq_false_iff_ne, List.length_map]; omega
      have hl := term_l0 (V := x.f0) hM rfl f2 f1 f3 hc f4 _ 0 (Nat.zero_add _)
      rw [decide_eq_false hr, if_neg (by decide), e, ambidexterlaw28_BrakingTerminates.j0, if_neg (by decide)]
      exact at_rounds (fun k' => (ambidexterlaw28_BrakingTerminates.mono_l k').2 _ _ _ _ _ _ _ _ _ _) (by omega) hl
end Go.Proofs.Ytjcefdockfbnaaa.Pure
