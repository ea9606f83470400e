/- Two profiles one after the other. -/
import Derived.Test.YtehibiikdlgneaaXLaw21
import Derived.Test.YtehibiikdlgneaaP6
namespace Go.Proofs.Ytehibiikdlgneaa.Pure
set_option linter.unusedSimpArgs false
set_option linter.unusedVariables false
open Go.RowKit Go.Proofs.Ytehibiikdlgneaa.P Go.Proofs.YtehibiikdlgneaaW.PrintWords Go.Proofs.YtehibiikdlgneaaW.PrintLast Go.Proofs.YtehibiikdlgneaaW.PrintMore Go.Proofs.Ytehibiikdlgneaa.Ticks
theorem statesOf_len (p v a : Int) (l : List Int) : (statesOf (tr p v a l)).length = l.length := by simp [statesOf, tr_length]
theorem last_at (p v a : Int) (l : List Int) (h : 0 < l.length) (hl : l.length ≤ 1000000) : rd_T29 (statesOf (tr p v a l)) (wrap64 (((statesOf (tr p v a l)).length : Int) - 1)) = ⟨(lastOf p v a (tr p v a l)).1, (lastOf p v a (tr p v a l)).2.1, (lastOf p v a (tr p v a l)).2.2⟩ := by
  rw [statesOf_len, w64 (by omega) (by omega)]
  have e : ((l.length : Int) - 1).toNat = l.length - 1 := by omega
  have hlen : (tr p v a l).length = l.length := tr_length l p v a
  have hne : tr p v a l ≠ [] := fun e => by rw [e] at hlen; simp at hlen; omega
  unfold rd_T29
  rw [e, ← hlen]
  unfold statesOf
  rw [List.getD_eq_getElem?_getD, List.getElem?_map, ← List.getLast?_eq_getElem?, lastOf]
  cases hgl : (tr p v a l).getLast? with
  | none => exact absurd (List.getLast?_eq_none_iff.1 hgl) hne
  | some x => rfl
theorem ProfileConcatenation : ∀ (a0 : Int) (a1 : Int) (a2 : Int) (l3 : List Int) (l4 : List Int), (Lit.int .i16 a0).wf = true → (Lit.int .i16 a1).wf = true → (Lit.int .i16 a2).wf = true → (l3.length ≤ maxLen ∧ ∀ y0_ ∈ l3, (Lit.int .i64 y0_).wf = true) → (l4.length ≤ maxLen ∧ ∀ y0_ ∈ l4, (Lit.int .i64 y0_).wf = true) → ∃ k, ambidexterlaw21_ProfileConcatenation.f k a0 a1 a2 l3 l4 = some true := by
  rintro p v a l k hp hv ha - -
  have hp := bounds_i16 hp
  have hv := bounds_i16 hv
  have ha := bounds_i16 ha
  obtain ⟨b, hb, hg⟩ := great l
  obtain ⟨c, hc, hh⟩ := great k
  refine ⟨980 + 1 + 20, ?_⟩
  unfold ambidexterlaw21_ProfileConcatenation.f
  rw [head21, hb _ (by omega), hc _ (by omega)]
  simp only [Option.bind_some]
  cases b with
  | true => rfl
  | false =>
    cases c with
    | true => rfl
    | false =>
      have g := hg rfl
      have g' := hh rfl
      have hl := g.1
      have hk := g'.1
      have hlk : (l ++ k).length = l.length + k.length := by simp
      rw [if_neg (by decide)]
      simp only [ambidexterlaw21_ProfileConcatenation.j0]
      rw [if_neg (by decide), motion hp hv ha]
      simp only [Option.bind_some, List.length_nil, List.nil_append]
      rw [if_pos (by omega)]
      rw [if_pos (by omega), sim (by omega), final (by omega), sim (by omega)]
      simp only [Option.bind_some]
      rw [sim (by omega), final (by omega)]
      simp only [Option.bind_some]
      have hS : statesOf (tr p v a l) ++ statesOf (tr (lastOf p v a (tr p v a l)).1 (lastOf p v a (tr p v a l)).2.1 (lastOf p v a (tr p v a l)).2.2 k) = statesOf (tr p v a (l ++ k)) := by
        rw [tr_append, statesOf, statesOf, statesOf, List.map_append]
      have hsame : ambidexterref21_Same.f 1000 (statesOf (tr p v a (l ++ k))) (statesOf (tr p v a (l ++ k))) = some true := same (by rw [statesOf_len]; omega) (by rw [statesOf_len]; omega)
      rw [if_pos (by rw [statesOf_len]), if_pos (by rw [statesOf_len]), if_pos (by rw [statesOf_len])]
      by_cases c0 : 0 < (l ++ k).length
      · rw [if_pos (by rw [statesOf_len]; omega), if_pos (by rw [statesOf_len, w64 (by omega) (by omega)]; omega), if_pos (by rw [statesOf_len, w64 (by omega) (by omega)]; omega), last_at p v a (l ++ k) c0 (by omega), if_neg (by simp)]
        simp only [if_pos]
        rw [if_pos (by rw [statesOf_len]; omega), if_pos (by rw [statesOf_len, statesOf_len]; omega), hS, hsame]
        rfl
      · rw [if_neg (by rw [statesOf_len]; omega)]
        simp only [if_pos]
        rw [if_pos (by rw [statesOf_len]; omega), if_pos (by rw [statesOf_len, statesOf_len]; omega), hS, hsame]
        rfl
end Go.Proofs.Ytehibiikdlgneaa.Pure
