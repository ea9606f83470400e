/- Less, of two sequences of equal length. -/
import Derived.Test.YtjcefdockfbnaaaXTick22
import Derived.Test.YtjcefdockfbnaaaP3
namespace Go.Proofs.Ytjcefdockfbnaaa.Pure
set_option linter.unusedSimpArgs false
set_option linter.unusedVariables false
open Go.RowKit Go.Proofs.Ytjcefdockfbnaaa.P Go.Proofs.YtjcefdockfbnaaaW.PrintWords Go.Proofs.YtjcefdockfbnaaaW.PrintLast Go.Proofs.YtjcefdockfbnaaaW.PrintMore Go.Proofs.Ytjcefdockfbnaaa.Motion
def lessB : List Int → List Int → Bool
  | a :: l, b :: k => if a = b then lessB l k else decide (a < b)
  | _, _ => false
theorem lessB_lex : ∀ {l k : List Int}, lessB l k = true → lexLt l k
  | [], _, h => by simp [lessB] at h
  | _ :: _, [], h => by simp [lessB] at h
  | a :: l, b :: k, h => by
    rw [lessB] at h
    by_cases c : a = b
    · rw [if_pos c] at h
      exact .inr ⟨c, lessB_lex h⟩
    · rw [if_neg c] at h
      exact .inl (of_decide_eq_true h)
theorem less_l0 {l m : List Int} (hl : l.length ≤ 1000000) (e : l.length = m.length) : ∀ (n i : Nat), i + n = l.length → ambidexterref22_Less.l0 (2 * n + 2) l m (i : Int) = some (lessB (l.drop i) (m.drop i))
  | 0, i, h => by
    rw [List.drop_of_length_le (by omega), ambidexterref22_Less.l0, if_neg (by omega), ambidexterref22_Less.j1, if_neg Bool.false_ne_true]
    rfl
  | n + 1, i, h => by
    have hi : i < l.length := by omega
    have hj : i < m.length := by omega
    have c0 : (i : Int) < (l.length : Int) := by omega
    have c1 : (i : Int) < (m.length : Int) := by omega
    have ek : 2 * (n + 1) + 2 = (2 * n + 2) + 1 + 1 := by omega
    rw [List.drop_eq_getElem_cons hi, List.drop_eq_getElem_cons hj, lessB, ek, ambidexterref22_Less.l0, if_pos c0, decide_eq_true c1, ambidexterref22_Less.j1, if_pos rfl, if_pos (Int.natCast_nonneg i), if_pos c0, if_pos c1, rd_at hi, rd_at hj]
    by_cases c : l[i] = m[i]
    · rw [if_pos c, if_pos c, wi (by omega) hi]
      exact less_l0 hl e n (i + 1) (by omega)
    · rw [if_neg c, if_neg c]
theorem less22 {l m : List Int} (hl : l.length ≤ 1000000) (e : l.length = m.length) {k : Nat} (hk : 2 * l.length + 2 ≤ k) : ambidexterref22_Less.f k l m = some (lessB l m) := by
  refine at_rounds (ambidexterref22_Less.mono l m) hk ?_
  exact less_l0 hl e l.length 0 (by omega)
end Go.Proofs.Ytjcefdockfbnaaa.Pure
