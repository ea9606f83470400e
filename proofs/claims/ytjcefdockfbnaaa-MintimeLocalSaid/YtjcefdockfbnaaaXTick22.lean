/- The reference's tick, and whether a motion may be. -/
import Derived.Test.YtjcefdockfbnaaaXHead22
import Derived.Test.YtjcefdockfbnaaaP3
import Derived.Test.YtjcefdockfbnaaaP3
namespace Go.Proofs.Ytjcefdockfbnaaa.Pure
set_option linter.unusedSimpArgs false
set_option linter.unusedVariables false
open Go.RowKit Go.Proofs.Ytjcefdockfbnaaa.P Go.Proofs.YtjcefdockfbnaaaW.PrintWords Go.Proofs.YtjcefdockfbnaaaW.PrintLast Go.Proofs.YtjcefdockfbnaaaW.PrintMore Go.Proofs.Ytjcefdockfbnaaa.Motion
theorem rd_at {l : List Int} {i : Nat} (h : i < l.length) : rd l (i : Int) = l[i] := by simp [rd, List.getD_eq_getElem?_getD, List.getElem?_eq_getElem h]
theorem wi {i n : Nat} (hn : n ≤ 1000000000000) (h : i < n) : wrap64 ((i : Int) + 1) = ((i + 1 : Nat) : Int) := by rw [w64 (by omega) (by omega)]; rfl
theorem tick22 {L : Lm} (hL : ok L) {d : Int} (d1 : d ≤ 420) {m : Mo} (hm : may L d m) {j : Int} (hj : -L.j ≤ j ∧ j ≤ L.j) : ambidexterref21_Tick.f m.p m.v m.a j = some ((tick m j).p, (tick m j).v, (tick m j).a) := by
  unfold ok at hL
  unfold may at hm
  unfold ambidexterref21_Tick.f
  rw [w64 (x := m.a + j) (by omega) (by omega), w64 (x := m.v + (m.a + j)) (by omega) (by omega), w64 (x := m.p + (m.v + (m.a + j))) (by omega) (by omega)]
  rfl
theorem may22 {L : Lm} (hL : ok L) (d : Int) (m : Mo) : ambidexterref22_may.f L.v L.a L.j d m.p m.v m.a = some (decide (may L d m)) := by
  unfold ok at hL
  unfold ambidexterref22_may.f
  rw [w64 (x := -L.v) (by omega) (by omega), w64 (x := -L.a) (by omega) (by omega)]
  by_cases c : may L d m
  · have c' := c
    unfold may at c'
    rw [decide_eq_true c, if_pos (by omega), if_pos (by omega), if_pos (by omega), if_pos (by omega), if_pos (by omega), decide_eq_true (by omega)]
  · rw [decide_eq_false c]
    unfold may at c
    by_cases c1 : m.p ≥ 0
    · rw [if_pos c1]
      by_cases c2 : m.p ≤ d
      · rw [if_pos c2]
        by_cases c3 : m.v ≥ -L.v
        · rw [if_pos c3]
          by_cases c4 : m.v ≤ L.v
          · rw [if_pos c4]
            by_cases c5 : m.a ≥ -L.a
            · rw [if_pos c5, decide_eq_false (by omega)]
            · rw [if_neg c5]
          · rw [if_neg c4]
        · rw [if_neg c3]
      · rw [if_neg c2]
    · rw [if_neg c1]
end Go.Proofs.Ytjcefdockfbnaaa.Pure
