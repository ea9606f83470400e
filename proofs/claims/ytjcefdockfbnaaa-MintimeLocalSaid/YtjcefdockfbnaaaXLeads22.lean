/- Whether jerks lead to the distance: just where they are a path. -/
import Derived.Test.YtjcefdockfbnaaaXTick22
import Derived.Test.YtjcefdockfbnaaaP3
namespace Go.Proofs.Ytjcefdockfbnaaa.Pure
set_option linter.unusedSimpArgs false
set_option linter.unusedVariables false
open Go.RowKit Go.Proofs.Ytjcefdockfbnaaa.P Go.Proofs.YtjcefdockfbnaaaW.PrintWords Go.Proofs.YtjcefdockfbnaaaW.PrintLast Go.Proofs.YtjcefdockfbnaaaW.PrintMore Go.Proofs.Ytjcefdockfbnaaa.Motion
/-- What Leads computes. -/
def leadsB (L : Lm) (d : Int) : Mo → List Int → Bool
  | m, [] => decide (m = goal d)
  | m, j :: l => decide (-L.j ≤ j) && (decide (j ≤ L.j) && (decide (may L d (tick m j)) && leadsB L d (tick m j) l))
theorem leadsB_iff {L : Lm} {d : Int} {l : List Int} : ∀ {m : Mo}, leadsB L d m l = true ↔ Path L d m l (goal d) := by
  induction l with
  | nil => intro m; simp [leadsB, Path]
  | cons j l ih => intro m; simp [leadsB, Path, ih]
theorem goal_beq22 (d : Int) (m : Mo) : (m.p == d && (m.v == 0 && (m.a == 0))) = decide (m = goal d) := by
  rw [Bool.eq_iff_iff]
  cases m
  simp [goal]
set_option maxHeartbeats 2000000 in
/-- Leads, from a motion on. -/
theorem leads_l0 {L : Lm} (hL : ok L) {d : Int} (d0 : 0 ≤ d) (d1 : d ≤ 420) {l : List Int} (hl : l.length ≤ 1000000) : ∀ (n i : Nat) (m : Mo), i + n = l.length → may L d m → ambidexterref22_Leads.l0 (2 * n + 1) d l i L.v L.a L.j m.p m.v m.a = some (leadsB L d m (l.drop i))
  | 0, i, m, h, hm => by
    rw [List.drop_of_length_le (by omega), ambidexterref22_Leads.l0, if_neg (by omega), goal_beq22]
    rfl
  | n + 1, i, m, h, hm => by
    have hi : i < l.length := by omega
    have hb := hL
    unfold ok at hb
    have c0 : (i : Int) < (l.length : Int) := by omega
    have ek : 2 * (n + 1) + 1 = (2 * n + 1) + 1 + 1 := by omega
    have e64 : wrap64 (-L.j) = -L.j := w64 (by omega) (by omega)
    rw [List.drop_eq_getElem_cons hi, leadsB, ek, ambidexterref22_Leads.l0, if_pos c0, if_pos (Int.natCast_nonneg i), rd_at hi, e64]
    by_cases c1 : l[i] < -L.j
    · rw [if_pos c1, ambidexterref22_Leads.j1, if_pos rfl, decide_eq_false (show ¬ -L.j ≤ l[i] from Int.not_le.2 c1)]
      rfl
    rw [if_neg c1]
    by_cases c2 : l[i] > L.j
    · rw [decide_eq_true c2, ambidexterref22_Leads.j1, if_pos rfl, decide_eq_false (show ¬ l[i] ≤ L.j from Int.not_le.2 c2), Bool.false_and, Bool.and_false]
    have j0 : -L.j ≤ l[i] := Int.not_lt.1 c1
    have j1 : l[i] ≤ L.j := Int.not_lt.1 c2
    have ht := tick22 hL d1 hm ⟨j0, j1⟩
    have hy := may22 hL d (tick m l[i])
    rw [decide_eq_false c2, ambidexterref22_Leads.j1, if_neg Bool.false_ne_true, if_pos (Int.natCast_nonneg i), if_pos c0, rd_at hi, ht, Option.bind_some, hy, Option.bind_some, decide_eq_true j0, decide_eq_true j1, Bool.true_and, Bool.true_and]
    by_cases c3 : may L d (tick m l[i])
    · have hwi : wrap64 ((i : Int) + 1) = ((i + 1 : Nat) : Int) := by clear e64; exact wi (by omega) hi
      rw [decide_eq_true c3, if_pos rfl, hwi, Bool.true_and]
      clear hwi e64
      exact leads_l0 hL d0 d1 hl n (i + 1) (tick m l[i]) (by omega) c3
    · rw [decide_eq_false c3, if_neg Bool.false_ne_true, Bool.false_and]
theorem leads_dec {L : Lm} (hL : ok L) {d : Int} (d0 : 0 ≤ d) (d1 : d ≤ 420) {l : List Int} (hl : l.length ≤ 1000000) {k : Nat} (hk : 2 * l.length + 1 ≤ k) : ambidexterref22_Leads.f k L.v L.a L.j d l = some (leadsB L d zero l) := by
  refine at_rounds (ambidexterref22_Leads.mono L.v L.a L.j d l) hk ?_
  exact leads_l0 hL d0 d1 hl l.length 0 zero (by omega) (may_zero hL d0)
theorem leads {L : Lm} (hL : ok L) {d : Int} (d0 : 0 ≤ d) (d1 : d ≤ 420) {l : List Int} (hl : l.length ≤ 1000000) (hp : Path L d zero l (goal d)) {k : Nat} (hk : 2 * l.length + 1 ≤ k) : ambidexterref22_Leads.f k L.v L.a L.j d l = some true := by
  rw [leads_dec hL d0 d1 hl hk, leadsB_iff.2 hp]
end Go.Proofs.Ytjcefdockfbnaaa.Pure
