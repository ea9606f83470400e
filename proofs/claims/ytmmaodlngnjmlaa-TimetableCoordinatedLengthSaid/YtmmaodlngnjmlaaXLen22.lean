/- The duration; how long a best path is at most. -/
import Derived.Test.YtmmaodlngnjmlaaXBase22
import Derived.Test.YtmmaodlngnjmlaaP4
namespace Go.Proofs.Ytmmaodlngnjmlaa.Pure
set_option linter.unusedSimpArgs false
set_option linter.unusedVariables false
open Go.RowKit Go.Proofs.Ytmmaodlngnjmlaa.P Go.Proofs.YtmmaodlngnjmlaaW.PrintWords Go.Proofs.YtmmaodlngnjmlaaW.PrintLast Go.Proofs.YtmmaodlngnjmlaaW.PrintMore Go.Proofs.Ytmmaodlngnjmlaa.Motion
theorem duration {L : Lm} {d : Int} {k : Nat} {l : List Int} {b : Bool} (h : mintime_Profile.f k L.v L.a L.j d = some (l, b)) : mintime_Duration.f k L.v L.a L.j d = some ((l.length : Int), b) := by
  unfold mintime_Duration.f
  rw [h]
  rfl
theorem may_zero {L : Lm} (hL : ok L) {d : Int} (d0 : 0 ≤ d) : may L d zero := by
  unfold ok at hL
  unfold may zero
  dsimp only
  omega
theorem best_len {L : Lm} (hL : ok L) {d : Int} (d0 : 0 ≤ d) (d1 : d ≤ 420) {l : List Int} (hB : Best L d l) : l.length ≤ 100000 := by
  obtain ⟨k1, out, hk1, hp⟩ := left_ok hL d0 d1
  have hz := may_zero hL d0
  have h1 := hp.full l zero hz hB.1
  have hn := lab_nn hL d0 d1 hp.tab hz
  have r2 := (idx_range hL d0 d1 hz).2.2
  have hl := hp.tab.len
  by_cases c : lab L out zero ≤ 1
  · have := h1 (.inr c)
    obtain ⟨q, hq, hql⟩ := hp.tab.sound 0 zero hz (by omega)
    have := (hB.2 q hq).1
    omega
  · obtain ⟨n, hn'⟩ : ∃ n : Nat, lab L out zero = (n : Int) + 1 := ⟨(lab L out zero - 1).toNat, by omega⟩
    obtain ⟨q, hq, hql⟩ := hp.tab.sound n zero hz hn'
    have := (hB.2 q hq).1
    omega
end Go.Proofs.Ytmmaodlngnjmlaa.Pure
