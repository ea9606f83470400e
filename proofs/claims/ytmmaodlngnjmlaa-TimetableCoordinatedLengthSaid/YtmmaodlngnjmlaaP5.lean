-- Written by this session's own program, for this seat. Lean checks it.
import Derived.Test.YtmmaodlngnjmlaaP0
import Derived.Test.YtmmaodlngnjmlaaXPos
namespace Go.Proofs.Ytmmaodlngnjmlaa.P
open Go.RowKit Go.Proofs.YtmmaodlngnjmlaaW.PrintWords Go.Proofs.YtmmaodlngnjmlaaW.PrintLast Go.Proofs.YtmmaodlngnjmlaaW.PrintMore
attribute [local go_sem] max2_int min2_int max_two min_two max_three min_three max_four min_four   -- for this text's walks alone
set_option linter.unusedVariables false
set_option linter.unusedSimpArgs false

/-! ### timetable_PositionsAt: function 30 -/
-- NEEDS XPos
def timetable_PositionsAt.ok (l1 : List S67) (a2 : Int) : Bool := decide (l1.length ≤ 9223372036854775807) && l1.all fun s => Gone.goodB a2 s && decide ((0 ≤ s.f0.f0.f0 ∧ s.f0.f0.f0 ≤ 1) ∧ 0 ≤ s.f0.f0.f1 ∧ s.f0.f0.f1 ≤ 2)
def timetable_PositionsAt.q (x0 x1 x2 x3 x4 x5 : Int) (k : Nat) : Int := if k = 0 then x0 else if k = 1 then x1 else if k = 2 then x2 else if k = 3 then x3 else if k = 4 then x4 else x5
def timetable_PositionsAt.o (x0 x1 x2 x3 x4 x5 : Int) (l1 : List S67) (a2 : Int) : Nat → Int := (l1.map (Gone.gOf a2)).foldl Gone.add6 (fun k => wrap64 (timetable_PositionsAt.q x0 x1 x2 x3 x4 x5 k * 12))
def timetable_PositionsAt.f (x0 x1 x2 x3 x4 x5 : Int) (l1 : List S67) (a2 : Int) : Option (Int × Int × Int × Int × Int × Int) := if timetable_PositionsAt.ok l1 a2 = true then some (timetable_PositionsAt.o x0 x1 x2 x3 x4 x5 l1 a2 0, timetable_PositionsAt.o x0 x1 x2 x3 x4 x5 l1 a2 1, timetable_PositionsAt.o x0 x1 x2 x3 x4 x5 l1 a2 2, timetable_PositionsAt.o x0 x1 x2 x3 x4 x5 l1 a2 3, timetable_PositionsAt.o x0 x1 x2 x3 x4 x5 l1 a2 4, timetable_PositionsAt.o x0 x1 x2 x3 x4 x5 l1 a2 5) else none
theorem timetable_PositionsAt.calls (x0 x1 x2 x3 x4 x5 : Int) (A1 : Option Addr) (c1 : Nat) (l1 : List S67) (a2 : Int) (r1 r2 r3 r4 r5 r6 : Int) (w : World) (hr1 : Kd.C k67 w A1 l1.length l1) (hc1 : l1.length ≤ c1) (h : timetable_PositionsAt.f x0 x1 x2 x3 x4 x5 l1 a2 = some (r1, r2, r3, r4, r5, r6)) :
  Calls Try.prog 30 #[.agg #[.int .i64 x0, .int .i64 x1, .int .i64 x2, .int .i64 x3, .int .i64 x4, .int .i64 x5], .slice A1 l1.length c1, .int .i64 a2] w fun e w' => e = .returned (.agg #[.int .i64 r1, .int .i64 r2, .int .i64 r3, .int .i64 r4, .int .i64 r5, .int .i64 r6]) ∧ Below w.heap.size w w' := by
 unfold timetable_PositionsAt.f at h
 by_cases c : timetable_PositionsAt.ok l1 a2 = true
 ·
  rw [if_pos c] at h
  have e := Option.some.inj h
  simp only [Prod.mk.injEq] at e
  obtain ⟨rfl, rfl, rfl, rfl, rfl, rfl⟩ := e
  unfold timetable_PositionsAt.ok at c
  rw [Bool.and_eq_true, List.all_eq_true] at c
  obtain ⟨c1_, c2_⟩ := c
  have hw := Gone.posAt_in 6 (Nat.le_refl _) (timetable_PositionsAt.q x0 x1 x2 x3 x4 x5) a2 A1 l1 c1 w hr1 (fun s hs => by
   have h2 := c2_ s hs
   rw [Bool.and_eq_true] at h2
   exact ⟨h2.1, (of_decide_eq_true h2.2 : (0 ≤ s.f0.f0.f0 ∧ s.f0.f0.f0 ≤ 1) ∧ 0 ≤ s.f0.f0.f1 ∧ s.f0.f0.f1 ≤ 2)⟩) (of_decide_eq_true c1_)
  exact callsIn_wide.1 hw
 ·
  rw [if_neg c] at h
  cases h

end Go.Proofs.Ytmmaodlngnjmlaa.P
