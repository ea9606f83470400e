-- Written by this session's own program, for this seat. Lean checks it.
import Derived.Test.YtjcefdockfbnaaaP0
namespace Go.Proofs.Ytjcefdockfbnaaa.P
open Go.RowKit Go.Proofs.YtjcefdockfbnaaaW.PrintWords Go.Proofs.YtjcefdockfbnaaaW.PrintLast Go.Proofs.YtjcefdockfbnaaaW.PrintMore
attribute [local go_sem] max2_int min2_int max_two min_two max_three min_three max_four min_four   -- for this text's walks alone
set_option linter.unusedVariables false
set_option linter.unusedSimpArgs false

/-! ### profile_Simulate: function 36 -/
def statesOf (l : List (Int × Int × Int × Int)) : List S37 := l.map fun x => ⟨x.2.1, x.2.2.1, x.2.2.2⟩
theorem reps_cells (w : World) (base : Nat) (ok : Nat → Prop) (l : List (Int × Int × Int × Int)) : Reps (k37.M w base ok) 3 (statesOf l) (Ticks.cellsOf l) := by
  have h : ∀ m : List (Int × Int × Int × Int), Reps (k37.M w base ok) 3 (statesOf m.reverse) (Ticks.cellsOf m.reverse) := by
    intro m
    induction m with
    | nil => exact Reps.none _ _
    | cons x m ih =>
      rw [List.reverse_cons, Ticks.cellsOf_snoc, statesOf, List.map_append]
      exact Reps.snoc ih (k37_mkM w base ok ⟨x.2.1, x.2.2.1, x.2.2.2⟩) rfl
  have := h l.reverse
  rwa [List.reverse_reverse] at this
def profile_Simulate.f (a0_0 : Int) (a0_1 : Int) (a0_2 : Int) (l1 : List Int) : Option (List (S37)) := if l1.length ≤ 1000000000000 then some (statesOf (Ticks.tr a0_0 a0_1 a0_2 l1)) else none
theorem profile_Simulate.calls (a0_0 : Int) (a0_1 : Int) (a0_2 : Int) (A1 : Option Addr) (c1 : Nat) (l1 : List Int) (r : List (S37)) (w : World) (hr1 : Kd.C (Kd.int .i64) w A1 l1.length l1) (hc1 : l1.length ≤ c1) (h : profile_Simulate.f a0_0 a0_1 a0_2 l1 = some r) :
    Calls Try.prog 36 #[.agg #[.int .i64 a0_0, .int .i64 a0_1, .int .i64 a0_2], .slice A1 l1.length c1] w fun e w' => ∃ v0_ : Value, e = .returned (v0_) ∧ Kd.R k37 37 w' w.heap.size (fun _ => True) v0_ r ∧ Below w.heap.size w w' := by
  unfold profile_Simulate.f at h
  by_cases c : l1.length ≤ 1000000000000
  · rw [if_pos c] at h
    obtain rfl := Option.some.inj h
    refine (callsIn_wide.1 (Ticks.simulate_in 3 (Nat.le_refl _) a0_0 a0_1 a0_2 A1 l1 c1 w (Ticks.argOf hr1).1 (Ticks.argOf hr1).2 c)).mono ?_
    rintro e w' ⟨u, rfl, ho, hB⟩
    refine ⟨u, rfl, ⟨fun _ _ => trivial, _, ?_, reps_cells _ _ _ _⟩, hB⟩
    have e : (statesOf (Ticks.tr a0_0 a0_1 a0_2 l1)).length = l1.length := by simp [statesOf, Ticks.tr_length]
    rw [e]
    exact ho
  · rw [if_neg c] at h
    cases h

end Go.Proofs.Ytjcefdockfbnaaa.P
