/- The supervisor in plain numbers: what a tick may lead to; its constructor and its command. -/
import Derived.Test.YthmddbffhbfmeaaXStep
namespace Go.Proofs.Ythmddbffhbfmeaa.Sup
set_option linter.unusedVariables false
set_option linter.unusedSimpArgs false
open Go Go.RowKit Go.Proofs.YthmddbffhbfmeaaW.PrintWords Go.Proofs.YthmddbffhbfmeaaW.PrintMore Go.Proofs.Ythmddbffhbfmeaa.Ticks
def closedB (a b bad : Bool) : Bool := (a == b) && (a && !bad)
theorem endMode_or (c : Int) : endMode c = 4 ∨ endMode c = 5 := by unfold endMode; split <;> simp
theorem callS_nil (ask : Int) : callS [] ask = if ask = 2 then 2 else if ask = 3 then 1 else 3 := by
  unfold callS callL worstL
  simp
/-- What a tick may lead to, by the demanded category. -/
theorem modeS_law {mode cat left call ask : Int} {rest : Bool} (hm : 1 ≤ mode ∧ mode ≤ 5) (hl : 0 ≤ left ∧ left ≤ 60) {x : Int × Int × Int} (hx : modeS mode cat left call ask rest = x) :
    (x.1 = 2 → 3 ≤ call ∧ (mode = 2 ∨ ask = 1)) ∧ (call < 2 → 3 ≤ x.1) ∧ (1 ≤ x.1 ∧ x.1 ≤ 5) ∧ (0 ≤ x.2.2 ∧ x.2.2 ≤ 60) := by
  have e1 := endMode_or call
  have e2 := endMode_or cat
  have hrel : (ask = 4 ∧ rest = true ∧ call = 3) → call = 3 := fun h => h.2.2
  unfold modeS at hx
  repeat' split at hx
  all_goals
    subst hx
    dsimp only at *
    try (have hcall3 := hrel (by assumption))
    clear hrel
    refine ⟨fun h => ⟨?_, ?_⟩, fun h => ?_, ⟨?_, ?_⟩, ?_, ?_⟩ <;> omega
theorem il_law {mode cat left : Int} (hm : 1 ≤ mode ∧ mode ≤ 5) (hl : 0 ≤ left ∧ left ≤ 60) (a b bad : Bool) (ask : Int) (rest : Bool) {ask' : Int} (ha : ask' = if closedB a b bad = true then ask else 3) {l : List (Int × Int × Int × Int)} (hb : l = if bad = true then [(6, 0, 0, 0)] else []) {x : Int × Int × Int} (hx : modeS mode cat left (callS l ask') ask' rest = x) :
    (x.1 = 2 → a = true ∧ b = true ∧ bad = false ∧ (mode = 2 ∨ ask = 1)) ∧ (closedB a b bad = false → 3 ≤ x.1) ∧ (1 ≤ x.1 ∧ x.1 ≤ 5) ∧ (0 ≤ x.2.2 ∧ x.2.2 ≤ 60) := by
  obtain ⟨h1, h2, h3, h4⟩ := modeS_law hm hl hx
  by_cases hc : closedB a b bad = true
  · rw [if_pos hc] at ha
    have hab : a = true ∧ b = true ∧ bad = false := by
      revert hc; cases a <;> cases b <;> cases bad <;> decide
    subst ha
    exact ⟨fun h => ⟨hab.1, hab.2.1, hab.2.2, (h1 h).2⟩, fun h => (by rw [hc] at h; cases h), h3, h4⟩
  · rw [if_neg hc] at ha
    have hcall : callS l ask' < 2 := by
      subst ha
      cases bad with
      | true => rw [hb, if_pos rfl]; decide
      | false => rw [hb, if_neg (by decide), callS_nil, if_neg (by decide), if_pos rfl]; decide
    exact ⟨fun h => absurd (h1 h).1 (by omega), fun _ => h2 hcall, h3, h4⟩
set_option maxRecDepth 100000 in
set_option maxHeartbeats 4000000 in
theorem new_run (w : World) : Calls Try.prog 21 #[] w fun e w' => e = .returned (.agg #[.int .i64 1, .int .i64 0, .int .i64 0, .slice none 0 0, .int .i64 0, .int .i64 0]) ∧ Below w.heap.size w w' := by
  go_enter Try.func21, Try.ntmps21
  go_wp2
  refine bodyPost_ret (v := .agg #[.int .i64 1, .int .i64 0, .int .i64 0, .slice none 0 0, .int .i64 0, .int .i64 0]) (by simp [results, Try.results21, go_sem]) rfl ⟨rfl, ?_⟩
  exact (Below.refl _ w).alloc (Nat.le_refl _) _
/-- The command of a state. -/
def cmdS (mode cat : Int) : Int := if mode = 5 then 3 else if mode = 4 ∨ (mode = 3 ∧ cat = 0) then 2 else if mode = 3 then 1 else 0
set_option maxRecDepth 100000 in
set_option maxHeartbeats 4000000 in
theorem command_run (mode cat left : Int) (A : Option Addr) (n c : Nat) (t0 t1 : Int) (w : World) : Calls Try.prog 23 #[.agg #[.int .i64 mode, .int .i64 cat, .int .i64 left, .slice A n c, .int .i64 t0, .int .i64 t1]] w fun e w' => e = .returned (.int .i64 (cmdS mode cat)) ∧ Below w.heap.size w w' := by
  by_cases h5 : mode = 5
  · subst h5
    have E := Aside0.mk (show cmdS 5 cat = 3 from rfl)
    go_enter Try.func23, Try.ntmps23
    go_wp2
    go_ret
    exact ⟨by rw [E.out]; rfl, (Below.refl _ w).alloc (Nat.le_refl _) _⟩
  by_cases h4 : mode = 4
  · subst h4
    have E := Aside0.mk (show cmdS 4 cat = 2 from rfl)
    clear h5
    go_enter Try.func23, Try.ntmps23
    go_wp2
    go_ret
    exact ⟨by rw [E.out]; rfl, (Below.refl _ w).alloc (Nat.le_refl _) _⟩
  by_cases h3 : mode = 3
  · subst h3
    by_cases hc : cat = 0
    · subst hc
      have E := Aside0.mk (show cmdS 3 0 = 2 from rfl)
      clear h5 h4
      go_enter Try.func23, Try.ntmps23
      go_wp2
      go_ret
      exact ⟨by rw [E.out]; rfl, (Below.refl _ w).alloc (Nat.le_refl _) _⟩
    · have E := Aside0.mk (show cmdS 3 cat = 1 from by unfold cmdS; rw [if_neg (by decide), if_neg (by omega), if_pos rfl])
      have hd : (cat == 0) = false := beq_eq_false_iff_ne.mpr hc
      clear h5 h4 hc
      go_enter Try.func23, Try.ntmps23
      go_wp2
      go_ret
      exact ⟨by rw [E.out]; rfl, (Below.refl _ w).alloc (Nat.le_refl _) _⟩
  have E := Aside0.mk (show cmdS mode cat = 0 from by unfold cmdS; rw [if_neg h5, if_neg (by omega), if_neg h3])
  have d5 : (mode == 5) = false := beq_eq_false_iff_ne.mpr h5
  have d4 : (mode == 4) = false := beq_eq_false_iff_ne.mpr h4
  have d3 : (mode == 3) = false := beq_eq_false_iff_ne.mpr h3
  clear h5 h4 h3
  go_enter Try.func23, Try.ntmps23
  go_wp2
  go_ret
  exact ⟨by rw [E.out]; rfl, (Below.refl _ w).alloc (Nat.le_refl _) _⟩
end Go.Proofs.Ythmddbffhbfmeaa.Sup
