/- What a stop is, told in plain lists: the ramp by its best jerks, the brakes in one or two ticks. -/
import Derived.Test.YthmddbffhbfmeaaXRamp28
import Derived.Test.YthmddbffhbfmeaaP1
import Derived.Test.YthmddbffhbfmeaaP1
import Derived.Test.YthmddbffhbfmeaaP1
namespace Go.Proofs.Ythmddbffhbfmeaa.Pure
set_option linter.unusedSimpArgs false
set_option linter.unusedVariables false
open Go Go.RowKit Go.Proofs.Ythmddbffhbfmeaa.P Go.Proofs.YthmddbffhbfmeaaW.PrintWords Go.Proofs.YthmddbffhbfmeaaW.PrintLast Go.Proofs.YthmddbffhbfmeaaW.PrintMore Go.Proofs.Ythmddbffhbfmeaa.Ramp Go.Proofs.Ythmddbffhbfmeaa.Motion Go.Proofs.Ythmddbffhbfmeaa.Search
abbrev st28 (x : Mo) : S31 := ⟨x.p, x.v, x.a⟩
theorem st28_at {T : List Mo} {i : Nat} (hi : i < T.length) : rd_T31 (T.map st28) (i : Int) = st28 T[i] := by
  unfold rd_T31
  rw [Int.toNat_natCast, List.getD_eq_getElem?_getD, List.getElem?_map, List.getElem?_eq_getElem hi]
  rfl
theorem wi28 {i n : Nat} (hn : n ≤ 1000000000000) (h : i < n) : wrap64 ((i : Int) + 1) = ((i + 1 : Nat) : Int) := by rw [r64 (by omega) (by omega)]; rfl
/-- The motions within which a stop is asked. -/
def okM (A J : Int) (m : Mo) : Prop := okL A J ∧ -8 ≤ m.v ∧ m.v ≤ 8 ∧ -A ≤ m.a ∧ m.a ≤ A ∧ -4398046511104 ≤ m.p ∧ m.p ≤ 4398046511104
def less28 (v : Int) : Int := if v > 4 then v - 4 else if v < -4 then v + 4 else 0
def brk (m : Mo) : List Mo := if less28 m.v = 0 then [⟨m.p, 0, 0⟩] else [⟨m.p + less28 m.v, less28 m.v, 0⟩, ⟨m.p + less28 m.v, 0, 0⟩]
open Classical in
noncomputable def bestJ (A J : Int) (s : Va) : List Int := if h : ∃ l, BestV A J s l then Classical.choose h else []
theorem bestJ_spec {A J : Int} (hL : okL A J) {v a : Int} (hv : -8 ≤ v ∧ v ≤ 8) (ha : -A ≤ a ∧ a ≤ A) : BestV A J (v, a) (bestJ A J (v, a)) ∧ (bestJ A J (v, a)).length ≤ 12 ∧ rampL A J FUEL [⟨v, a, -1, 0⟩] 0 = some (bestJ A J (v, a)) := by
  obtain ⟨l, h1, h2, h3⟩ := ramp_ok hL hv ha
  have hb : BestV A J (v, a) (bestJ A J (v, a)) := by
    unfold bestJ
    rw [dif_pos ⟨l, h2⟩]
    exact Classical.choose_spec (p := fun l => BestV A J (v, a) l) ⟨l, h2⟩
  have e := h2.unique hb
  rw [e] at h1 h3
  exact ⟨hb, h3, h1⟩
noncomputable def stopL (A J : Int) (m : Mo) (cat : Int) : List Mo :=
  if m.v = 0 ∧ m.a = 0 then [] else if cat = 1 ∨ cat = 2 then trace m (bestJ A J (m.v, m.a)) else if cat = 0 then brk m else []
/-! ### Without wraps -/
def pz28 : Mo → List Int → List (Int × Int × Int × Int)
  | _, [] => []
  | m, j :: l => (j, (tick m j).p, (tick m j).v, (tick m j).a) :: pz28 (tick m j) l
theorem tr28 {l : List Int} : ∀ {m : Mo}, small l → -(1000 - 2 * (l.length : Int)) ≤ m.a → m.a ≤ 1000 - 2 * (l.length : Int) → -(1000000 - 1000 * (l.length : Int)) ≤ m.v → m.v ≤ 1000000 - 1000 * (l.length : Int) →
    -(100000000000000 - 1000000 * (l.length : Int)) ≤ m.p → m.p ≤ 100000000000000 - 1000000 * (l.length : Int) → Ticks.tr m.p m.v m.a l = pz28 m l := by
  induction l with
  | nil => intro m _ _ _ _ _ _ _; rfl
  | cons j l ih =>
    intro m hs h1 h2 h3 h4 h5 h6
    have hj := hs j List.mem_cons_self
    simp only [List.length_cons, Int.natCast_add, Int.natCast_one] at h1 h2 h3 h4 h5 h6
    have e := ih (m := tick m j) (fun x hx => hs x (List.mem_cons_of_mem _ hx)) (by simp only [tick]; omega) (by simp only [tick]; omega) (by simp only [tick]; omega) (by simp only [tick]; omega) (by simp only [tick]; omega) (by simp only [tick]; omega)
    rw [Ticks.tr, r64 (x := m.a + j) (by omega) (by omega), r64 (x := m.v + (m.a + j)) (by omega) (by omega), r64 (x := m.p + (m.v + (m.a + j))) (by omega) (by omega)]
    exact congrArg (List.cons _) e
theorem pz28_states (l : List Int) : ∀ m : Mo, statesOf (pz28 m l) = (trace m l).map st28 := by
  induction l with
  | nil => intro m; rfl
  | cons j l ih => intro m; exact congrArg (List.cons _) (ih (tick m j))
theorem trace28_length (l : List Int) : ∀ m : Mo, (trace m l).length = l.length := by
  induction l with
  | nil => intro m; rfl
  | cons j l ih => intro m; simp [trace, ih]
theorem simulate28 {A J : Int} {m : Mo} (h : okM A J m) {l : List Int} (hs : small l) (hl : l.length ≤ 100) : profile_Simulate.f m.p m.v m.a l = some ((trace m l).map st28) := by
  obtain ⟨⟨h1, h2, h3, h4⟩, h5, h6, h7, h8, h9, h10⟩ := h
  unfold profile_Simulate.f
  rw [if_pos (by omega), tr28 hs (by omega) (by omega) (by omega) (by omega) (by omega) (by omega), pz28_states]
theorem brakes_eq {p v a : Int} (hv : -8 ≤ v ∧ v ≤ 8) (hp : -9398046511104 ≤ p ∧ p ≤ 9398046511104) : braking_brakes.f p v a = some (p + less28 v, less28 v, 0) := by
  unfold braking_brakes.f less28
  by_cases c1 : v > 4
  · rw [if_pos c1, if_pos c1, r64 (x := v - 4) (by omega) (by omega), r64 (by omega) (by omega)]
  · rw [if_neg c1, if_neg c1]
    by_cases c2 : v < -4
    · rw [if_pos c2, if_pos c2, r64 (x := v + 4) (by omega) (by omega), r64 (by omega) (by omega)]
    · rw [if_neg c2, if_neg c2, r64 (by omega) (by omega), Int.add_zero]
theorem less28_in {v : Int} (hv : -8 ≤ v ∧ v ≤ 8) : -4 ≤ less28 v ∧ less28 v ≤ 4 ∧ (-4 ≤ v ∧ v ≤ 4 → less28 v = 0) := by
  unfold less28
  split
  · exact ⟨by omega, by omega, fun _ => by omega⟩
  · split
    · exact ⟨by omega, by omega, fun _ => by omega⟩
    · exact ⟨by omega, by omega, fun _ => rfl⟩
theorem brake_l0 {A J : Int} {m : Mo} (h : okM A J m) {k : Nat} (hk : 2 ≤ k) : braking_StopMotion.l0 k [] m.p m.v m.a = some ((brk m).map st28) := by
  obtain ⟨_, h5, h6, h7, h8, h9, h10⟩ := h
  obtain ⟨k, rfl⟩ : ∃ k', k = k' + 1 + 1 := ⟨k - 2, by omega⟩
  obtain ⟨g1, g2, g3⟩ := less28_in ⟨h5, h6⟩
  have z1 : ([] : List S31).length < 5864062014805 := by simp
  have z2 : ([] ++ [st28 ⟨m.p + less28 m.v, less28 m.v, 0⟩] : List S31).length < 5864062014805 := by simp
  have b1 := brakes_eq (p := m.p) (v := m.v) (a := m.a) ⟨h5, h6⟩ ⟨by omega, by omega⟩
  have b2 := brakes_eq (p := m.p + less28 m.v) (v := less28 m.v) (a := 0) ⟨by omega, by omega⟩ ⟨by omega, by omega⟩
  have e0 : less28 (less28 m.v) = 0 := (less28_in (v := less28 m.v) ⟨by omega, by omega⟩).2.2 ⟨by omega, by omega⟩
  rw [e0, Int.add_zero] at b2
  rw [braking_StopMotion.l0, b1]
  simp only [Option.bind_some]
  rw [if_pos z1]
  by_cases c : less28 m.v = 0
  · rw [if_pos c]
    unfold brk
    rw [if_pos c]
    simp [c, st28]
  · rw [if_neg c, braking_StopMotion.l0, b2]
    simp only [Option.bind_some]
    rw [if_pos z2, if_pos trivial]
    unfold brk
    rw [if_neg c]
    simp [st28]
theorem stop_ok {A J : Int} {m : Mo} (h : okM A J m) (V cat : Int) {k : Nat} (hk : 3 ≤ k) : braking_StopMotion.f k V A J m.p m.v m.a cat = some ((stopL A J m cat).map st28) := by
  obtain ⟨k, rfl⟩ : ∃ k', k = k' + 1 := ⟨k - 1, by omega⟩
  have hr : braking_rest.f m.p m.v m.a = some (decide (m.v = 0 ∧ m.a = 0)) := by
    unfold braking_rest.f
    by_cases c : m.v = 0
    · rw [if_pos c]
      congr 1
      rw [Bool.eq_iff_iff]
      simp [c]
    · rw [if_neg c, decide_eq_false (fun e => c e.1)]
  have hramp : ∀ b, b = true → ¬ (m.v = 0 ∧ m.a = 0) → (cat = 1 ∨ cat = 2) → braking_StopMotion.j0 (k + 1) cat b V A J m.p m.v m.a = some ((stopL A J m cat).map st28) := by
    intro b hb hn hc
    obtain ⟨s1, s2, s3⟩ := bestJ_spec h.1 (v := m.v) (a := m.a) ⟨h.2.1, h.2.2.1⟩ ⟨h.2.2.2.1, h.2.2.2.2.1⟩
    rw [braking_StopMotion.j0, if_pos hb, braking_ramp.f, s3, Option.bind_some, simulate28 h (s1.1.small h.1.2.2.2) (by omega), Option.bind_some]
    unfold stopL
    rw [if_neg hn, if_pos hc]
  rw [braking_StopMotion.f, hr, Option.bind_some]
  by_cases c : m.v = 0 ∧ m.a = 0
  · rw [if_pos (decide_eq_true c)]
    unfold stopL
    rw [if_pos c]
    rfl
  · rw [if_neg (by simpa using c)]
    by_cases c1 : cat = 1
    · rw [if_pos c1]
      exact hramp true rfl c (.inl c1)
    · rw [if_neg c1]
      by_cases c2 : cat = 2
      · exact hramp _ (by simp [c2]) c (.inr c2)
      · rw [braking_StopMotion.j0, if_neg (by simp [c2])]
        unfold stopL
        rw [if_neg c, if_neg (show ¬ (cat = 1 ∨ cat = 2) from by omega)]
        by_cases c3 : cat = 0
        · rw [if_pos c3, if_pos c3]
          exact brake_l0 h (by omega)
        · rw [if_neg c3, if_neg c3]
          rfl
theorem duration28 {A J : Int} {m : Mo} (h : okM A J m) (V cat : Int) {k : Nat} (hk : 3 ≤ k) : braking_Duration.f k V A J m.p m.v m.a cat = some ((stopL A J m cat).length : Int) := by
  rw [braking_Duration.f, stop_ok h V cat hk, Option.bind_some, List.length_map]
/-! ### Where a stop leads, and how long it is -/
theorem run_va (l : List Int) : ∀ m : Mo, ((run m l).v, (run m l).a) = l.foldl tk (m.v, m.a) := by
  induction l with
  | nil => intro m; rfl
  | cons j l ih => intro m; exact ih (tick m j)
theorem vpath_fold {A J : Int} {l : List Int} : ∀ {s s' : Va}, VPath A J s l s' → l.foldl tk s = s' := by
  induction l with
  | nil => intro s s' h; exact h
  | cons j l ih => intro s s' h; exact ih h.2.2.2
theorem vpath_prefix {A J : Int} {l k : List Int} : ∀ {s s' : Va}, VPath A J s (l ++ k) s' → VPath A J s l (l.foldl tk s) := by
  induction l with
  | nil => intro s s' h; rfl
  | cons j l ih => intro s s' h; exact ⟨h.1, h.2.1, h.2.2.1, ih h.2.2.2⟩
theorem trace28_at (l : List Int) : ∀ (m : Mo) (i : Nat) (h : i < (trace m l).length), (trace m l)[i] = run m (l.take (i + 1)) := by
  induction l with
  | nil => intro m i h; simp [trace] at h
  | cons j l ih =>
    intro m i h
    cases i with
    | zero => rfl
    | succ i => exact ih (tick m j) i (by simpa [trace] using h)
end Go.Proofs.Ythmddbffhbfmeaa.Pure
