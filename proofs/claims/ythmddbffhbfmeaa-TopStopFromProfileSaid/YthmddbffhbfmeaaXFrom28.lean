/- A motion met on a shortest profile may be stopped; the jerks of a ramp are the differences of its accelerations. -/
import Derived.Test.YthmddbffhbfmeaaXPlay22
import Derived.Test.YthmddbffhbfmeaaXDist28
namespace Go.Proofs.Ythmddbffhbfmeaa.Pure
set_option linter.unusedSimpArgs false
set_option linter.unusedVariables false
open Go Go.RowKit Go.Proofs.Ythmddbffhbfmeaa.P Go.Proofs.YthmddbffhbfmeaaW.PrintWords Go.Proofs.YthmddbffhbfmeaaW.PrintLast Go.Proofs.YthmddbffhbfmeaaW.PrintMore Go.Proofs.Ythmddbffhbfmeaa.Ramp Go.Proofs.Ythmddbffhbfmeaa.Motion Go.Proofs.Ythmddbffhbfmeaa.Search
theorem from_ok {L : Lm} (hL : ok L) {d : Int} (d0 : 0 ≤ d) (d1 : d ≤ 420) {l : List Int} (hl : l.length ≤ 1000000) (hB : Best L d l) (i : Nat) : profile_Final.f 0 0 0 (l.take i) = some ((run zero (l.take i)).p, (run zero (l.take i)).v, (run zero (l.take i)).a) ∧ okM L.a L.j (run zero (l.take i)) := by
  have hz := may_zero hL (d := d) (by omega)
  have hp := hB.1
  rw [← List.take_append_drop i l] at hp
  have h1 := (Path.split hp).1
  have hm := Path.may_end hz h1
  refine ⟨final_path hL (by omega) (by rw [List.length_take]; omega) hz h1, ?_⟩
  obtain ⟨a1, a2, a3, a4, a5, a6⟩ := hL
  obtain ⟨b1, b2, b3, b4, b5, b6⟩ := hm
  exact ⟨⟨a3, a4, a5, a6⟩, by omega, by omega, b5, b6, by omega, by omega⟩
def rowOf : Mo → List Mo → List Int
  | _, [] => []
  | m, x :: T => (x.a - m.a) :: rowOf x T
theorem rowOf_trace (l : List Int) : ∀ m : Mo, rowOf m (trace m l) = l := by
  induction l with
  | nil => intro m; rfl
  | cons j l ih =>
    intro m
    show ((tick m j).a - m.a) :: rowOf (tick m j) (trace (tick m j) l) = j :: l
    rw [ih, show (tick m j).a - m.a = j by simp only [tick]; omega]
theorem rowOf_length : ∀ (T : List Mo) (m : Mo), (rowOf m T).length = T.length
  | [], m => rfl
  | x :: T, m => by simp [rowOf, rowOf_length T x]
theorem vpath_each {A J : Int} {l : List Int} : ∀ {m : Mo} {s' : Va}, VPath A J (m.v, m.a) l s' → (∀ j ∈ l, -J ≤ j ∧ j ≤ J) ∧ ∀ x ∈ trace m l, -A ≤ x.a ∧ x.a ≤ A := by
  induction l with
  | nil => intro m s' _; exact ⟨fun j hj => (by cases hj), fun x hx => by cases hx⟩
  | cons j l ih =>
    intro m s' h
    obtain ⟨j0, j1, ok, hr⟩ := h
    obtain ⟨q1, q2⟩ := ih (m := tick m j) hr
    refine ⟨fun x hx => ?_, fun x hx => ?_⟩
    · rcases List.mem_cons.1 hx with rfl | hx
      · exact ⟨j0, j1⟩
      · exact q1 x hx
    · rcases List.mem_cons.1 hx with rfl | hx
      · exact ok
      · exact q2 x hx
/-- A ramp: its jerks. -/
theorem ramp_row {A J : Int} {m : Mo} (h : okM A J m) {cat : Int} (hc : cat = 1 ∨ cat = 2) : ∃ l, stopL A J m cat = trace m l ∧ rowOf m (stopL A J m cat) = l ∧ small l ∧ l.length ≤ 12 ∧ (∀ j ∈ l, -J ≤ j ∧ j ≤ J) ∧ ∀ x ∈ trace m l, -A ≤ x.a ∧ x.a ≤ A := by
  obtain ⟨hL, h1, h2, h3, h4, h5, h6⟩ := id h
  by_cases hn : m.v = 0 ∧ m.a = 0
  · have e : stopL A J m cat = trace m [] := by unfold stopL; rw [if_pos hn]; rfl
    exact ⟨[], e, by rw [e]; rfl, fun x hx => (by cases hx), Nat.zero_le _, fun x hx => (by cases hx), fun x hx => by cases hx⟩
  · obtain ⟨s1, s2, s3⟩ := bestJ_spec hL (v := m.v) (a := m.a) ⟨h1, h2⟩ ⟨h3, h4⟩
    have e : stopL A J m cat = trace m (bestJ A J (m.v, m.a)) := by unfold stopL; rw [if_neg hn, if_pos hc]
    obtain ⟨q1, q2⟩ := vpath_each s1.1
    exact ⟨_, e, by rw [e, rowOf_trace], s1.1.small hL.2.2.2, s2, q1, q2⟩
theorem brake_way {m : Mo} (hv : -8 ≤ m.v ∧ m.v ≤ 8) : way28 m.p (brk m) ≤ 4 ∧ (brk m).length ≤ 2 := by
  obtain ⟨g1, g2, _⟩ := less28_in hv
  obtain ⟨f1, f2, f3⟩ := way_ge m.p (brk m) 0
  have hfar : ∀ x ∈ brk m, far28 m.p x ≤ 4 := by
    intro x hx
    have hx : x.p = m.p ∨ x.p = m.p + less28 m.v := by
      unfold brk at hx
      by_cases c : less28 m.v = 0
      · rw [if_pos c] at hx
        exact .inl (by rw [List.mem_singleton.1 hx])
      · rw [if_neg c] at hx
        simp only [List.mem_cons, List.not_mem_nil, or_false] at hx
        rcases hx with rfl | rfl <;> exact .inr rfl
    unfold far28 mx
    split <;> rcases hx with hx | hx <;> omega
  refine ⟨?_, by unfold brk; split <;> simp⟩
  rcases f3 with f3 | ⟨x, hx, f3⟩
  · have e : way28 m.p (brk m) = 0 := f3
    omega
  · have e : far28 m.p x = way28 m.p (brk m) := f3
    have := hfar x hx
    omega
end Go.Proofs.Ythmddbffhbfmeaa.Pure
