/- A profile played along a path: the states, the end, the limits; how long a best path is at most. -/
import Derived.Test.YthmddbffhbfmeaaXLen22
import Derived.Test.YthmddbffhbfmeaaP1
import Derived.Test.YthmddbffhbfmeaaP1
import Derived.Test.YthmddbffhbfmeaaP4
namespace Go.Proofs.Ythmddbffhbfmeaa.Pure
set_option linter.unusedSimpArgs false
set_option linter.unusedVariables false
open Go.RowKit Go.Proofs.Ythmddbffhbfmeaa.P Go.Proofs.YthmddbffhbfmeaaW.PrintWords Go.Proofs.YthmddbffhbfmeaaW.PrintLast Go.Proofs.YthmddbffhbfmeaaW.PrintMore Go.Proofs.Ythmddbffhbfmeaa.Motion
/-- The states behind each jerk, with the jerk. -/
def pz : Mo → List Int → List (Int × Int × Int × Int)
  | _, [] => []
  | m, j :: l => (j, (tick m j).p, (tick m j).v, (tick m j).a) :: pz (tick m j) l
theorem tr_path {L : Lm} (hL : ok L) {d : Int} (d1 : d ≤ 420) {l : List Int} : ∀ {m m' : Mo}, may L d m → Path L d m l m' → Ticks.tr m.p m.v m.a l = pz m l := by
  have hb := hL
  unfold ok at hb
  induction l with
  | nil => intro m m' _ _; rfl
  | cons j l ih =>
    intro m m' hm h
    have h1 := h.2.2.1
    have e := ih h1 h.2.2.2
    have j0 := h.1
    have j1 := h.2.1
    unfold may at hm
    rw [Ticks.tr, w64 (x := m.a + j) (by omega) (by omega), w64 (x := m.v + (m.a + j)) (by omega) (by omega), w64 (x := m.p + (m.v + (m.a + j))) (by omega) (by omega)]
    exact congrArg (List.cons _) e
theorem pz_last (l : List Int) : ∀ m : Mo, Ticks.lastOf m.p m.v m.a (pz m l) = ((run m l).p, (run m l).v, (run m l).a) := by
  induction l with
  | nil => intro m; rfl
  | cons j l ih =>
    intro m
    have e : Ticks.lastOf m.p m.v m.a (pz m (j :: l)) = Ticks.lastOf (tick m j).p (tick m j).v (tick m j).a (pz (tick m j) l) := by
      rw [pz]
      cases pz (tick m j) l with
      | nil => rfl
      | cons y l => simp [Ticks.lastOf, List.getLast?_cons]
    rw [e, ih]
    rfl
theorem final_path {L : Lm} (hL : ok L) {d : Int} (d1 : d ≤ 420) {l : List Int} (hl : l.length ≤ 1000000) {m m' : Mo} (hm : may L d m) (h : Path L d m l m') : profile_Final.f m.p m.v m.a l = some (m'.p, m'.v, m'.a) := by
  unfold profile_Final.f
  rw [if_pos (by omega), tr_path hL d1 hm h, pz_last, h.run]
theorem pz_states (l : List Int) : ∀ m : Mo, statesOf (pz m l) = (trace m l).map fun x => ⟨x.p, x.v, x.a⟩ := by
  induction l with
  | nil => intro m; rfl
  | cons j l ih => intro m; exact congrArg (List.cons _) (ih (tick m j))
theorem simulate_path {L : Lm} (hL : ok L) {d : Int} (d1 : d ≤ 420) {l : List Int} (hl : l.length ≤ 1000000) {m m' : Mo} (hm : may L d m) (h : Path L d m l m') : profile_Simulate.f m.p m.v m.a l = some ((trace m l).map fun x => ⟨x.p, x.v, x.a⟩) := by
  unfold profile_Simulate.f
  rw [if_pos (by omega), tr_path hL d1 hm h, pz_states]
theorem trace_length (l : List Int) : ∀ m : Mo, (trace m l).length = l.length := by
  induction l with
  | nil => intro m; rfl
  | cons j l ih => intro m; simp [trace, ih]
theorem trace_at (l : List Int) : ∀ (m : Mo) (i : Nat) (h : i < (trace m l).length), (trace m l)[i] = run m (l.take (i + 1)) := by
  induction l with
  | nil => intro m i h; simp [trace] at h
  | cons j l ih =>
    intro m i h
    cases i with
    | zero => rfl
    | succ i => exact ih (tick m j) i (by simpa [trace] using h)
theorem withinB_of {n most : Int} (h0 : -most ≤ n) (h1 : n ≤ most) (hm : most ≤ 1000) : withinB n most = true := by
  unfold withinB mx
  rw [w64 (by omega) (by omega)]
  split <;> simp <;> omega
theorem within_path {L : Lm} (hL : ok L) {d : Int} (d1 : d ≤ 420) {l : List Int} (hl : l.length ≤ 1000000) {m m' : Mo} (hm : may L d m) (h : Path L d m l m') : profile_Within.f L.v L.a L.j m.p m.v m.a l = some true := by
  have hb := hL
  unfold ok at hb
  have fits : ∀ {x : Mo}, may L d x → fitsB L.v L.a L.j x.p x.v x.a = true := by
    intro x hx
    unfold may at hx
    unfold fitsB
    rw [withinB_of (by omega) (by omega) (by omega), withinB_of (by omega) (by omega) (by omega)]
    rfl
  have all : ∀ (l : List Int) (m : Mo), Path L d m l m' → ((pz m l).all fun q => withinB q.1 L.j && fitsB L.v L.a L.j q.2.1 q.2.2.1 q.2.2.2) = true := by
    intro l
    induction l with
    | nil => intro m _; rfl
    | cons j l ih =>
      intro m h
      rw [pz, List.all_cons, ih (tick m j) h.2.2.2, withinB_of h.1 h.2.1 (by omega), fits h.2.2.1]
      rfl
  unfold profile_Within.f
  rw [if_pos (by omega), tr_path hL d1 hm h, all l m h, fits hm]
  rfl
theorem motion_beq (d : Int) : ((goal d).p == d && ((goal d).v == 0 && ((goal d).a == 0))) = true := by simp [goal]
end Go.Proofs.Ythmddbffhbfmeaa.Pure
