/- The table of the motions between 0 and the distance: one place for each. -/
import Derived.Test.YtmmaodlngnjmlaaXMotion
import Derived.Test.YtmmaodlngnjmlaaP2
namespace Go.Proofs.Ytmmaodlngnjmlaa.Pure
set_option linter.unusedSimpArgs false
set_option linter.unusedVariables false
open Go.RowKit Go.Proofs.Ytmmaodlngnjmlaa.P Go.Proofs.YtmmaodlngnjmlaaW.PrintWords Go.Proofs.YtmmaodlngnjmlaaW.PrintLast Go.Proofs.YtmmaodlngnjmlaaW.PrintMore Go.Proofs.Ytmmaodlngnjmlaa.Motion

theorem w64 {x : Int} (h0 : -9223372036854775808 ≤ x) (h1 : x ≤ 9223372036854775807) : wrap64 x = x := by unfold wrap64; omega
def idx (L : Lm) (m : Mo) : Int := (m.p * (2 * L.v + 1) + m.v + L.v) * (2 * L.a + 1) + m.a + L.a
def many (L : Lm) (d : Int) : Int := (d + 1) * (2 * L.v + 1) * (2 * L.a + 1)
theorem lim_cases {L : Lm} (h : ok L) : (L.v = 1 ∨ L.v = 2 ∨ L.v = 3 ∨ L.v = 4 ∨ L.v = 5 ∨ L.v = 6 ∨ L.v = 7 ∨ L.v = 8) ∧ (L.a = 1 ∨ L.a = 2 ∨ L.a = 3 ∨ L.a = 4) := by
  unfold ok at h
  omega
theorem idx_range {L : Lm} (h : ok L) {d : Int} (h0 : 0 ≤ d) (h1 : d ≤ 420) {m : Mo} (hm : may L d m) : 0 ≤ idx L m ∧ idx L m < many L d ∧ many L d ≤ 70000 := by
  obtain ⟨hv, ha⟩ := lim_cases h
  unfold may at hm
  unfold idx many
  obtain ⟨x, y, z⟩ := L
  dsimp only at *
  rcases hv with rfl | rfl | rfl | rfl | rfl | rfl | rfl | rfl <;> rcases ha with rfl | rfl | rfl | rfl <;> omega
theorem idx_inj {L : Lm} (h : ok L) {d : Int} {m m' : Mo} (hm : may L d m) (hm' : may L d m') (e : idx L m = idx L m') : m = m' := by
  obtain ⟨hv, ha⟩ := lim_cases h
  have key : m.p = m'.p ∧ m.v = m'.v ∧ m.a = m'.a := by
    unfold may at hm hm'
    unfold idx at e
    obtain ⟨x, y, z⟩ := L
    dsimp only at *
    rcases hv with rfl | rfl | rfl | rfl | rfl | rfl | rfl | rfl <;> rcases ha with rfl | rfl | rfl | rfl <;> omega
  cases m
  cases m'
  simp only at key
  obtain ⟨rfl, rfl, rfl⟩ := key
  rfl
theorem of_eq {L : Lm} (h : ok L) {d : Int} (h0 : 0 ≤ d) (h1 : d ≤ 420) (p v a : Int) : mintime_space_of.f L.v L.a L.j d p v a = some (if may L d ⟨p, v, a⟩ then (idx L ⟨p, v, a⟩, true) else (0, false)) := by
  have hb := h
  unfold ok at hb
  unfold mintime_space_of.f
  rw [w64 (x := -L.v) (by omega) (by omega), w64 (x := -L.a) (by omega) (by omega)]
  by_cases hm : may L d ⟨p, v, a⟩
  · rw [if_pos hm]
    obtain ⟨r0, r1, r2⟩ := idx_range h h0 h1 hm
    have hm' := hm
    unfold may at hm'
    dsimp only at hm'
    rw [if_neg (by omega), if_neg (by omega), if_neg (by omega), if_neg (by omega), if_neg (by omega), if_neg (by omega)]
    obtain ⟨hv, ha⟩ := lim_cases h
    rw [w64 (x := 2 * L.v) (by omega) (by omega), w64 (x := 2 * L.v + 1) (by omega) (by omega), w64 (x := 2 * L.a) (by omega) (by omega), w64 (x := 2 * L.a + 1) (by omega) (by omega)]
    congr 2
    unfold idx
    clear hm r0 r1 r2 h
    obtain ⟨x, y, z⟩ := L
    dsimp only at *
    rcases hv with rfl | rfl | rfl | rfl | rfl | rfl | rfl | rfl <;> rcases ha with rfl | rfl | rfl | rfl <;> unfold wrap64 <;> omega
  · rw [if_neg hm]
    unfold may at hm
    dsimp only at hm
    by_cases c1 : p < 0
    · rw [if_pos c1]
    rw [if_neg c1]
    by_cases c2 : p > d
    · rw [if_pos c2]
    rw [if_neg c2]
    by_cases c3 : v < -L.v
    · rw [if_pos c3]
    rw [if_neg c3]
    by_cases c4 : v > L.v
    · rw [if_pos c4]
    rw [if_neg c4]
    by_cases c5 : a < -L.a
    · rw [if_pos c5]
    rw [if_neg c5, if_pos (by omega)]
theorem many_eq {L : Lm} (h : ok L) {d : Int} (h0 : 0 ≤ d) (h1 : d ≤ 420) : mintime_space_many.f L.v L.a L.j d = some (many L d) := by
  obtain ⟨hv, ha⟩ := lim_cases h
  unfold mintime_space_many.f many
  have hb := h
  unfold ok at hb
  rw [w64 (x := 2 * L.v) (by omega) (by omega), w64 (x := 2 * L.v + 1) (by omega) (by omega), w64 (x := 2 * L.a) (by omega) (by omega), w64 (x := 2 * L.a + 1) (by omega) (by omega)]
  congr 1
  obtain ⟨x, y, z⟩ := L
  dsimp only at *
  rcases hv with rfl | rfl | rfl | rfl | rfl | rfl | rfl | rfl <;> rcases ha with rfl | rfl | rfl | rfl <;> unfold wrap64 <;> omega

/-- The motion ahead of a tick. -/
def ahead (m : Mo) (j : Int) : Mo := ⟨m.p - m.v, m.v - m.a, m.a - j⟩
theorem tick_ahead (m : Mo) (j : Int) : tick (ahead m j) j = m := by
  cases m
  simp only [tick, ahead, Mo.mk.injEq]
  omega
theorem ahead_tick {m m' : Mo} {j : Int} (e : tick m j = m') : m = ahead m' j := by
  subst e
  cases m
  simp only [tick, ahead, Mo.mk.injEq]
  omega
theorem ahead_eq {L : Lm} (h : ok L) {d : Int} (h1 : d ≤ 420) {m : Mo} (hm : may L d m) {j : Int} (hj : -L.j ≤ j ∧ j ≤ L.j) : mintime_ahead.f m.p m.v m.a j = some ((ahead m j).p, (ahead m j).v, (ahead m j).a) := by
  unfold ok at h
  unfold may at hm
  unfold mintime_ahead.f ahead
  rw [w64 (x := m.p - m.v) (by omega) (by omega), w64 (x := m.v - m.a) (by omega) (by omega), w64 (x := m.a - j) (by omega) (by omega)]

/-! ### Labels -/
def lab (L : Lm) (out : List Int) (m : Mo) : Int := rd out (idx L m)
theorem lab_at {L : Lm} (h : ok L) {d : Int} (h0 : 0 ≤ d) (h1 : d ≤ 420) {out : List Int} (hl : (out.length : Int) = many L d) {m : Mo} (hm : may L d m) : ∃ hi : (idx L m).toNat < out.length, lab L out m = out[(idx L m).toNat] := by
  obtain ⟨r0, r1, _⟩ := idx_range h h0 h1 hm
  have hi : (idx L m).toNat < out.length := by omega
  exact ⟨hi, by simp [lab, rd, List.getD_eq_getElem?_getD, List.getElem?_eq_getElem hi]⟩
theorem lab_set {L : Lm} (h : ok L) {d : Int} (h0 : 0 ≤ d) (h1 : d ≤ 420) {out : List Int} (hl : (out.length : Int) = many L d) {m m' : Mo} (hm : may L d m) (hm' : may L d m') (x : Int) :
    lab L (out.set (idx L m').toNat x) m = if m = m' then x else lab L out m := by
  obtain ⟨hi, e⟩ := lab_at h h0 h1 hl hm
  obtain ⟨hi', e'⟩ := lab_at h h0 h1 hl hm'
  obtain ⟨hs, es⟩ := lab_at h h0 h1 (out := out.set (idx L m').toNat x) (by rw [List.length_set]; exact hl) hm
  rw [es, List.getElem_set]
  obtain ⟨r0, _, _⟩ := idx_range h h0 h1 hm
  obtain ⟨r0', _, _⟩ := idx_range h h0 h1 hm'
  by_cases c : m = m'
  · subst c
    rw [if_pos rfl, if_pos rfl]
  · have : (idx L m').toNat ≠ (idx L m).toNat := fun e0 => c (idx_inj h hm hm' (by omega))
    rw [if_neg this, if_neg c, e]
end Go.Proofs.Ytmmaodlngnjmlaa.Pure
