/- The table that the search backwards fills: each label is one more than a number of ticks to the goal; what is labelled, and when. -/
import Derived.Test.YtmmaodlngnjmlaaXTable22
namespace Go.Proofs.Ytmmaodlngnjmlaa.Pure
set_option linter.unusedSimpArgs false
set_option linter.unusedVariables false
open Go.RowKit Go.Proofs.Ytmmaodlngnjmlaa.P Go.Proofs.YtmmaodlngnjmlaaW.PrintWords Go.Proofs.YtmmaodlngnjmlaaW.PrintLast Go.Proofs.YtmmaodlngnjmlaaW.PrintMore Go.Proofs.Ytmmaodlngnjmlaa.Motion

def mo (x : S33) : Mo := ⟨x.f0, x.f1, x.f2⟩
/-- What holds of the labels at every moment. -/
structure Tab (L : Lm) (d : Int) (out : List Int) : Prop where
  len : (out.length : Int) = many L d
  nn : ∀ x ∈ out, 0 ≤ x ∧ x ≤ (out.length : Int) - (out.count 0 : Int)
  atGoal : lab L out (goal d) = 1
  one : ∀ m, may L d m → lab L out m = 1 → m = goal d
  step : ∀ m, may L d m → 1 < lab L out m → ∃ j, -L.j ≤ j ∧ j ≤ L.j ∧ may L d (tick m j) ∧ lab L out (tick m j) = lab L out m - 1
def Shut (L : Lm) (d : Int) (out : List Int) (m : Mo) : Prop := ∀ j, -L.j ≤ j → j ≤ L.j → may L d (ahead m j) → 0 < lab L out (ahead m j) ∧ lab L out (ahead m j) ≤ lab L out m + 1
structure Que (L : Lm) (d : Int) (out : List Int) (row : List Mo) (n : Int) : Prop where
  pos : 1 ≤ n
  split : ∃ A B, row = A ++ B ∧ (∀ m ∈ A, may L d m ∧ lab L out m = n) ∧ (∀ m ∈ B, may L d m ∧ lab L out m = n + 1) ∧ (A = [] → B = [])
  top : ∀ m, may L d m → lab L out m ≤ n + 1
  rest : ∀ m, may L d m → 0 < lab L out m → m ∈ row ∨ (lab L out m ≤ n ∧ Shut L d out m)
structure QueIn (L : Lm) (d : Int) (out : List Int) (row : List Mo) (n : Int) (m0 : Mo) (j : Int) : Prop where
  pos : 1 ≤ n
  may0 : may L d m0
  lab0 : lab L out m0 = n
  split : ∃ A B, row = A ++ B ∧ (∀ m ∈ A, may L d m ∧ lab L out m = n) ∧ (∀ m ∈ B, may L d m ∧ lab L out m = n + 1)
  top : ∀ m, may L d m → lab L out m ≤ n + 1
  rest : ∀ m, may L d m → 0 < lab L out m → m ∈ row ∨ m = m0 ∨ (lab L out m ≤ n ∧ Shut L d out m)
  part : ∀ i, -L.j ≤ i → i ≤ L.j → i < j → may L d (ahead m0 i) → 0 < lab L out (ahead m0 i) ∧ lab L out (ahead m0 i) ≤ n + 1
structure Post (L : Lm) (d : Int) (out : List Int) : Prop where
  tab : Tab L d out
  full : ∀ (l : List Int) (m : Mo), may L d m → Path L d m l (goal d) → ((l.length : Int) + 2 ≤ lab L out zero ∨ lab L out zero ≤ 1) → 0 < lab L out m ∧ lab L out m ≤ (l.length : Int) + 1
theorem Tab.sound {L : Lm} {d : Int} {out : List Int} (h : Tab L d out) : ∀ (n : Nat) (m : Mo), may L d m → lab L out m = (n : Int) + 1 → ∃ l, Path L d m l (goal d) ∧ l.length = n
  | 0, m, hm, e => ⟨[], by have := h.one m hm (by omega); exact this, rfl⟩
  | n + 1, m, hm, e => by
    obtain ⟨j, j0, j1, hm', e'⟩ := h.step m hm (by omega)
    obtain ⟨l, hp, hl⟩ := h.sound n (tick m j) hm' (by omega)
    exact ⟨j :: l, ⟨j0, j1, hm', hp⟩, by simp [hl]⟩
theorem QueIn.full {L : Lm} {d : Int} {out : List Int} {row : List Mo} {n : Int} {m0 : Mo} {j : Int} (h : Tab L d out) (q : QueIn L d out row n m0 j) : ∀ (l : List Int) (m : Mo), may L d m → Path L d m l (goal d) → (l.length : Int) + 1 ≤ n → 0 < lab L out m ∧ lab L out m ≤ (l.length : Int) + 1
  | [], m, hm, hp, _ => by
    obtain rfl : m = goal d := hp
    have := h.atGoal
    simp
    omega
  | i :: l, m, hm, ⟨i0, i1, hm', hp⟩, hl => by
    simp only [List.length_cons, Int.natCast_add, Int.natCast_one] at hl ⊢
    obtain ⟨a, b⟩ := q.full h l (tick m i) hm' hp (by omega)
    obtain ⟨A, B, e, hA, hB⟩ := q.split
    have em := ahead_tick (rfl : tick m i = tick m i)
    rcases q.rest _ hm' a with k | k | ⟨k1, k2⟩
    · rw [e] at k
      rcases List.mem_append.1 k with k | k
      · have := (hA _ k).2; omega
      · have := (hB _ k).2; omega
    · have := q.lab0
      rw [← k] at this
      omega
    · have := k2 i i0 i1 (by rw [← em]; exact hm)
      rw [← em] at this
      omega
theorem Que.full {L : Lm} {d : Int} {out : List Int} {n : Int} (h : Tab L d out) (q : Que L d out [] n) : ∀ (l : List Int) (m : Mo), may L d m → Path L d m l (goal d) → 0 < lab L out m ∧ lab L out m ≤ (l.length : Int) + 1
  | [], m, hm, hp => by
    obtain rfl : m = goal d := hp
    have := h.atGoal
    simp
    omega
  | i :: l, m, hm, ⟨i0, i1, hm', hp⟩ => by
    simp only [List.length_cons, Int.natCast_add, Int.natCast_one]
    obtain ⟨a, b⟩ := q.full h l (tick m i) hm' hp
    have em := ahead_tick (rfl : tick m i = tick m i)
    rcases q.rest _ hm' a with k | ⟨k1, k2⟩
    · simp at k
    · have := k2 i i0 i1 (by rw [← em]; exact hm)
      rw [← em] at this
      omega
/-- The queue between two motions. -/
theorem QueIn.done {L : Lm} {d : Int} {out : List Int} {row : List Mo} {n : Int} {m0 : Mo} {j : Int} (q : QueIn L d out row n m0 j) (hj : L.j < j) : ∃ n', Que L d out row n' := by
  obtain ⟨A, B, e, hA, hB⟩ := q.split
  have hs : Shut L d out m0 := fun i i0 i1 hm => by have := q.part i i0 i1 (by omega) hm; have := q.lab0; omega
  by_cases c : A = []
  · refine ⟨n + 1, by have := q.pos; omega, ⟨B, [], by rw [e, c]; simp, hB, fun m hm => by simp at hm, fun _ => rfl⟩, fun m hm => by have := q.top m hm; omega, fun m hm hp => ?_⟩
    rcases q.rest m hm hp with k | rfl | ⟨k1, k2⟩
    · exact .inl k
    · exact .inr ⟨by have := q.lab0; omega, hs⟩
    · exact .inr ⟨by omega, k2⟩
  · refine ⟨n, q.pos, ⟨A, B, e, hA, hB, fun e => absurd e c⟩, q.top, fun m hm hp => ?_⟩
    rcases q.rest m hm hp with k | rfl | ⟨k1, k2⟩
    · exact .inl k
    · exact .inr ⟨by have := q.lab0; omega, hs⟩
    · exact .inr ⟨k1, k2⟩
theorem Que.pop {L : Lm} {d : Int} {out : List Int} {m0 : Mo} {row : List Mo} {n : Int} (q : Que L d out (m0 :: row) n) : QueIn L d out row n m0 (-L.j) := by
  obtain ⟨A, B, e, hA, hB, hAB⟩ := q.split
  cases A with
  | nil => rw [hAB rfl] at e; simp at e
  | cons x A =>
    simp only [List.cons_append, List.cons.injEq] at e
    obtain ⟨rfl, e⟩ := e
    have h0 := hA m0 (by simp)
    refine ⟨q.pos, h0.1, h0.2, ⟨A, B, e, fun m hm => hA m (by simp [hm]), hB⟩, q.top, fun m hm hp => ?_, fun i i0 i1 i2 => by omega⟩
    rcases q.rest m hm hp with k | k
    · rcases List.mem_cons.1 k with k | k
      · exact .inr (.inl k)
      · exact .inl k
    · exact .inr (.inr k)
theorem lab_nn {L : Lm} (hL : ok L) {d : Int} (d0 : 0 ≤ d) (d1 : d ≤ 420) {out : List Int} (h : Tab L d out) {m : Mo} (hm : may L d m) : 0 ≤ lab L out m ∧ lab L out m ≤ (out.length : Int) - (out.count 0 : Int) := by
  obtain ⟨hi, e⟩ := lab_at hL d0 d1 h.len hm
  rw [e]
  exact h.nn _ (List.getElem_mem hi)
/-- A motion that gets its label. -/
theorem tab_set {L : Lm} (hL : ok L) {d : Int} (d0 : 0 ≤ d) (d1 : d ≤ 420) {out : List Int} (h : Tab L d out) {m0 was : Mo} (h0 : may L d m0) (hw : may L d was) {n : Int} (hn : 1 ≤ n) (e0 : lab L out m0 = n) (ew : lab L out was = 0) {j : Int} (j0 : -L.j ≤ j) (j1 : j ≤ L.j) (et : tick was j = m0) :
    Tab L d (out.set (idx L was).toNat (n + 1)) ∧ (∀ m, may L d m → 0 < lab L out m → lab L (out.set (idx L was).toNat (n + 1)) m = lab L out m) ∧ lab L (out.set (idx L was).toNat (n + 1)) was = n + 1 ∧
    (∀ m, may L d m → lab L (out.set (idx L was).toNat (n + 1)) m = if m = was then n + 1 else lab L out m) ∧ (out.set (idx L was).toNat (n + 1)).count 0 + 1 = out.count 0 := by
  have hset : ∀ m, may L d m → lab L (out.set (idx L was).toNat (n + 1)) m = if m = was then n + 1 else lab L out m := fun m hm => lab_set hL d0 d1 h.len hm hw (n + 1)
  have hkeep : ∀ m, may L d m → 0 < lab L out m → lab L (out.set (idx L was).toNat (n + 1)) m = lab L out m := fun m hm hp => by
    rw [hset m hm, if_neg (fun e => by rw [e] at hp; omega)]
  obtain ⟨hi, ei⟩ := lab_at hL d0 d1 h.len hw
  have hc : (out.set (idx L was).toNat (n + 1)).count 0 + 1 = out.count 0 := by
    rw [List.count_set hi]
    have e1 : (out[(idx L was).toNat] == 0) = true := by rw [← ei, ew]; rfl
    have e2 : ((n + 1 : Int) == 0) = false := by simp; omega
    have e3 : 0 < out.count 0 := List.count_pos_iff.2 (by rw [← ew, ei]; exact List.getElem_mem hi)
    rw [e1, e2]
    simp
    omega
  have hg : may L d (goal d) := by
    obtain ⟨a1, a2, a3, a4, a5, a6⟩ := hL
    simp only [may, goal]
    omega
  refine ⟨⟨by rw [List.length_set]; exact h.len, fun x hx => ?_, ?_, fun m hm e => ?_, fun m hm hp => ?_⟩, hkeep, by rw [hset was hw, if_pos rfl], hset, hc⟩
  · rw [List.length_set]
    rcases List.mem_or_eq_of_mem_set hx with hx | rfl
    · have := h.nn x hx; omega
    · have := lab_nn hL d0 d1 h h0; omega
  · rw [hkeep _ hg (by rw [h.atGoal]; omega)]
    exact h.atGoal
  · rw [hset m hm] at e
    by_cases c : m = was
    · rw [if_pos c] at e; omega
    · rw [if_neg c] at e; exact h.one m hm e
  · by_cases c : m = was
    · subst c
      refine ⟨j, j0, j1, by rw [et]; exact h0, ?_⟩
      rw [et, hkeep m0 h0 (by omega), hset m hm, if_pos rfl]
      omega
    · rw [hset m hm, if_neg c] at hp ⊢
      obtain ⟨i, i0, i1, hm', e'⟩ := h.step m hm hp
      exact ⟨i, i0, i1, hm', by rw [hkeep _ hm' (by omega)]; exact e'⟩
theorem que_set {L : Lm} (hL : ok L) {d : Int} (d0 : 0 ≤ d) (d1 : d ≤ 420) {out : List Int} {row : List Mo} {n : Int} {m0 : Mo} {j : Int} (h : Tab L d out) (q : QueIn L d out row n m0 j) (j0 : -L.j ≤ j) (j1 : j ≤ L.j) (hw : may L d (ahead m0 j)) (ew : lab L out (ahead m0 j) = 0) :
    QueIn L d (out.set (idx L (ahead m0 j)).toNat (n + 1)) (row ++ [ahead m0 j]) n m0 (j + 1) := by
  obtain ⟨_, hkeep, hnew, hset, _⟩ := tab_set hL d0 d1 h q.may0 hw q.pos q.lab0 ew j0 j1 (tick_ahead m0 j)
  obtain ⟨A, B, e, hA, hB⟩ := q.split
  have hp := q.pos
  refine ⟨q.pos, q.may0, by rw [hkeep _ q.may0 (by rw [q.lab0]; omega)]; exact q.lab0, ⟨A, B ++ [ahead m0 j], by rw [e, List.append_assoc], fun m hm => ?_, fun m hm => ?_⟩, fun m hm => ?_, fun m hm hl => ?_, fun i i0 i1 i2 hm => ?_⟩
  · obtain ⟨a, b⟩ := hA m hm
    exact ⟨a, by rw [hkeep m a (by omega)]; exact b⟩
  · rcases List.mem_append.1 hm with hm | hm
    · obtain ⟨a, b⟩ := hB m hm
      exact ⟨a, by rw [hkeep m a (by omega)]; exact b⟩
    · obtain rfl : m = ahead m0 j := by simpa using hm
      exact ⟨hw, hnew⟩
  · rw [hset m hm]
    split
    · omega
    · exact q.top m hm
  · by_cases c : m = ahead m0 j
    · exact .inl (by simp [c])
    · have el := hset m hm
      rw [if_neg c] at el
      rw [el] at hl
      rcases q.rest m hm hl with k | k | ⟨k1, k2⟩
      · exact .inl (by simp [k])
      · exact .inr (.inl k)
      · refine .inr (.inr ⟨by rw [el]; exact k1, fun i i0 i1 hi => ?_⟩)
        obtain ⟨a, b⟩ := k2 i i0 i1 hi
        rw [hkeep _ hi a, el]
        exact ⟨a, b⟩
  · by_cases c : i = j
    · subst c
      rw [hnew]
      omega
    · obtain ⟨a, b⟩ := q.part i i0 i1 (by omega) hm
      rw [hkeep _ hm a]
      exact ⟨a, b⟩
end Go.Proofs.Ytmmaodlngnjmlaa.Pure
