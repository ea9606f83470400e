/- Stops shifted and mirrored; the stopping distance as a plain maximum. -/
import Derived.Test.YthmddbffhbfmeaaXStop28
import Derived.Test.YthmddbffhbfmeaaPK
import Derived.OpenShut
import Derived.IntWalk
namespace Go.Proofs.Ythmddbffhbfmeaa.Pure
set_option linter.unusedSimpArgs false
set_option linter.unusedVariables false
open Go Go.RowKit Go.Proofs.Ythmddbffhbfmeaa.P Go.Proofs.YthmddbffhbfmeaaW.PrintWords Go.Proofs.YthmddbffhbfmeaaW.PrintLast Go.Proofs.YthmddbffhbfmeaaW.PrintMore Go.Proofs.Ythmddbffhbfmeaa.Ramp Go.Proofs.Ythmddbffhbfmeaa.Motion Go.Proofs.Ythmddbffhbfmeaa.Search
/-! ### Shifted -/
theorem trace_shift (s : Int) (l : List Int) : ∀ m : Mo, trace (shift s m) l = (trace m l).map (shift s) := by
  induction l with
  | nil => intro m; rfl
  | cons j l ih => intro m; rw [trace, tick_shift, ih]; rfl
theorem stop_shift (A J s cat : Int) (m : Mo) : stopL A J (shift s m) cat = (stopL A J m cat).map (shift s) := by
  unfold stopL
  by_cases c : m.v = 0 ∧ m.a = 0
  · rw [if_pos c, if_pos (show (shift s m).v = 0 ∧ (shift s m).a = 0 from c)]; rfl
  · rw [if_neg c, if_neg (show ¬ ((shift s m).v = 0 ∧ (shift s m).a = 0) from c)]
    by_cases c1 : cat = 1 ∨ cat = 2
    · rw [if_pos c1, if_pos c1]
      exact trace_shift s _ m
    · rw [if_neg c1, if_neg c1]
      by_cases c0 : cat = 0
      · rw [if_pos c0, if_pos c0]
        unfold brk
        show (if less28 m.v = 0 then _ else _) = _
        by_cases c2 : less28 m.v = 0
        · rw [if_pos c2, if_pos c2]; rfl
        · rw [if_neg c2, if_neg c2]
          simp only [List.map_cons, List.map_nil, shift, List.cons.injEq, Mo.mk.injEq, and_true]
          exact ⟨by omega, by omega⟩
      · rw [if_neg c0, if_neg c0]; rfl
/-! ### Mirrored -/
def neg28 (m : Mo) : Mo := ⟨-m.p, -m.v, -m.a⟩
theorem vpath_neg {A J : Int} {l : List Int} : ∀ {s s' : Va}, VPath A J s l s' → VPath A J (-s.1, -s.2) (l.map (- ·)) (-s'.1, -s'.2) := by
  induction l with
  | nil => intro s s' h; cases h; rfl
  | cons j l ih =>
    intro s s' h
    have e : tk (-s.1, -s.2) (-j) = (-(tk s j).1, -(tk s j).2) := by
      simp only [tk, Prod.mk.injEq]
      exact ⟨by omega, by omega⟩
    have h3 := h.2.2.1
    unfold okA at h3
    have g0 := h.1
    have g1 := h.2.1
    refine ⟨show -J ≤ -j by omega, show -j ≤ J by omega, ?_, ?_⟩
    · show okA A (tk (-s.1, -s.2) (-j))
      rw [e]
      unfold okA
      dsimp only
      omega
    · show VPath A J (tk (-s.1, -s.2) (-j)) _ _
      rw [e]
      exact ih h.2.2.2
theorem best_neg_len {A J : Int} (hL : okL A J) {v a : Int} (hv : -8 ≤ v ∧ v ≤ 8) (ha : -A ≤ a ∧ a ≤ A) : (bestJ A J (-v, -a)).length = (bestJ A J (v, a)).length := by
  obtain ⟨s1, _, _⟩ := bestJ_spec hL hv ha
  obtain ⟨t1, _, _⟩ := bestJ_spec hL (v := -v) (a := -a) ⟨by omega, by omega⟩ ⟨by omega, by omega⟩
  have h1 := (t1.2 _ (vpath_neg s1.1)).1
  have h2 := vpath_neg t1.1
  have e : ((-(-v), -(-a)) : Va) = (v, a) := by rw [Int.neg_neg, Int.neg_neg]
  have h3 : VPath A J (v, a) ((bestJ A J (-v, -a)).map (- ·)) (0, 0) := by
    have : VPath A J (-(-v), -(-a)) ((bestJ A J (-v, -a)).map (- ·)) (-0, -0) := h2
    rw [e] at this
    exact this
  have h4 := (s1.2 _ h3).1
  simp only [List.length_map] at h1 h4
  omega
theorem less28_neg (v : Int) : less28 (-v) = -less28 v := by
  unfold less28
  split <;> split <;> (try split) <;> (try split) <;> omega
theorem stop_neg_len {A J : Int} {m : Mo} (h : okM A J m) (cat : Int) : (stopL A J (neg28 m) cat).length = (stopL A J m cat).length := by
  obtain ⟨hL, h1, h2, h3, h4, h5, h6⟩ := id h
  unfold stopL
  have ec : ((neg28 m).v = 0 ∧ (neg28 m).a = 0) ↔ (m.v = 0 ∧ m.a = 0) := by
    show (-m.v = 0 ∧ -m.a = 0) ↔ _
    omega
  by_cases c : m.v = 0 ∧ m.a = 0
  · rw [if_pos c, if_pos (ec.2 c)]
  · rw [if_neg c, if_neg (fun e => c (ec.1 e))]
    by_cases c1 : cat = 1 ∨ cat = 2
    · rw [if_pos c1, if_pos c1, trace28_length, trace28_length]
      exact best_neg_len hL ⟨h1, h2⟩ ⟨h3, h4⟩
    · rw [if_neg c1, if_neg c1]
      by_cases c0 : cat = 0
      · rw [if_pos c0, if_pos c0]
        unfold brk
        have e : less28 (neg28 m).v = -less28 m.v := less28_neg m.v
        rw [e]
        by_cases c2 : less28 m.v = 0
        · rw [if_pos c2, if_pos (by omega)]; rfl
        · rw [if_neg c2, if_neg (by omega)]; rfl
      · rw [if_neg c0, if_neg c0]
/-! ### The distance -/
def far28 (p : Int) (x : Mo) : Int := mx (x.p - p) (p - x.p)
def way28 (p : Int) (T : List Mo) : Int := T.foldl (fun f x => mx f (far28 p x)) 0
theorem mx_cases (a b : Int) : a ≤ mx a b ∧ b ≤ mx a b ∧ (mx a b = a ∨ mx a b = b) := by
  unfold mx
  split <;> omega
theorem way_ge (p : Int) (T : List Mo) : ∀ f : Int, f ≤ T.foldl (fun f x => mx f (far28 p x)) f ∧ (∀ x ∈ T, far28 p x ≤ T.foldl (fun f x => mx f (far28 p x)) f) ∧ (T.foldl (fun f x => mx f (far28 p x)) f = f ∨ ∃ x ∈ T, far28 p x = T.foldl (fun f x => mx f (far28 p x)) f) := by
  induction T with
  | nil => intro f; exact ⟨Int.le_refl _, fun x hx => by simp at hx, .inl rfl⟩
  | cons y T ih =>
    intro f
    obtain ⟨h1, h2, h3⟩ := ih (mx f (far28 p y))
    obtain ⟨g1, g2, g3⟩ := mx_cases f (far28 p y)
    rw [List.foldl_cons]
    refine ⟨by omega, fun x hx => ?_, ?_⟩
    · rcases List.mem_cons.1 hx with rfl | hx
      · omega
      · exact h2 x hx
    · rcases h3 with h3 | ⟨x, hx, h3⟩
      · rw [h3]
        rcases g3 with g3 | g3
        · exact .inl g3
        · exact .inr ⟨y, List.mem_cons_self, g3.symm⟩
      · exact .inr ⟨x, List.mem_cons_of_mem _ hx, h3⟩
/-- All positions of a stop lie near. -/
def Near28 (T : List Mo) : Prop := ∀ x ∈ T, -9000000000000 ≤ x.p ∧ x.p ≤ 9000000000000
theorem mx3 (a b c : Int) : mx (mx a b) c = mx a (mx b c) := by
  unfold mx
  split <;> split <;> (try split) <;> (try split) <;> omega
theorem dist_l0 {T : List Mo} (hT : Near28 T) (hl : T.length ≤ 1000) {p v a : Int} (hp : -9000000000000 ≤ p ∧ p ≤ 9000000000000) : ∀ (n i : Nat) (f : Int), i + n = T.length →
    braking_Distance.l0 (n + 1) f (T.map st28) (T.length : Int) (i : Int) p v a = some ((T.drop i).foldl (fun f x => mx f (far28 p x)) f)
  | 0, i, f, h => by
    rw [List.drop_of_length_le (by omega), braking_Distance.l0, if_neg (by omega)]
    rfl
  | n + 1, i, f, h => by
    have hi : i < T.length := by omega
    have hx := hT _ (List.getElem_mem hi)
    have c0 : (i : Int) < (T.length : Int) := by omega
    have c1 : (i : Int) < ((T.map st28).length : Int) := by rw [List.length_map]; omega
    have hw := wi28 (n := T.length) (by omega) hi
    have e1 : wrap64 (T[i].p - p) = T[i].p - p := by clear hw; exact r64 (by omega) (by omega)
    have e2 : wrap64 (p - T[i].p) = p - T[i].p := by clear hw e1; exact r64 (by omega) (by omega)
    rw [List.drop_eq_getElem_cons hi, List.foldl_cons, braking_Distance.l0, if_pos c0, if_pos (Int.natCast_nonneg i), if_pos c1, st28_at hi, hw]
    dsimp only [st28]
    rw [e1, e2, mx3]
    clear hw e1 e2
    exact dist_l0 hT hl hp n (i + 1) _ (by omega)
theorem run_near (l : List Int) : ∀ (m : Mo), small l → l.length ≤ 100 → -(1000 - 2 * (l.length : Int)) ≤ m.a → m.a ≤ 1000 - 2 * (l.length : Int) → -(1000000 - 1000 * (l.length : Int)) ≤ m.v → m.v ≤ 1000000 - 1000 * (l.length : Int) →
    ∀ x ∈ trace m l, m.p - 1000000 * (l.length : Int) ≤ x.p ∧ x.p ≤ m.p + 1000000 * (l.length : Int) := by
  induction l with
  | nil => intro m _ _ _ _ _ _ x hx; simp [trace] at hx
  | cons j l ih =>
    intro m hs hl h1 h2 h3 h4 x hx
    have hj := hs j List.mem_cons_self
    simp only [List.length_cons, Int.natCast_add, Int.natCast_one] at h1 h2 h3 h4 hl ⊢
    have hl0 : (0 : Int) ≤ (l.length : Int) := Int.natCast_nonneg _
    rcases List.mem_cons.1 hx with rfl | hx
    · simp only [tick]
      omega
    · have := ih (tick m j) (fun x hx => hs x (List.mem_cons_of_mem _ hx)) (by omega) (by simp only [tick]; omega) (by simp only [tick]; omega) (by simp only [tick]; omega) (by simp only [tick]; omega) x hx
      simp only [tick] at this
      omega
theorem stop_near {A J : Int} {m : Mo} (h : okM A J m) (cat : Int) : (∀ x ∈ stopL A J m cat, m.p - 100000000 ≤ x.p ∧ x.p ≤ m.p + 100000000) ∧ Near28 (stopL A J m cat) ∧ (stopL A J m cat).length ≤ 12 := by
  obtain ⟨hL, h1, h2, h3, h4, h5, h6⟩ := id h
  obtain ⟨l1, l2, l3, l4⟩ := id hL
  have key : (∀ x ∈ stopL A J m cat, m.p - 100000000 ≤ x.p ∧ x.p ≤ m.p + 100000000) ∧ (stopL A J m cat).length ≤ 12 := by
    unfold stopL
    by_cases c : m.v = 0 ∧ m.a = 0
    · rw [if_pos c]; exact ⟨fun x hx => by simp at hx, by simp⟩
    · rw [if_neg c]
      by_cases c1 : cat = 1 ∨ cat = 2
      · rw [if_pos c1]
        obtain ⟨s1, s2, s3⟩ := bestJ_spec hL (v := m.v) (a := m.a) ⟨h1, h2⟩ ⟨h3, h4⟩
        refine ⟨fun x hx => ?_, by rw [trace28_length]; exact s2⟩
        have := run_near _ m (s1.1.small l4) (by omega) (by omega) (by omega) (by omega) (by omega) x hx
        omega
      · rw [if_neg c1]
        by_cases c0 : cat = 0
        · rw [if_pos c0]
          obtain ⟨g1, g2, _⟩ := less28_in ⟨h1, h2⟩
          unfold brk
          by_cases c2 : less28 m.v = 0
          · rw [if_pos c2]
            refine ⟨fun x hx => ?_, by simp⟩
            obtain rfl := List.mem_singleton.1 hx
            dsimp only
            omega
          · rw [if_neg c2]
            refine ⟨fun x hx => ?_, by simp⟩
            simp only [List.mem_cons, List.not_mem_nil, or_false] at hx
            rcases hx with rfl | rfl <;> dsimp only <;> omega
        · rw [if_neg c0]; exact ⟨fun x hx => by simp at hx, by simp⟩
  exact ⟨key.1, fun x hx => by have := key.1 x hx; omega, key.2⟩
theorem distance28 {A J : Int} {m : Mo} (h : okM A J m) (V cat : Int) {k : Nat} (hk : 20 ≤ k) : braking_Distance.f k V A J m.p m.v m.a cat = some (way28 m.p (stopL A J m cat)) := by
  obtain ⟨n1, n2, n3⟩ := stop_near h cat
  obtain ⟨hL, h1, h2, h3, h4, h5, h6⟩ := id h
  rw [braking_Distance.f, stop_ok h V cat (by omega), Option.bind_some, List.length_map]
  have := dist_l0 (v := m.v) (a := m.a) n2 (by omega) (p := m.p) ⟨by omega, by omega⟩ (stopL A J m cat).length 0 0 (Nat.zero_add _)
  exact at_rounds (fun k' => braking_Distance.mono_l k' _ _ _ _ _ _ _) (by omega) this
end Go.Proofs.Ythmddbffhbfmeaa.Pure
