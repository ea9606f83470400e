/- The segments of a timetable: in order, apart, with the jerks of a best path; where all joints are at the ends of segments. Where the joints are at each tick of a timetable: a plain sum; one tick moves one joint, by at most the limit; at the end every joint is where the moves lead it. -/
import Derived.Test.YtmmaodlngnjmlaaXTime23
import Derived.Test.YtmmaodlngnjmlaaP5
namespace Go.Proofs.Ytmmaodlngnjmlaa.Pure
set_option linter.unusedSimpArgs false
set_option linter.unusedVariables false
open Go Go.RowKit Go.Proofs.Ytmmaodlngnjmlaa.P Go.Proofs.YtmmaodlngnjmlaaW.PrintWords Go.Proofs.YtmmaodlngnjmlaaW.PrintLast Go.Proofs.YtmmaodlngnjmlaaW.PrintMore Go.Proofs.Ytmmaodlngnjmlaa.Motion
theorem gone_endT {L : Lm} (hL : ok L) {d : Int} (d0 : 0 ≤ d) (d1 : d ≤ 420) {l : List Int} (hB : Best L d l) (s : Sg) (hs : s.f2 = l) {T : Int} (h1 : 0 ≤ s.f1) (h2 : s.f1 ≤ 1000000) (h3 : s.f1 + (l.length : Int) ≤ T) (h4 : T ≤ 1000000) (hd : 0 < d) : Gone.gP T s = d := by
  have hz := may_zero hL d0
  have hn : 0 < l.length := by
    cases l with
    | nil =>
      have e : zero = goal d := hB.1
      have e2 : (0 : Int) = d := congrArg Mo.p e
      omega
    | cons a l => simp
  have hg : Gone.gN T s = l.length := by
    unfold Gone.gN mn
    rw [hs, if_pos (by omega), k64 (by omega) (by omega)]
    split <;> omega
  unfold Gone.gP
  rw [hg, hs, List.take_of_length_le (Nat.le_refl _)]
  have h3 := tr_path hL d1 hz hB.1
  have h4 : Ticks.tr 0 0 0 l = pz zero l := h3
  rw [h4]
  have h5 : Ticks.lastOf 0 0 0 (pz zero l) = ((run zero l).p, (run zero l).v, (run zero l).a) := pz_last l zero
  rw [h5, hB.1.run]
  rfl
/-- A segment of a timetable. -/
structure SegOk (L : Lm) (R : List Rn) (a : Int) (s : Sg) : Prop where
  mem : s.f0 ∈ R
  n1 : 1 ≤ s.f0.f1
  n2 : s.f0.f1 ≤ 35
  js : s.f2 = pr L s.f0.f1
  lo : a ≤ s.f1
  hi : s.f1 + (s.f2.length : Int) ≤ 2000
theorem tab_all (L : Lm) (R : List Rn) : ∀ (a : Int) (t : List Sg), tab L a R = some t → (∀ r ∈ R, 1 ≤ r.f1) → (∀ s ∈ t, SegOk L R a s) ∧ t.Pairwise (fun x y => x.f1 + (x.f2.length : Int) ≤ y.f1) := by
  induction R with
  | nil =>
    intro a t h _
    simp only [tab, Option.some.injEq] at h
    subst h
    exact ⟨(fun s hs => by cases hs), List.Pairwise.nil⟩
  | cons r rs ih =>
    intro a t h hr
    rw [tab] at h
    by_cases c : r.f1 ≤ 35 ∧ a + ((pr L r.f1).length : Int) ≤ 2000
    · rw [if_pos c] at h
      cases h' : tab L (a + ((pr L r.f1).length : Int)) rs with
      | none => rw [h'] at h; cases h
      | some t' =>
        rw [h', Option.map_some] at h
        have e := Option.some.inj h
        subst e
        obtain ⟨i1, i2⟩ := ih _ _ h' (fun q hq => hr q (List.mem_cons_of_mem _ hq))
        refine ⟨fun s hs => ?_, List.pairwise_cons.2 ⟨fun y hy => (i1 y hy).lo, i2⟩⟩
        rcases List.mem_cons.1 hs with rfl | hs
        · exact ⟨List.mem_cons_self, hr r List.mem_cons_self, c.1, rfl, Int.le_refl _, c.2⟩
        · obtain ⟨a1, a2, a3, a4, a5, a6⟩ := i1 s hs
          exact ⟨List.mem_cons_of_mem _ a1, a2, a3, a4, by omega, a6⟩
    · rw [if_neg c] at h
      cases h
theorem push_mem (m : Mv) (y : List Rn) {r : Rn} (h : r ∈ pushR y m) : r.f0 = m ∨ ∃ q ∈ y, q.f0 = r.f0 := by
  cases y with
  | nil =>
    have h' : r ∈ [(⟨m, 1⟩ : Rn)] := h
    rw [List.mem_singleton] at h'
    subst h'
    exact Or.inl rfl
  | cons q y =>
    rw [pushR_cons] at h
    by_cases c : eqm q.f0 m = true
    · rw [if_pos c] at h
      rcases List.mem_cons.1 h with rfl | h
      · exact Or.inr ⟨q, List.mem_cons_self, rfl⟩
      · exact Or.inr ⟨r, List.mem_cons_of_mem _ h, rfl⟩
    · rw [if_neg c] at h
      rcases List.mem_cons.1 h with rfl | h
      · exact Or.inl rfl
      · exact Or.inr ⟨r, h, rfl⟩
theorem runs_mem (l : List Mv) : ∀ (y : List Rn) {r : Rn}, r ∈ l.foldl pushR y → r.f0 ∈ l ∨ ∃ q ∈ y, q.f0 = r.f0 := by
  induction l with
  | nil => exact fun y r h => Or.inr ⟨r, h, rfl⟩
  | cons m l ih =>
    intro y r h
    rcases ih (pushR y m) h with h | ⟨q, hq, e⟩
    · exact Or.inl (List.mem_cons_of_mem _ h)
    · rcases push_mem m y hq with h2 | ⟨q2, h2, e2⟩
      · exact Or.inl (by rw [← e, h2]; exact List.mem_cons_self)
      · exact Or.inr ⟨q2, h2, e2.trans e⟩
theorem runsL_mem {l : List Mv} {r : Rn} (h : r ∈ runsL l) : r.f0 ∈ l := by
  rcases runs_mem l [] (r := r) (by simpa [runsL] using h) with h | ⟨q, hq, _⟩
  · exact h
  · cases hq
theorem runsL_pos {l : List Mv} {r : Rn} (h : r ∈ runsL l) : 1 ≤ r.f1 := (runs_n l [] 0 (fun r hr => by cases hr) r (by simpa [runsL] using h)).1
/-- Where a segment is not being played, its joint has gone the whole way, or none. -/
theorem gone_ends {L : Lm} (hL : ok L) {R : List Rn} {a : Int} (a0 : 0 ≤ a) {s : Sg} (h : SegOk L R a s) (hB : Best L (12 * s.f0.f1) (pr L s.f0.f1)) {T : Int} (hT : T ≤ 1000000) (hc : s.f1 + (s.f2.length : Int) ≤ T ∨ T ≤ s.f1) :
    Gone.gP T s = if s.f1 + (s.f2.length : Int) ≤ T then 12 * s.f0.f1 else 0 := by
  obtain ⟨h1, h2, h3, h4, h5, h6⟩ := h
  have hn : 0 < s.f2.length := by
    rw [h4]
    cases e : pr L s.f0.f1 with
    | nil =>
      rw [e] at hB
      have e : zero = goal (12 * s.f0.f1) := hB.1
      have e2 : (0 : Int) = 12 * s.f0.f1 := congrArg Mo.p e
      omega
    | cons a l => simp
  by_cases c : s.f1 + (s.f2.length : Int) ≤ T
  · rw [if_pos c]
    exact gone_endT hL (by omega) (by omega) hB s h4 (by omega) (by omega) (by rw [← h4]; exact c) hT (by omega)
  · rw [if_neg c]
    have hg : Gone.gN T s = 0 := by
      unfold Gone.gN
      rw [if_neg (by omega)]
    unfold Gone.gP
    rw [hg]
    rfl
/-- Six multiples of twelve, not too great. -/
def D12 (n : Nat) (o : Nat → Int) : Prop := ∀ k, ∃ m : Int, o k = 12 * m ∧ -(35 * (n : Int)) ≤ m ∧ m ≤ 35 * (n : Int)
theorem d12_add {n : Nat} (hn : n ≤ 1000) {o : Nat → Int} (h : D12 n o) {x : (Int × Int × Int) × Int} (hx : x.1.2.2 = 1 ∨ x.1.2.2 = -1) (hm : ∃ m : Int, x.2 = 12 * m ∧ 0 ≤ m ∧ m ≤ 35) : D12 (n + 1) (Gone.add6 o x) := by
  intro k
  obtain ⟨m', e', g0, g1⟩ := hm
  unfold Gone.add6 Gone.upd
  by_cases c : k = Gone.at6 x
  · rw [if_pos c]
    obtain ⟨m, e, h0, h1⟩ := h (Gone.at6 x)
    rcases hx with hx | hx
    · refine ⟨m + m', ?_, by omega, by omega⟩
      rw [e, e', hx, k64 (x := 1 * (12 * m')) (by omega) (by omega), k64 (by omega) (by omega)]
      omega
    · refine ⟨m - m', ?_, by omega, by omega⟩
      rw [e, e', hx, k64 (x := -1 * (12 * m')) (by omega) (by omega), k64 (by omega) (by omega)]
      omega
  · rw [if_neg c]
    obtain ⟨m, e, h0, h1⟩ := h k
    exact ⟨m, e, by omega, by omega⟩
theorem d12_all : ∀ (l : List ((Int × Int × Int) × Int)) (n : Nat) (o : Nat → Int), n + l.length ≤ 1000 → D12 n o → (∀ x ∈ l, (x.1.2.2 = 1 ∨ x.1.2.2 = -1) ∧ ∃ m : Int, x.2 = 12 * m ∧ 0 ≤ m ∧ m ≤ 35) → D12 (n + l.length) (l.foldl Gone.add6 o)
  | [], n, o, _, h, _ => h
  | x :: l, n, o, hn, h, hx => by
    have hl : n + (l.length + 1) ≤ 1000 := hn
    have h1 := d12_all l (n + 1) (Gone.add6 o x) (by omega) (d12_add (by omega) h (hx x List.mem_cons_self).1 (hx x List.mem_cons_self).2) (fun y hy => hx y (List.mem_cons_of_mem _ hy))
    rw [List.foldl_cons, List.length_cons, show n + (l.length + 1) = n + 1 + l.length from by omega]
    exact h1
theorem d12_tmod {n : Nat} {o : Nat → Int} (h : D12 n o) (k : Nat) : Int.tmod (o k) 12 = 0 := by
  obtain ⟨m, e, _, _⟩ := h k
  rw [e]
  exact Int.mul_tmod_right 12 m
theorem may_iff {m : Mv} (h : mayB m = true) : (m.f0 = 0 ∨ m.f0 = 1) ∧ (0 ≤ m.f1 ∧ m.f1 ≤ 2) ∧ (m.f2 = 1 ∨ m.f2 = -1) := of_decide_eq_true h
/-- A timetable, with all that is known of it. -/
structure TabOk (L : Lm) (l : List Mv) (t : List Sg) : Prop where
  seg : ∀ s ∈ t, SegOk L (runsL l) 0 s
  apart : t.Pairwise (fun x y => x.f1 + (x.f2.length : Int) ≤ y.f1)
  may : ∀ s ∈ t, mayB s.f0.f0 = true
  len : t.length ≤ l.length
theorem tab_ok {L : Lm} {l : List Mv} {t : List Sg} (h : tab L 0 (runsL l) = some t) (hm : l.all mayB = true) : TabOk L l t := by
  obtain ⟨h1, h2⟩ := tab_all L (runsL l) 0 t h (fun r hr => runsL_pos hr)
  have hl := runs_length l []
  have hl2 : (runsL l).length ≤ l.length := by simpa [runsL] using hl
  exact ⟨h1, h2, fun s hs => List.all_eq_true.1 hm _ (runsL_mem (h1 s hs).mem), by rw [tab_len L _ _ _ h]; exact hl2⟩
theorem pos_ok {t : List Sg} {L : Lm} {l : List Mv} (h : TabOk L l t) (hl : l.length ≤ 1000) {T : Int} (T0 : 0 ≤ T) (T1 : T ≤ 1000000) : timetable_PositionsAt.ok t T = true := by
  unfold timetable_PositionsAt.ok
  rw [Bool.and_eq_true, List.all_eq_true]
  have hlen := h.len
  refine ⟨decide_eq_true (by omega), fun s hs => ?_⟩
  obtain ⟨h1, h2, h3, h4, h5, h6⟩ := h.seg s hs
  obtain ⟨m1, m2, m3⟩ := may_iff (h.may s hs)
  rw [Bool.and_eq_true]
  refine ⟨decide_eq_true ⟨fun hlt => ?_, by omega⟩, decide_eq_true ?_⟩
  · rw [k64 (by omega) (by omega)]
    omega
  · omega
/-- At a tick at which no segment is being played, every joint is at a whole step. -/
theorem pos_12 {t : List Sg} {L : Lm} (hL : ok L) {K : Nat} (hK : ∀ n : Int, 1 ≤ n → n ≤ 35 → Fuel L K n) {l : List Mv} (h : TabOk L l t) (hl : l.length ≤ 500) {T : Int} (T0 : 0 ≤ T) (T1 : T ≤ 1000000) (hc : ∀ s ∈ t, s.f1 + (s.f2.length : Int) ≤ T ∨ T ≤ s.f1) :
    ∃ o : Nat → Int, timetable_PositionsAt.f 0 0 0 0 0 0 t T = some (o 0, o 1, o 2, o 3, o 4, o 5) ∧ ∀ k, Int.tmod (o k) 12 = 0 := by
  refine ⟨timetable_PositionsAt.o 0 0 0 0 0 0 t T, ?_, fun k => ?_⟩
  · unfold timetable_PositionsAt.f
    rw [if_pos (pos_ok h (by omega) T0 T1)]
  · have hlen := h.len
    have h0 : D12 0 (fun k => wrap64 (timetable_PositionsAt.q 0 0 0 0 0 0 k * 12)) := by
      intro k
      refine ⟨0, ?_, by omega, by omega⟩
      have e : timetable_PositionsAt.q 0 0 0 0 0 0 k = 0 := by
        unfold timetable_PositionsAt.q
        (repeat' split) <;> rfl
      show wrap64 (timetable_PositionsAt.q 0 0 0 0 0 0 k * 12) = 12 * 0
      rw [e, k64 (by omega) (by omega)]
      rfl
    refine d12_tmod (d12_all (t.map (Gone.gOf T)) 0 _ (by rw [List.length_map]; omega) h0 (fun x hx => ?_)) k
    obtain ⟨s, hs, rfl⟩ := List.mem_map.1 hx
    have hg := h.seg s hs
    obtain ⟨m1, m2, m3⟩ := may_iff (h.may s hs)
    refine ⟨m3, ?_⟩
    show ∃ m : Int, Gone.gP T s = 12 * m ∧ 0 ≤ m ∧ m ≤ 35
    rw [gone_ends hL (Int.le_refl _) hg (hK _ hg.n1 hg.n2).2.1 T1 (hc s hs)]
    have e1 := hg.n1
    have e2 := hg.n2
    by_cases c : s.f1 + (s.f2.length : Int) ≤ T
    · exact ⟨s.f0.f1, by rw [if_pos c], by omega, by omega⟩
    · exact ⟨0, by rw [if_neg c]; rfl, by omega, by omega⟩
theorem at_start {L : Lm} {l : List Mv} {t : List Sg} (h : TabOk L l t) {i : Nat} (hi : i < t.length) : ∀ s ∈ t, s.f1 + (s.f2.length : Int) ≤ t[i].f1 ∨ t[i].f1 ≤ s.f1 := by
  intro s hs
  obtain ⟨j, hj, rfl⟩ := List.getElem_of_mem hs
  have hp := List.pairwise_iff_getElem.1 h.apart
  rcases Nat.lt_trichotomy i j with c | c | c
  · have := hp i j hi hj c
    exact Or.inr (by omega)
  · subst c
    exact Or.inr (Int.le_refl _)
  · exact Or.inl (hp j i hj hi c)
theorem at_end {L : Lm} {l : List Mv} {t : List Sg} (h : TabOk L l t) {i : Nat} (hi : i < t.length) : ∀ s ∈ t, s.f1 + (s.f2.length : Int) ≤ t[i].f1 + (t[i].f2.length : Int) ∨ t[i].f1 + (t[i].f2.length : Int) ≤ s.f1 := by
  intro s hs
  obtain ⟨j, hj, rfl⟩ := List.getElem_of_mem hs
  have hp := List.pairwise_iff_getElem.1 h.apart
  rcases Nat.lt_trichotomy i j with c | c | c
  · exact Or.inr (hp i j hi hj c)
  · subst c
    exact Or.inl (Int.le_refl _)
  · have := hp j i hj hi c
    exact Or.inl (by omega)
end Go.Proofs.Ytmmaodlngnjmlaa.Pure
namespace Go.Proofs.Ytmmaodlngnjmlaa.Pure
set_option linter.unusedSimpArgs false
set_option linter.unusedVariables false
open Go Go.RowKit Go.Proofs.Ytmmaodlngnjmlaa.P Go.Proofs.YtmmaodlngnjmlaaW.PrintWords Go.Proofs.YtmmaodlngnjmlaaW.PrintLast Go.Proofs.YtmmaodlngnjmlaaW.PrintMore Go.Proofs.Ytmmaodlngnjmlaa.Motion
theorem path_take {L : Lm} {d : Int} {l : List Int} : ∀ {m m' : Mo} (n : Nat), Path L d m l m' → Path L d m (l.take n) (run m (l.take n)) := by
  induction l with
  | nil => intro m m' n h; rw [List.take_nil]; rfl
  | cons j l ih =>
    intro m m' n h
    cases n with
    | zero => rfl
    | succ n => exact ⟨h.1, h.2.1, h.2.2.1, ih n h.2.2.2⟩
theorem path_may {L : Lm} {d : Int} {l : List Int} : ∀ {m m' : Mo}, may L d m → Path L d m l m' → may L d m' := by
  induction l with
  | nil =>
    intro m m' hm h
    have e : m = m' := h
    subst e
    exact hm
  | cons j l ih => exact fun hm h => ih h.2.2.1 h.2.2.2
/-- The position after n ticks. -/
def pg (l : List Int) (n : Nat) : Int := (run zero (l.take n)).p
theorem pg_step (l : List Int) (n : Nat) (h : n < l.length) : pg l (n + 1) - pg l n = (run zero (l.take (n + 1))).v := by
  unfold pg
  rw [List.take_add_one, List.getElem?_eq_getElem h, Option.toList_some, run_append]
  show (run zero (l.take n)).p + _ - _ = _
  show (run zero (l.take n)).p + ((run zero (l.take n)).v + ((run zero (l.take n)).a + l[n])) - (run zero (l.take n)).p = ((run zero (l.take n)).v + ((run zero (l.take n)).a + l[n]))
  omega
/-- A best path's list, with what is known of it. -/
structure Way (L : Lm) (N : Int) (l : List Int) : Prop where
  n1 : 1 ≤ N
  n2 : N ≤ 35
  best : Best L (12 * N) l
theorem Way.pos {L : Lm} (hL : ok L) {N : Int} {l : List Int} (h : Way L N l) (n : Nat) : may L (12 * N) (run zero (l.take n)) := path_may (may_zero hL (by have := h.n1; omega)) (path_take n h.best.1)
theorem gP_pg {L : Lm} (hL : ok L) {s : Sg} (h : Way L s.f0.f1 s.f2) (T : Int) : Gone.gP T s = pg s.f2 (Gone.gN T s) := by
  have n1 := h.n1
  have n2 := h.n2
  have hz := may_zero hL (d := 12 * s.f0.f1) (by omega)
  have h3 := tr_path hL (d := 12 * s.f0.f1) (by omega) hz (path_take (Gone.gN T s) h.best.1)
  have h4 : Ticks.tr 0 0 0 (s.f2.take (Gone.gN T s)) = pz zero (s.f2.take (Gone.gN T s)) := h3
  unfold Gone.gP pg
  rw [h4]
  have h5 : Ticks.lastOf 0 0 0 (pz zero (s.f2.take (Gone.gN T s))) = ((run zero (s.f2.take (Gone.gN T s))).p, (run zero (s.f2.take (Gone.gN T s))).v, (run zero (s.f2.take (Gone.gN T s))).a) := pz_last (s.f2.take (Gone.gN T s)) zero
  rw [h5]
theorem gP_bound {L : Lm} (hL : ok L) {s : Sg} (h : Way L s.f0.f1 s.f2) (T : Int) : 0 ≤ Gone.gP T s ∧ Gone.gP T s ≤ 420 := by
  have n2 := h.n2
  have hm := h.pos hL (Gone.gN T s)
  rw [gP_pg hL h T]
  unfold may at hm
  unfold pg
  omega
/-- Is it being played in the tick that ends at T? -/
def act (T : Int) (s : Sg) : Prop := s.f1 < T ∧ T ≤ s.f1 + (s.f2.length : Int)
theorem gN_at {T : Int} (h0 : 0 ≤ T) (h1 : T ≤ 1000000) {s : Sg} (s0 : 0 ≤ s.f1) (s1 : s.f1 ≤ 1000000) (hl : s.f2.length ≤ 1000000) : (Gone.gN T s : Int) = if s.f1 < T then (if T - s.f1 ≤ (s.f2.length : Int) then T - s.f1 else (s.f2.length : Int)) else 0 := by
  unfold Gone.gN mn
  by_cases c : s.f1 < T
  · rw [if_pos c, if_pos c, k64 (by omega) (by omega)]
    (repeat' split) <;> omega
  · rw [if_neg c, if_neg c]
    rfl
theorem gP_step {L : Lm} (hL : ok L) {s : Sg} (h : Way L s.f0.f1 s.f2) {T : Int} (h0 : 1 ≤ T) (h1 : T ≤ 1000000) (s0 : 0 ≤ s.f1) (s1 : s.f1 ≤ 1000000) (hl : s.f2.length ≤ 1000000) :
    ∃ v : Int, Gone.gP T s - Gone.gP (T - 1) s = v ∧ -L.v ≤ v ∧ v ≤ L.v ∧ (¬ act T s → v = 0) := by
  have a1 := gN_at (T := T) (by omega) h1 s0 s1 hl
  have a2 := gN_at (T := T - 1) (by omega) (by omega) s0 s1 hl
  have hb := hL
  unfold ok at hb
  rw [gP_pg hL h T, gP_pg hL h (T - 1)]
  by_cases c : act T s
  · have c' := c
    unfold act at c'
    rw [if_pos c'.1, if_pos (by omega)] at a1
    have e2 : (Gone.gN (T - 1) s : Int) = T - 1 - s.f1 := by
      rw [a2]
      (repeat' split) <;> omega
    have e : Gone.gN T s = Gone.gN (T - 1) s + 1 := by omega
    have hn : Gone.gN (T - 1) s < s.f2.length := by omega
    have hm := h.pos hL (Gone.gN (T - 1) s + 1)
    unfold may at hm
    refine ⟨_, rfl, ?_, ?_, fun hc => absurd c hc⟩
    · rw [e, pg_step _ _ hn]; omega
    · rw [e, pg_step _ _ hn]; omega
  · have e : Gone.gN T s = Gone.gN (T - 1) s := by
      unfold act at c
      have e3 : (Gone.gN T s : Int) = (Gone.gN (T - 1) s : Int) := by
        rw [a1, a2]
        (repeat' split) <;> omega
      omega
    rw [e]
    exact ⟨0, by omega, by omega, by omega, fun _ => rfl⟩
/-- A segment's joint among the six. -/
def cs (m : Mv) : Nat := m.f0.toNat * 3 + m.f1.toNat
def sumW (T : Int) (k : Nat) : List Sg → Int
  | [] => 0
  | s :: t => (if k = cs s.f0.f0 then s.f0.f0.f2 * Gone.gP T s else 0) + sumW T k t
structure SegW (L : Lm) (s : Sg) : Prop where
  way : Way L s.f0.f1 s.f2
  may : mayB s.f0.f0 = true
  lo : 0 ≤ s.f1
  hi : s.f1 + (s.f2.length : Int) ≤ 2000
theorem sum_bound {L : Lm} (hL : ok L) (T : Int) (k : Nat) : ∀ t : List Sg, (∀ s ∈ t, SegW L s) → -(420 * (t.length : Int)) ≤ sumW T k t ∧ sumW T k t ≤ 420 * (t.length : Int)
  | [], _ => by simp [sumW]
  | s :: t, h => by
    have ih := sum_bound hL T k t (fun x hx => h x (List.mem_cons_of_mem _ hx))
    have hs := h s List.mem_cons_self
    have hb := gP_bound hL hs.way T
    obtain ⟨_, _, m3⟩ := may_iff hs.may
    rw [sumW, List.length_cons]
    by_cases c : k = cs s.f0.f0
    · rw [if_pos c]
      rcases m3 with e | e <;> rw [e] <;> omega
    · rw [if_neg c]
      omega
theorem fold_sum {L : Lm} (hL : ok L) (T : Int) (k : Nat) (t : List Sg) : ∀ (o : Nat → Int), (∀ s ∈ t, SegW L s) → t.length ≤ 1000 → (-(1000000 - 420 * (t.length : Int)) ≤ o k ∧ o k ≤ 1000000 - 420 * (t.length : Int)) → ((t.map (Gone.gOf T)).foldl Gone.add6 o) k = o k + sumW T k t := by
  induction t with
  | nil => intro o _ _ _; simp [sumW]
  | cons s t ih =>
    intro o h hl hb
    have hs := h s List.mem_cons_self
    have hg := gP_bound hL hs.way T
    obtain ⟨_, _, m3⟩ := may_iff hs.may
    rw [List.length_cons] at hl hb
    have e : Gone.add6 o (Gone.gOf T s) k = o k + (if k = cs s.f0.f0 then s.f0.f0.f2 * Gone.gP T s else 0) := by
      unfold Gone.add6 Gone.upd
      show (if k = cs s.f0.f0 then wrap64 (o (cs s.f0.f0) + wrap64 (s.f0.f0.f2 * Gone.gP T s)) else o k) = _
      by_cases c : k = cs s.f0.f0
      · rw [if_pos c, if_pos c, ← c]
        rcases m3 with e | e <;> rw [e] <;> rw [k64 (x := _ * Gone.gP T s) (by omega) (by omega), k64 (by omega) (by omega)]
      · rw [if_neg c, if_neg c]
        omega
    have ih' := ih (Gone.add6 o (Gone.gOf T s)) (fun x hx => h x (List.mem_cons_of_mem _ hx)) (by omega) (by
      rw [e]
      by_cases c : k = cs s.f0.f0
      · rw [if_pos c]
        rcases m3 with e | e <;> rw [e] <;> omega
      · rw [if_neg c]
        omega)
    rw [List.map_cons, List.foldl_cons, ih', e, sumW]
    omega
theorem sum_same {L : Lm} (hL : ok L) {T : Int} (h0 : 1 ≤ T) (h1 : T ≤ 1000000) (k : Nat) : ∀ t : List Sg, (∀ s ∈ t, SegW L s) → (∀ s ∈ t, ¬ act T s) → sumW T k t = sumW (T - 1) k t
  | [], _, _ => rfl
  | s :: t, h, hn => by
    have hs := h s List.mem_cons_self
    have hh := hs.hi
    have hlo := hs.lo
    obtain ⟨v, e, _, _, hv⟩ := gP_step hL hs.way h0 h1 hlo (by omega) (by omega)
    have e2 := hv (hn s List.mem_cons_self)
    have e3 : Gone.gP T s = Gone.gP (T - 1) s := by omega
    rw [sumW, sumW, e3, sum_same hL h0 h1 k t (fun x hx => h x (List.mem_cons_of_mem _ hx)) (fun x hx => hn x (List.mem_cons_of_mem _ hx))]
theorem sum_step {L : Lm} (hL : ok L) {T : Int} (h0 : 1 ≤ T) (h1 : T ≤ 1000000) : ∀ t : List Sg, (∀ s ∈ t, SegW L s) → t.Pairwise (fun x y => x.f1 + (x.f2.length : Int) ≤ y.f1) →
    ∃ (c : Nat) (v : Int), -L.v ≤ v ∧ v ≤ L.v ∧ ∀ k, sumW T k t - sumW (T - 1) k t = if k = c then v else 0
  | [], _, _ => by
    have hb := hL
    unfold ok at hb
    exact ⟨0, 0, by omega, by omega, fun k => by simp [sumW]⟩
  | s :: t, h, hp => by
    have hs := h s List.mem_cons_self
    have hh := hs.hi
    have hlo := hs.lo
    have ht : ∀ x ∈ t, SegW L x := fun x hx => h x (List.mem_cons_of_mem _ hx)
    obtain ⟨hp1, hp2⟩ := List.pairwise_cons.1 hp
    obtain ⟨v, e, v0, v1, hv⟩ := gP_step hL hs.way h0 h1 hlo (by omega) (by omega)
    obtain ⟨_, _, m3⟩ := may_iff hs.may
    by_cases c : act T s
    · have hn : ∀ x ∈ t, ¬ act T x := fun x hx hc => by
        have := hp1 x hx
        unfold act at c hc
        omega
      refine ⟨cs s.f0.f0, s.f0.f0.f2 * v, ?_, ?_, fun k => ?_⟩
      · rcases m3 with e | e <;> rw [e] <;> omega
      · rcases m3 with e | e <;> rw [e] <;> omega
      · have hq := sum_same hL h0 h1 k t ht hn
        rw [sumW, sumW]
        by_cases ck : k = cs s.f0.f0
        · rw [if_pos ck, if_pos ck, if_pos ck]
          rcases m3 with e2 | e2 <;> rw [e2] <;> omega
        · rw [if_neg ck, if_neg ck, if_neg ck]
          omega
    · obtain ⟨c', v', w0, w1, hw⟩ := sum_step hL h0 h1 t ht hp2
      refine ⟨c', v', w0, w1, fun k => ?_⟩
      have e2 := hv c
      have e3 : Gone.gP T s = Gone.gP (T - 1) s := by omega
      have hq := hw k
      rw [sumW, sumW, e3]
      omega
/-- What moves add to a joint; what runs add. -/
def net (k : Nat) : List Mv → Int
  | [] => 0
  | m :: l => (if k = cs m then m.f2 else 0) + net k l
def netR (k : Nat) : List Rn → Int
  | [] => 0
  | r :: l => (if k = cs r.f0 then r.f0.f2 * r.f1 else 0) + netR k l
theorem netR_app (k : Nat) (a b : List Rn) : netR k (a ++ b) = netR k a + netR k b := by
  induction a with
  | nil => simp [netR]
  | cons r a ih => rw [List.cons_append, netR, netR, ih]; omega
theorem netR_rev (k : Nat) (a : List Rn) : netR k a.reverse = netR k a := by
  induction a with
  | nil => rfl
  | cons r a ih => rw [List.reverse_cons, netR_app, ih, netR, netR, netR]; omega
theorem netR_push (k : Nat) (y : List Rn) (m : Mv) : netR k (pushR y m) = netR k y + (if k = cs m then m.f2 else 0) := by
  cases y with
  | nil =>
    show netR k [(⟨m, 1⟩ : Rn)] = _
    rw [netR, netR, netR]
    show (if k = cs m then m.f2 * 1 else 0) + 0 = _
    rw [Int.mul_one]
    omega
  | cons r y =>
    rw [pushR_cons]
    by_cases c : eqm r.f0 m = true
    · have e := eqm_iff.1 c
      rw [if_pos c, netR, netR]
      show (if k = cs r.f0 then r.f0.f2 * (r.f1 + 1) else 0) + netR k y = _
      rw [← e]
      by_cases ck : k = cs r.f0
      · rw [if_pos ck, if_pos ck, if_pos ck, Int.mul_add, Int.mul_one]
        omega
      · rw [if_neg ck, if_neg ck, if_neg ck]
        omega
    · rw [if_neg c, netR]
      show (if k = cs m then m.f2 * 1 else 0) + netR k (r :: y) = _
      rw [Int.mul_one]
      omega
theorem netR_fold (k : Nat) (l : List Mv) : ∀ y : List Rn, netR k (l.foldl pushR y) = netR k y + net k l := by
  induction l with
  | nil => intro y; simp [net]
  | cons m l ih =>
    intro y
    rw [List.foldl_cons, ih, netR_push, net]
    omega
theorem netR_runs (k : Nat) (l : List Mv) : netR k (runsL l) = net k l := by
  unfold runsL
  rw [netR_rev, netR_fold, netR]
  omega
theorem tab_runs (L : Lm) (R : List Rn) : ∀ (a : Int) (t : List Sg), tab L a R = some t → t.map (fun s => s.f0) = R := by
  induction R with
  | nil =>
    intro a t h
    simp only [tab, Option.some.injEq] at h
    subst h
    rfl
  | cons r rs ih =>
    intro a t h
    rw [tab] at h
    by_cases c : r.f1 ≤ 35 ∧ a + ((pr L r.f1).length : Int) ≤ 2000
    · rw [if_pos c] at h
      cases h' : tab L (a + ((pr L r.f1).length : Int)) rs with
      | none => rw [h'] at h; cases h
      | some t' =>
        rw [h', Option.map_some] at h
        have e := Option.some.inj h
        subst e
        rw [List.map_cons, ih _ _ h']
    · rw [if_neg c] at h
      cases h
theorem sum_end {L : Lm} (hL : ok L) {T : Int} (h1 : T ≤ 1000000) (k : Nat) : ∀ t : List Sg, (∀ s ∈ t, SegW L s) → (∀ s ∈ t, s.f1 + (s.f2.length : Int) ≤ T) → sumW T k t = 12 * netR k (t.map (fun s => s.f0))
  | [], _, _ => rfl
  | s :: t, h, hn => by
    have hs := h s List.mem_cons_self
    have n1 := hs.way.n1
    have n2 := hs.way.n2
    have hlo := hs.lo
    have hh := hs.hi
    have e : Gone.gP T s = 12 * s.f0.f1 := gone_endT hL (by omega) (by omega) hs.way.best s rfl hlo (by omega) (hn s List.mem_cons_self) h1 (by omega)
    rw [sumW, e, sum_end hL h1 k t (fun x hx => h x (List.mem_cons_of_mem _ hx)) (fun x hx => hn x (List.mem_cons_of_mem _ hx)), List.map_cons, netR]
    by_cases c : k = cs s.f0.f0
    · rw [if_pos c, if_pos c, Int.mul_add, Int.mul_left_comm]
    · rw [if_neg c, if_neg c]
      omega
theorem tab_at (L : Lm) (R : List Rn) : ∀ (a : Int) (t : List Sg), tab L a R = some t → ∀ (i : Nat) (h : i < R.length) (h' : i < t.length), t[i] = (⟨R[i], endOf L a (R.take i), pr L R[i].f1⟩ : Sg) := by
  induction R with
  | nil => intro a t _ i h; exact absurd h (by simp)
  | cons r rs ih =>
    intro a t h i hi hi'
    rw [tab] at h
    by_cases c : r.f1 ≤ 35 ∧ a + ((pr L r.f1).length : Int) ≤ 2000
    · rw [if_pos c] at h
      cases h' : tab L (a + ((pr L r.f1).length : Int)) rs with
      | none => rw [h'] at h; cases h
      | some t' =>
        rw [h', Option.map_some] at h
        have e := Option.some.inj h
        subst e
        cases i with
        | zero => rfl
        | succ i =>
          have := ih _ _ h' i (by simpa using hi) (by simpa using hi')
          simpa [endOf] using this
    · rw [if_neg c] at h
      cases h
end Go.Proofs.Ytmmaodlngnjmlaa.Pure
