/- The head of the tops of 23: its examples hold. The segments of a timetable: in order, apart, with the jerks of a best path; where all joints are at the ends of segments. -/
import Derived.Test.YtmmaodlngnjmlaaXTime23
import Derived.Test.YtmmaodlngnjmlaaP21
import Derived.KernelRfl
namespace Go.Proofs.Ytmmaodlngnjmlaa.Pure
set_option linter.unusedSimpArgs false
set_option linter.unusedVariables false
open Go Go.RowKit Go.Proofs.Ytmmaodlngnjmlaa.P Go.Proofs.YtmmaodlngnjmlaaW.PrintWords Go.Proofs.YtmmaodlngnjmlaaW.PrintLast Go.Proofs.YtmmaodlngnjmlaaW.PrintMore Go.Proofs.Ytmmaodlngnjmlaa.Motion
def L8 : Lm := ⟨8, 4, 2⟩
theorem ok8 : ok L8 := by unfold ok L8; decide
theorem path12 : Path L8 12 zero [2, 0, -2, -2, 0, 2] (goal 12) := by
  simp [Path, may, tick, zero, goal, L8]
theorem path24 : Path L8 24 zero [1, 2, -1, -2, -1, -2, 1, 2] (goal 24) := by
  simp [Path, may, tick, zero, goal, L8]
theorem len12 {l : List Int} (h : Best L8 12 l) : 0 < l.length ∧ l.length ≤ 6 := by
  constructor
  · cases l with
    | nil =>
      have e : zero = goal 12 := h.1
      exact absurd (congrArg Mo.p e) (by decide)
    | cons a l => simp
  · exact (h.2 _ path12).1
theorem len24 {l : List Int} (h : Best L8 24 l) : 0 < l.length ∧ l.length ≤ 8 := by
  constructor
  · cases l with
    | nil =>
      have e : zero = goal 24 := h.1
      exact absurd (congrArg Mo.p e) (by decide)
    | cons a l => simp
  · exact (h.2 _ path24).1
theorem gone_endT {L : Lm} (hL : ok L) {d : Int} (d0 : 0 ≤ d) (d1 : d ≤ 420) {l : List Int} (hB : Best L d l) (s : Sg) (hs : s.f2 = l) {T : Int} (h1 : 0 ≤ s.f1) (h2 : s.f1 ≤ 1000000) (h3 : s.f1 + (l.length : Int) ≤ T) (h4 : T ≤ 1000000) (hd : 0 < d) : Gone.gP T s = d := by
  have hz := may_zero hL d0
  have hn : 0 < l.length := by
    cases l with
    | nil =>
      have e : zero = goal d := hB.1
      have e2 : (0 : Int) = d := congrArg Mo.p e
      omega
    | cons a l => simp
  have hg : Gone.gN T s = l.length := by
    unfold Gone.gN mn
    rw [hs, if_pos (by omega), k64 (by omega) (by omega)]
    split <;> omega
  unfold Gone.gP
  rw [hg, hs, List.take_of_length_le (Nat.le_refl _)]
  have h3 := tr_path hL d1 hz hB.1
  have h4 : Ticks.tr 0 0 0 l = pz zero l := h3
  rw [h4]
  have h5 : Ticks.lastOf 0 0 0 (pz zero l) = ((run zero l).p, (run zero l).v, (run zero l).a) := pz_last l zero
  rw [h5, hB.1.run]
  rfl
theorem headTop23 : ∃ k, ambidextertop_head23.f k = some true := by
  obtain ⟨K, hK⟩ := pr_all ok8
  obtain ⟨f1, b1, _⟩ := hK 1 (by decide) (by decide)
  obtain ⟨f2, b2, _⟩ := hK 2 (by decide) (by decide)
  have b1' : Best L8 12 (pr L8 1) := b1
  have b2' : Best L8 24 (pr L8 2) := b2
  have l1 := len12 b1'
  have l2 := len24 b2'
  have g2 : ∀ r : Rn, Gone.gP ((pr L8 2).length : Int) (⟨r, 0, pr L8 2⟩ : Sg) = 24 := fun r => by
    refine gone_endT ok8 (by decide) (by decide) b2' _ rfl (Int.le_refl _) (by show (0 : Int) ≤ 1000000; decide) (by show (0 : Int) + _ ≤ _; omega) (by omega) (by decide)
  have g1 : ∀ r : Rn, Gone.gP ((pr L8 2).length : Int) (⟨r, ((pr L8 2).length : Int), pr L8 1⟩ : Sg) = 0 := fun r => by
    have hg : Gone.gN ((pr L8 2).length : Int) (⟨r, ((pr L8 2).length : Int), pr L8 1⟩ : Sg) = 0 := by
      unfold Gone.gN
      rw [if_neg (by show ¬ ((pr L8 2).length : Int) < ((pr L8 2).length : Int); omega)]
    unfold Gone.gP
    rw [hg]
    rfl
  generalize hP1 : pr L8 1 = P1 at *
  generalize hP2 : pr L8 2 = P2 at *
  refine ⟨K + 100, ?_⟩
  have t2 : tab L8 0 [(⟨⟨1, 2, (-1)⟩, 2⟩ : Rn), (⟨⟨0, 0, 1⟩, 1⟩ : Rn)] = some [(⟨⟨⟨1, 2, (-1)⟩, 2⟩, 0, P2⟩ : Sg), (⟨⟨⟨0, 0, 1⟩, 1⟩, (P2.length : Int), P1⟩ : Sg)] := by
    simp only [tab, hP1, hP2, Int.zero_add]
    rw [if_pos ⟨by decide, by omega⟩, if_pos ⟨by decide, by omega⟩]
    rfl
  have e2 : timetable_Sequential.f (K + 100) 8 4 2 [(⟨1, 2, (-1)⟩ : Mv), (⟨1, 2, (-1)⟩ : Mv), (⟨0, 0, 1⟩ : Mv)] = some ([(⟨⟨⟨1, 2, (-1)⟩, 2⟩, 0, P2⟩ : Sg), (⟨⟨⟨0, 0, 1⟩, 1⟩, (P2.length : Int), P1⟩ : Sg)], 0) := by
    have h := seq_ok ok8 hK (l := [(⟨1, 2, (-1)⟩ : Mv), (⟨1, 2, (-1)⟩ : Mv), (⟨0, 0, 1⟩ : Mv)]) (by decide) (k := K + 100) (by simp <;> omega)
    have hr : runsL [(⟨1, 2, (-1)⟩ : Mv), (⟨1, 2, (-1)⟩ : Mv), (⟨0, 0, 1⟩ : Mv)] = [(⟨⟨1, 2, (-1)⟩, 2⟩ : Rn), (⟨⟨0, 0, 1⟩, 1⟩ : Rn)] := rfl
    rw [if_pos (by decide), hr, t2] at h
    exact h
  have e3 : mintime_Duration.f (K + 100) 8 4 2 24 = some ((P2.length : Int), true) := duration (L := L8) (f2 _ (by omega))
  have e3' : mintime_Duration.f (K + 100) 8 4 2 12 = some ((P1.length : Int), true) := duration (L := L8) (f1 _ (by omega))
  have e9 : timetable_PositionsAt.f 1 0 0 0 0 3 [(⟨⟨⟨1, 2, (-1)⟩, 2⟩, 0, P2⟩ : Sg), (⟨⟨⟨0, 0, 1⟩, 1⟩, (P2.length : Int), P1⟩ : Sg)] (P2.length : Int) = some (12, 0, 0, 0, 0, 12) := by
    have hok : timetable_PositionsAt.ok [(⟨⟨⟨1, 2, (-1)⟩, 2⟩, 0, P2⟩ : Sg), (⟨⟨⟨0, 0, 1⟩, 1⟩, (P2.length : Int), P1⟩ : Sg)] (P2.length : Int) = true := by
      have w2 : wrap64 (P2.length : Int) = (P2.length : Int) := k64 (by omega) (by omega)
      simp [timetable_PositionsAt.ok, Gone.goodB, w2]
      omega
    have ho : timetable_PositionsAt.o 1 0 0 0 0 3 [(⟨⟨⟨1, 2, (-1)⟩, 2⟩, 0, P2⟩ : Sg), (⟨⟨⟨0, 0, 1⟩, 1⟩, (P2.length : Int), P1⟩ : Sg)] (P2.length : Int) = Gone.add6 (Gone.add6 (fun k => wrap64 (timetable_PositionsAt.q 1 0 0 0 0 3 k * 12)) ((1, 2, -1), 24)) ((0, 0, 1), 0) := by
      unfold timetable_PositionsAt.o
      simp only [List.map_cons, List.map_nil, List.foldl_cons, List.foldl_nil, Gone.gOf]
      rw [g2, g1]
    unfold timetable_PositionsAt.f
    have hv : (Gone.add6 (Gone.add6 (fun k => wrap64 (timetable_PositionsAt.q 1 0 0 0 0 3 k * 12)) ((1, 2, -1), 24)) ((0, 0, 1), 0) 0, Gone.add6 (Gone.add6 (fun k => wrap64 (timetable_PositionsAt.q 1 0 0 0 0 3 k * 12)) ((1, 2, -1), 24)) ((0, 0, 1), 0) 1, Gone.add6 (Gone.add6 (fun k => wrap64 (timetable_PositionsAt.q 1 0 0 0 0 3 k * 12)) ((1, 2, -1), 24)) ((0, 0, 1), 0) 2, Gone.add6 (Gone.add6 (fun k => wrap64 (timetable_PositionsAt.q 1 0 0 0 0 3 k * 12)) ((1, 2, -1), 24)) ((0, 0, 1), 0) 3, Gone.add6 (Gone.add6 (fun k => wrap64 (timetable_PositionsAt.q 1 0 0 0 0 3 k * 12)) ((1, 2, -1), 24)) ((0, 0, 1), 0) 4, Gone.add6 (Gone.add6 (fun k => wrap64 (timetable_PositionsAt.q 1 0 0 0 0 3 k * 12)) ((1, 2, -1), 24)) ((0, 0, 1), 0) 5) = ((12, 0, 0, 0, 0, 12) : Int × Int × Int × Int × Int × Int) := by kernel_rfl
    rw [if_pos hok, ho, hv]
  have e11 : timetable_Duration.f (K + 100) [(⟨⟨⟨1, 2, (-1)⟩, 2⟩, 0, P2⟩ : Sg), (⟨⟨⟨0, 0, 1⟩, 1⟩, (P2.length : Int), P1⟩ : Sg)] = some ((P2.length : Int) + (P1.length : Int)) := by
    have h := dur_ok t2 (by decide) (k := K + 100) (by simp <;> omega)
    simpa only [endOf, hP1, hP2, Int.zero_add] using h
  have e12 : profile_ValidLimits.f 8 4 2 = some true := by kernel_rfl
  have e13 : wrap64 ((P2.length : Int) + (P1.length : Int)) = (P2.length : Int) + (P1.length : Int) := k64 (by omega) (by omega)
  unfold ambidextertop_head23.f
  rw [e2, Option.bind_some, e3, Option.bind_some, e3', Option.bind_some, if_pos (by first | rfl | decide | simp), e9, Option.bind_some, if_pos (by first | rfl | decide | simp), if_pos (by first | rfl | decide | simp), if_pos (by first | rfl | decide | simp), if_pos (by first | rfl | decide | simp), if_pos (by first | rfl | decide | simp), if_pos (by first | rfl | decide | simp), if_pos (by first | rfl | decide | simp), e11, Option.bind_some, if_pos e13.symm, if_pos (by first | rfl | decide | simp), if_pos (by first | rfl | decide | simp), e12, Option.bind_some]
noncomputable def KT23 : Nat := Classical.choose headTop23
theorem headT23 {k : Nat} (h : KT23 ≤ k) : ambidextertop_head23.f k = some true := at_rounds ambidextertop_head23.mono h (Classical.choose_spec headTop23)
end Go.Proofs.Ytmmaodlngnjmlaa.Pure
namespace Go.Proofs.Ytmmaodlngnjmlaa.Pure
set_option linter.unusedSimpArgs false
set_option linter.unusedVariables false
open Go Go.RowKit Go.Proofs.Ytmmaodlngnjmlaa.P Go.Proofs.YtmmaodlngnjmlaaW.PrintWords Go.Proofs.YtmmaodlngnjmlaaW.PrintLast Go.Proofs.YtmmaodlngnjmlaaW.PrintMore Go.Proofs.Ytmmaodlngnjmlaa.Motion
/-- A segment of a timetable. -/
structure SegOk (L : Lm) (R : List Rn) (a : Int) (s : Sg) : Prop where
  mem : s.f0 ∈ R
  n1 : 1 ≤ s.f0.f1
  n2 : s.f0.f1 ≤ 35
  js : s.f2 = pr L s.f0.f1
  lo : a ≤ s.f1
  hi : s.f1 + (s.f2.length : Int) ≤ 2000
theorem tab_all (L : Lm) (R : List Rn) : ∀ (a : Int) (t : List Sg), tab L a R = some t → (∀ r ∈ R, 1 ≤ r.f1) → (∀ s ∈ t, SegOk L R a s) ∧ t.Pairwise (fun x y => x.f1 + (x.f2.length : Int) ≤ y.f1) := by
  induction R with
  | nil =>
    intro a t h _
    simp only [tab, Option.some.injEq] at h
    subst h
    exact ⟨(fun s hs => by cases hs), List.Pairwise.nil⟩
  | cons r rs ih =>
    intro a t h hr
    rw [tab] at h
    by_cases c : r.f1 ≤ 35 ∧ a + ((pr L r.f1).length : Int) ≤ 2000
    · rw [if_pos c] at h
      cases h' : tab L (a + ((pr L r.f1).length : Int)) rs with
      | none => rw [h'] at h; cases h
      | some t' =>
        rw [h', Option.map_some] at h
        have e := Option.some.inj h
        subst e
        obtain ⟨i1, i2⟩ := ih _ _ h' (fun q hq => hr q (List.mem_cons_of_mem _ hq))
        refine ⟨fun s hs => ?_, List.pairwise_cons.2 ⟨fun y hy => (i1 y hy).lo, i2⟩⟩
        rcases List.mem_cons.1 hs with rfl | hs
        · exact ⟨List.mem_cons_self, hr r List.mem_cons_self, c.1, rfl, Int.le_refl _, c.2⟩
        · obtain ⟨a1, a2, a3, a4, a5, a6⟩ := i1 s hs
          exact ⟨List.mem_cons_of_mem _ a1, a2, a3, a4, by omega, a6⟩
    · rw [if_neg c] at h
      cases h
theorem push_mem (m : Mv) (y : List Rn) {r : Rn} (h : r ∈ pushR y m) : r.f0 = m ∨ ∃ q ∈ y, q.f0 = r.f0 := by
  cases y with
  | nil =>
    have h' : r ∈ [(⟨m, 1⟩ : Rn)] := h
    rw [List.mem_singleton] at h'
    subst h'
    exact Or.inl rfl
  | cons q y =>
    rw [pushR_cons] at h
    by_cases c : eqm q.f0 m = true
    · rw [if_pos c] at h
      rcases List.mem_cons.1 h with rfl | h
      · exact Or.inr ⟨q, List.mem_cons_self, rfl⟩
      · exact Or.inr ⟨r, List.mem_cons_of_mem _ h, rfl⟩
    · rw [if_neg c] at h
      rcases List.mem_cons.1 h with rfl | h
      · exact Or.inl rfl
      · exact Or.inr ⟨r, h, rfl⟩
theorem runs_mem (l : List Mv) : ∀ (y : List Rn) {r : Rn}, r ∈ l.foldl pushR y → r.f0 ∈ l ∨ ∃ q ∈ y, q.f0 = r.f0 := by
  induction l with
  | nil => exact fun y r h => Or.inr ⟨r, h, rfl⟩
  | cons m l ih =>
    intro y r h
    rcases ih (pushR y m) h with h | ⟨q, hq, e⟩
    · exact Or.inl (List.mem_cons_of_mem _ h)
    · rcases push_mem m y hq with h2 | ⟨q2, h2, e2⟩
      · exact Or.inl (by rw [← e, h2]; exact List.mem_cons_self)
      · exact Or.inr ⟨q2, h2, e2.trans e⟩
theorem runsL_mem {l : List Mv} {r : Rn} (h : r ∈ runsL l) : r.f0 ∈ l := by
  rcases runs_mem l [] (r := r) (by simpa [runsL] using h) with h | ⟨q, hq, _⟩
  · exact h
  · cases hq
theorem runsL_pos {l : List Mv} {r : Rn} (h : r ∈ runsL l) : 1 ≤ r.f1 := (runs_n l [] 0 (fun r hr => by cases hr) r (by simpa [runsL] using h)).1
/-- Where a segment is not being played, its joint has gone the whole way, or none. -/
theorem gone_ends {L : Lm} (hL : ok L) {R : List Rn} {a : Int} (a0 : 0 ≤ a) {s : Sg} (h : SegOk L R a s) (hB : Best L (12 * s.f0.f1) (pr L s.f0.f1)) {T : Int} (hT : T ≤ 1000000) (hc : s.f1 + (s.f2.length : Int) ≤ T ∨ T ≤ s.f1) :
    Gone.gP T s = if s.f1 + (s.f2.length : Int) ≤ T then 12 * s.f0.f1 else 0 := by
  obtain ⟨h1, h2, h3, h4, h5, h6⟩ := h
  have hn : 0 < s.f2.length := by
    rw [h4]
    cases e : pr L s.f0.f1 with
    | nil =>
      rw [e] at hB
      have e : zero = goal (12 * s.f0.f1) := hB.1
      have e2 : (0 : Int) = 12 * s.f0.f1 := congrArg Mo.p e
      omega
    | cons a l => simp
  by_cases c : s.f1 + (s.f2.length : Int) ≤ T
  · rw [if_pos c]
    exact gone_endT hL (by omega) (by omega) hB s h4 (by omega) (by omega) (by rw [← h4]; exact c) hT (by omega)
  · rw [if_neg c]
    have hg : Gone.gN T s = 0 := by
      unfold Gone.gN
      rw [if_neg (by omega)]
    unfold Gone.gP
    rw [hg]
    rfl
/-- Six multiples of twelve, not too great. -/
def D12 (n : Nat) (o : Nat → Int) : Prop := ∀ k, ∃ m : Int, o k = 12 * m ∧ -(35 * (n : Int)) ≤ m ∧ m ≤ 35 * (n : Int)
theorem d12_add {n : Nat} (hn : n ≤ 1000) {o : Nat → Int} (h : D12 n o) {x : (Int × Int × Int) × Int} (hx : x.1.2.2 = 1 ∨ x.1.2.2 = -1) (hm : ∃ m : Int, x.2 = 12 * m ∧ 0 ≤ m ∧ m ≤ 35) : D12 (n + 1) (Gone.add6 o x) := by
  intro k
  obtain ⟨m', e', g0, g1⟩ := hm
  unfold Gone.add6 Gone.upd
  by_cases c : k = Gone.at6 x
  · rw [if_pos c]
    obtain ⟨m, e, h0, h1⟩ := h (Gone.at6 x)
    rcases hx with hx | hx
    · refine ⟨m + m', ?_, by omega, by omega⟩
      rw [e, e', hx, k64 (x := 1 * (12 * m')) (by omega) (by omega), k64 (by omega) (by omega)]
      omega
    · refine ⟨m - m', ?_, by omega, by omega⟩
      rw [e, e', hx, k64 (x := -1 * (12 * m')) (by omega) (by omega), k64 (by omega) (by omega)]
      omega
  · rw [if_neg c]
    obtain ⟨m, e, h0, h1⟩ := h k
    exact ⟨m, e, by omega, by omega⟩
theorem d12_all : ∀ (l : List ((Int × Int × Int) × Int)) (n : Nat) (o : Nat → Int), n + l.length ≤ 1000 → D12 n o → (∀ x ∈ l, (x.1.2.2 = 1 ∨ x.1.2.2 = -1) ∧ ∃ m : Int, x.2 = 12 * m ∧ 0 ≤ m ∧ m ≤ 35) → D12 (n + l.length) (l.foldl Gone.add6 o)
  | [], n, o, _, h, _ => h
  | x :: l, n, o, hn, h, hx => by
    have hl : n + (l.length + 1) ≤ 1000 := hn
    have h1 := d12_all l (n + 1) (Gone.add6 o x) (by omega) (d12_add (by omega) h (hx x List.mem_cons_self).1 (hx x List.mem_cons_self).2) (fun y hy => hx y (List.mem_cons_of_mem _ hy))
    rw [List.foldl_cons, List.length_cons, show n + (l.length + 1) = n + 1 + l.length from by omega]
    exact h1
theorem d12_tmod {n : Nat} {o : Nat → Int} (h : D12 n o) (k : Nat) : Int.tmod (o k) 12 = 0 := by
  obtain ⟨m, e, _, _⟩ := h k
  rw [e]
  exact Int.mul_tmod_right 12 m
theorem may_iff {m : Mv} (h : mayB m = true) : (m.f0 = 0 ∨ m.f0 = 1) ∧ (0 ≤ m.f1 ∧ m.f1 ≤ 2) ∧ (m.f2 = 1 ∨ m.f2 = -1) := of_decide_eq_true h
/-- A timetable, with all that is known of it. -/
structure TabOk (L : Lm) (l : List Mv) (t : List Sg) : Prop where
  seg : ∀ s ∈ t, SegOk L (runsL l) 0 s
  apart : t.Pairwise (fun x y => x.f1 + (x.f2.length : Int) ≤ y.f1)
  may : ∀ s ∈ t, mayB s.f0.f0 = true
  len : t.length ≤ l.length
theorem tab_ok {L : Lm} {l : List Mv} {t : List Sg} (h : tab L 0 (runsL l) = some t) (hm : l.all mayB = true) : TabOk L l t := by
  obtain ⟨h1, h2⟩ := tab_all L (runsL l) 0 t h (fun r hr => runsL_pos hr)
  have hl := runs_length l []
  have hl2 : (runsL l).length ≤ l.length := by simpa [runsL] using hl
  exact ⟨h1, h2, fun s hs => List.all_eq_true.1 hm _ (runsL_mem (h1 s hs).mem), by rw [tab_len L _ _ _ h]; exact hl2⟩
theorem pos_ok {t : List Sg} {L : Lm} {l : List Mv} (h : TabOk L l t) (hl : l.length ≤ 1000) {T : Int} (T0 : 0 ≤ T) (T1 : T ≤ 1000000) : timetable_PositionsAt.ok t T = true := by
  unfold timetable_PositionsAt.ok
  rw [Bool.and_eq_true, List.all_eq_true]
  have hlen := h.len
  refine ⟨decide_eq_true (by omega), fun s hs => ?_⟩
  obtain ⟨h1, h2, h3, h4, h5, h6⟩ := h.seg s hs
  obtain ⟨m1, m2, m3⟩ := may_iff (h.may s hs)
  rw [Bool.and_eq_true]
  refine ⟨decide_eq_true ⟨fun hlt => ?_, by omega⟩, decide_eq_true ?_⟩
  · rw [k64 (by omega) (by omega)]
    omega
  · omega
/-- At a tick at which no segment is being played, every joint is at a whole step. -/
theorem pos_12 {t : List Sg} {L : Lm} (hL : ok L) {K : Nat} (hK : ∀ n : Int, 1 ≤ n → n ≤ 35 → Fuel L K n) {l : List Mv} (h : TabOk L l t) (hl : l.length ≤ 500) {T : Int} (T0 : 0 ≤ T) (T1 : T ≤ 1000000) (hc : ∀ s ∈ t, s.f1 + (s.f2.length : Int) ≤ T ∨ T ≤ s.f1) :
    ∃ o : Nat → Int, timetable_PositionsAt.f 0 0 0 0 0 0 t T = some (o 0, o 1, o 2, o 3, o 4, o 5) ∧ ∀ k, Int.tmod (o k) 12 = 0 := by
  refine ⟨timetable_PositionsAt.o 0 0 0 0 0 0 t T, ?_, fun k => ?_⟩
  · unfold timetable_PositionsAt.f
    rw [if_pos (pos_ok h (by omega) T0 T1)]
  · have hlen := h.len
    have h0 : D12 0 (fun k => wrap64 (timetable_PositionsAt.q 0 0 0 0 0 0 k * 12)) := by
      intro k
      refine ⟨0, ?_, by omega, by omega⟩
      have e : timetable_PositionsAt.q 0 0 0 0 0 0 k = 0 := by
        unfold timetable_PositionsAt.q
        (repeat' split) <;> rfl
      show wrap64 (timetable_PositionsAt.q 0 0 0 0 0 0 k * 12) = 12 * 0
      rw [e, k64 (by omega) (by omega)]
      rfl
    refine d12_tmod (d12_all (t.map (Gone.gOf T)) 0 _ (by rw [List.length_map]; omega) h0 (fun x hx => ?_)) k
    obtain ⟨s, hs, rfl⟩ := List.mem_map.1 hx
    have hg := h.seg s hs
    obtain ⟨m1, m2, m3⟩ := may_iff (h.may s hs)
    refine ⟨m3, ?_⟩
    show ∃ m : Int, Gone.gP T s = 12 * m ∧ 0 ≤ m ∧ m ≤ 35
    rw [gone_ends hL (Int.le_refl _) hg (hK _ hg.n1 hg.n2).2.1 T1 (hc s hs)]
    have e1 := hg.n1
    have e2 := hg.n2
    by_cases c : s.f1 + (s.f2.length : Int) ≤ T
    · exact ⟨s.f0.f1, by rw [if_pos c], by omega, by omega⟩
    · exact ⟨0, by rw [if_neg c]; rfl, by omega, by omega⟩
theorem at_start {L : Lm} {l : List Mv} {t : List Sg} (h : TabOk L l t) {i : Nat} (hi : i < t.length) : ∀ s ∈ t, s.f1 + (s.f2.length : Int) ≤ t[i].f1 ∨ t[i].f1 ≤ s.f1 := by
  intro s hs
  obtain ⟨j, hj, rfl⟩ := List.getElem_of_mem hs
  have hp := List.pairwise_iff_getElem.1 h.apart
  rcases Nat.lt_trichotomy i j with c | c | c
  · have := hp i j hi hj c
    exact Or.inr (by omega)
  · subst c
    exact Or.inr (Int.le_refl _)
  · exact Or.inl (hp j i hj hi c)
theorem at_end {L : Lm} {l : List Mv} {t : List Sg} (h : TabOk L l t) {i : Nat} (hi : i < t.length) : ∀ s ∈ t, s.f1 + (s.f2.length : Int) ≤ t[i].f1 + (t[i].f2.length : Int) ∨ t[i].f1 + (t[i].f2.length : Int) ≤ s.f1 := by
  intro s hs
  obtain ⟨j, hj, rfl⟩ := List.getElem_of_mem hs
  have hp := List.pairwise_iff_getElem.1 h.apart
  rcases Nat.lt_trichotomy i j with c | c | c
  · exact Or.inr (hp i j hi hj c)
  · subst c
    exact Or.inl (Int.le_refl _)
  · have := hp j i hj hi c
    exact Or.inl (by omega)
end Go.Proofs.Ytmmaodlngnjmlaa.Pure
