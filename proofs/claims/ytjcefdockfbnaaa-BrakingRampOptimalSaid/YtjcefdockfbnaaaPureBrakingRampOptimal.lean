/- No other way to rest is shorter, nor as short and ahead in order. -/
import Derived.Test.YtjcefdockfbnaaaXLaw28
import Derived.Test.YtjcefdockfbnaaaP3
import Derived.Test.YtjcefdockfbnaaaP4
namespace Go.Proofs.Ytjcefdockfbnaaa.Pure
set_option linter.unusedSimpArgs false
set_option linter.unusedVariables false
open Go Go.RowKit Go.Proofs.Ytjcefdockfbnaaa.P Go.Proofs.YtjcefdockfbnaaaW.PrintWords Go.Proofs.YtjcefdockfbnaaaW.PrintLast Go.Proofs.YtjcefdockfbnaaaW.PrintMore Go.Proofs.Ytjcefdockfbnaaa.Ramp Go.Proofs.Ytjcefdockfbnaaa.Motion Go.Proofs.Ytjcefdockfbnaaa.Search
theorem ro_rest28 (p v a : Int) : ambidexterref28_Rest.f p v a = some (decide (v = 0 ∧ a = 0)) := by
  unfold ambidexterref28_Rest.f
  by_cases c : v = 0
  · rw [if_pos c]
    congr 1
    rw [Bool.eq_iff_iff]
    simp [c]
  · rw [if_neg c, decide_eq_false (fun e => c e.1)]
theorem ro_same_l0 {T : List S37} (hl : T.length ≤ 1000000) : ∀ (n i : Nat), i + n = T.length → ambidexterref28_Same.l0 (n + 1) T T (i : Int) = some true
  | 0, i, h => by rw [ambidexterref28_Same.l0, if_neg (by omega)]
  | n + 1, i, h => by
    have c0 : (i : Int) < (T.length : Int) := by omega
    rw [ambidexterref28_Same.l0, if_pos c0, if_pos (Int.natCast_nonneg i), if_pos c0, if_neg (by simp), wi28 (n := T.length) (by omega) (by omega)]
    exact ro_same_l0 hl n (i + 1) (by omega)
theorem ro_same {T : List S37} (hl : T.length ≤ 1000000) {k : Nat} (hk : T.length + 1 ≤ k) : ambidexterref28_Same.f k T T = some true := by
  unfold ambidexterref28_Same.f
  rw [if_pos rfl]
  exact at_rounds (fun k' => ambidexterref28_Same.mono_l k' _ _ _) hk (ro_same_l0 hl T.length 0 (Nat.zero_add _))
theorem ro_jerks {A J : Int} (hA : A ≤ 4) (hJ : J ≤ 2) (h0 : 1 ≤ A) (hJ0 : 1 ≤ J) {l : List Int} : ∀ {m : Mo} {s' : Va}, VPath A J (m.v, m.a) l s' → -A ≤ m.a → m.a ≤ A → -(1000000 - 1000 * (l.length : Int)) ≤ m.v → m.v ≤ 1000000 - 1000 * (l.length : Int) →
    -(100000000000000 - 10000000 * (l.length : Int)) ≤ m.p → m.p ≤ 100000000000000 - 10000000 * (l.length : Int) → l.length ≤ 100 → jerksL A J m.p m.v m.a ((trace m l).map st28) = some l := by
  induction l with
  | nil => intro m _ _ _ _ _ _ _ _ _; rfl
  | cons j l ih =>
    intro m s' hp h1 h2 h3 h4 h5 h6 h7
    obtain ⟨j0, j1, ⟨o1, o2⟩, hr⟩ := hp
    have o1 : -A ≤ m.a + j := o1
    have o2 : m.a + j ≤ A := o2
    simp only [List.length_cons, Int.natCast_add, Int.natCast_one] at h3 h4 h5 h6 h7
    have e := ih (m := tick m j) hr (by simp only [tick]; omega) (by simp only [tick]; omega) (by simp only [tick]; omega) (by simp only [tick]; omega) (by simp only [tick]; omega) (by simp only [tick]; omega) (by omega)
    have e1 : wrap64 (m.a + j - m.a) = j := by rw [show m.a + j - m.a = j by omega]; exact r64 (by omega) (by omega)
    have e2 : wrap64 (m.a + j) = m.a + j := by clear e1; exact r64 (by omega) (by omega)
    have e3 : wrap64 (m.v + (m.a + j)) = m.v + (m.a + j) := by clear e1 e2; exact r64 (by omega) (by omega)
    have e4 : wrap64 (m.p + (m.v + (m.a + j))) = m.p + (m.v + (m.a + j)) := by clear e1 e2 e3; exact r64 (by omega) (by omega)
    have e5 : wrap64 (0 - J) = -J := by clear e1 e2 e3 e4; rw [r64 (by omega) (by omega)]; omega
    have e6 : wrap64 (0 - A) = -A := by clear e1 e2 e3 e4 e5; rw [r64 (by omega) (by omega)]; omega
    have hc : jkCond A J m.p m.v m.a (st28 (tick m j)) = true := by
      unfold jkCond
      rw [Bool.and_eq_true, Bool.and_eq_true, Bool.and_eq_true, Bool.and_eq_true]
      refine ⟨decide_eq_true ?_, decide_eq_true ?_, decide_eq_true ?_, decide_eq_true ?_, decide_eq_true ?_⟩
      · show ambidexterref28_Tick.f m.p m.v m.a (wrap64 (m.a + j - m.a)) = some (m.p + (m.v + (m.a + j)), m.v + (m.a + j), m.a + j)
        rw [e1]
        unfold ambidexterref28_Tick.f
        rw [e2, e3, e4]
      · show wrap64 (0 - J) ≤ wrap64 (m.a + j - m.a)
        rw [e1, e5]; exact j0
      · show wrap64 (m.a + j - m.a) ≤ J
        rw [e1]; exact j1
      · show wrap64 (0 - A) ≤ m.a + j
        rw [e6]; exact o1
      · exact o2
    show jerksL A J m.p m.v m.a (st28 (tick m j) :: (trace (tick m j) l).map st28) = some (j :: l)
    rw [jerksL, if_pos hc]
    rw [show jerksL A J (st28 (tick m j)).f0 (st28 (tick m j)).f1 (st28 (tick m j)).f2 ((trace (tick m j) l).map st28) = some l from e]
    show some (wrap64 (m.a + j - m.a) :: l) = _
    rw [e1]
theorem lex_snoc {a b : List Int} : ∀ {x y : Int}, a.length = b.length → lexLt a b → lexLt (a ++ [x]) (b ++ [y]) := by
  induction a generalizing b with
  | nil => intro x y e h; cases b <;> cases h
  | cons u a ih =>
    intro x y e h
    cases b with
    | nil => cases h
    | cons w b =>
      rcases h with h | ⟨h, h2⟩
      · exact .inl h
      · exact .inr ⟨h, ih (by simpa using e) h2⟩
theorem lex_last (a : List Int) {x y : Int} (h : x < y) : lexLt (a ++ [x]) (a ++ [y]) := by
  induction a with
  | nil => exact .inl h
  | cons u a ih => exact .inr ⟨rfl, ih⟩
section
variable {A J V : Int} {x2 l : List Int} {T : List S37}
theorem ro_late (hJ : J = 1 ∨ J = 2) (hl : T.length = l.length) (hx : x2.length ≤ 60) : ∀ (n i : Nat), i + n = x2.length → l.length ≤ i → ∀ (less more : Bool) (p v a : Int), ambidexterlaw28_BrakingRampOptimal.l0 (4 * n + 1) x2 true T l less more (i : Int) V A J p v a = some true
  | 0, i, h, h2, less, more, p, v, a => by rw [ambidexterlaw28_BrakingRampOptimal.l0, if_neg (by omega)]
  | n + 1, i, h, h2, less, more, p, v, a => by
    have hw := wi28 (n := x2.length) (by omega) (show i < x2.length by omega)
    have hj : ¬ wrap64 (J + 1) = 0 := by clear hw; rw [r64 (by omega) (by omega)]; omega
    have e1 : ¬ ((i + 1 : Nat) : Int) < (T.length : Int) := by omega
    have e2 : ¬ ((i + 1 : Nat) : Int) = (T.length : Int) := by omega
    have ih := ro_late hJ hl hx n (i + 1) (by omega) (by omega)
    rw [show 4 * (n + 1) + 1 = 4 * n + 1 + 1 + 1 + 1 + 1 by omega, ambidexterlaw28_BrakingRampOptimal.l0, if_pos (by omega), if_pos (Int.natCast_nonneg i), if_neg hj, if_neg (by omega), ambidexterlaw28_BrakingRampOptimal.j3, if_neg Bool.false_ne_true, ambidexterlaw28_BrakingRampOptimal.j4]
    unfold ambidexterref28_Tick.f
    rw [Option.bind_some]
    have hj5 : ∀ (z : Bool) (p v a : Int), ambidexterlaw28_BrakingRampOptimal.j5 (4 * n + 1 + 1) x2 true T l less more (i : Int) z V A J p v a = some true := by
      intro z p v a
      rw [ambidexterlaw28_BrakingRampOptimal.j5]
      cases z with
      | true => rfl
      | false =>
        rw [if_neg Bool.false_ne_true, ro_rest28, Option.bind_some, hw, if_neg e1, if_neg e2]
        split <;> exact ih less more p v a
    split <;> exact hj5 _ _ _ _
theorem ro_early (hL : okL A J) {s0 : Va} (hb : BestV A J s0 l) (h12 : l.length ≤ 12) (h0 : -8 ≤ s0.1 ∧ s0.1 ≤ 8) (ha0 : okA A s0) (hT : T.length = l.length) (hx : x2.length ≤ 60) : ∀ (n i : Nat), i + n = x2.length → i ≤ l.length → ∀ (less more : Bool) (os : List Int) (p v a : Int), os.length = i → VPath A J s0 os (v, a) →
    (less = true → lexLt os (l.take i)) → (less = false → more = false → os = l.take i) →
    ambidexterlaw28_BrakingRampOptimal.l0 (4 * n + 1) x2 true T l less more (i : Int) V A J p v a = some true
  | 0, i, h, h2, less, more, os, p, v, a, ho, hp, f1, f2 => by rw [ambidexterlaw28_BrakingRampOptimal.l0, if_neg (by omega)]
  | n + 1, i, h, h2, less, more, os, p, v, a, ho, hp, f1, f2 => by
    obtain ⟨l1, l2, l3, l4⟩ := id hL
    by_cases hi : i = l.length
    · exact ro_late (by omega) hT hx (n + 1) i h (by omega) less more p v a
    have hw := wi28 (n := x2.length) (by omega) (show i < x2.length by omega)
    have ej : wrap64 (J + 1) = J + 1 := by clear hw; exact r64 (by omega) (by omega)
    obtain ⟨b, hbe⟩ : ∃ b, Int.tmod (wrap64 (rd x2 (i : Int))) (J + 1) = b := ⟨_, rfl⟩
    have b0 : -(J + 1) < b := by rw [← hbe]; exact Int.lt_tmod_of_pos _ (by omega)
    have b1 : b < J + 1 := by rw [← hbe]; exact Int.tmod_lt_of_pos _ (by omega)
    have hil : i < l.length := by omega
    have hrd : rd l (i : Int) = l[i] := by
      unfold rd
      rw [Int.toNat_natCast, List.getD_eq_getElem?_getD, List.getElem?_eq_getElem hil]
      rfl
    have htk : l.take (i + 1) = l.take i ++ [l[i]] := List.take_succ_eq_append_getElem hil
    obtain ⟨q1, q2, q3⟩ := vpath_bound l2 hp ha0
    have q1 : -A ≤ a ∧ a ≤ A := q1
    have q2 : -(4 * (os.length : Int)) ≤ v - s0.1 := q2
    have q3 : v - s0.1 ≤ 4 * (os.length : Int) := q3
    have w1 : wrap64 (a + b) = a + b := by clear hw ej; exact r64 (by omega) (by omega)
    have w2 : wrap64 (v + (a + b)) = v + (a + b) := by clear hw ej w1; exact r64 (by omega) (by omega)
    have w3 : wrap64 (-A) = -A := by clear hw ej w1 w2; exact r64 (by omega) (by omega)
    have hj5 : ∀ (ls mr : Bool) (p : Int), (ls = true → lexLt (os ++ [b]) (l.take (i + 1))) → (ls = false → mr = false → os ++ [b] = l.take (i + 1)) →
        ambidexterlaw28_BrakingRampOptimal.j4 (4 * n + 1 + 1 + 1) x2 true T l ls mr (i : Int) b V A J p v a = some true := by
      intro ls mr p g1 g2
      rw [ambidexterlaw28_BrakingRampOptimal.j4]
      unfold ambidexterref28_Tick.f
      rw [Option.bind_some]
      dsimp only
      rw [w1, w2, w3]
      by_cases c1 : a + b < -A
      · rw [if_pos c1, ambidexterlaw28_BrakingRampOptimal.j5, if_pos rfl]
      rw [if_neg c1, ambidexterlaw28_BrakingRampOptimal.j5]
      by_cases c2 : a + b > A
      · rw [decide_eq_true c2, if_pos rfl]
      rw [decide_eq_false c2, if_neg Bool.false_ne_true, ro_rest28, Option.bind_some, hw]
      have hp2 : VPath A J s0 (os ++ [b]) (v + (a + b), a + b) := GPath.snoc (by omega) (by omega) hp ⟨by show -A ≤ a + b; omega, by show a + b ≤ A; omega⟩
      have hnext := ro_early hL hb h12 h0 ha0 hT hx n (i + 1) (by omega) (by omega) ls mr (os ++ [b]) (wrap64 (p + (v + (a + b)))) (v + (a + b)) (a + b) (by simp [ho]) hp2 g1 g2
      by_cases c3 : v + (a + b) = 0 ∧ a + b = 0
      · rw [decide_eq_true c3, if_pos rfl]
        rw [c3.1, c3.2] at hp2
        obtain ⟨k1, k2⟩ := hb.2 _ hp2
        simp only [List.length_append, List.length_cons, List.length_nil] at k1 k2
        rw [if_neg (by clear hw ej w1 w2 w3; omega)]
        by_cases c4 : ((i + 1 : Nat) : Int) = (T.length : Int)
        · rw [if_pos c4]
          have hne : ls = false := by
            cases ls with
            | false => rfl
            | true =>
              have g := g1 rfl
              rw [List.take_of_length_le (by clear hw ej w1 w2 w3; omega)] at g
              exact absurd g (k2 (by clear hw ej w1 w2 w3; omega))
          rw [hne, if_neg Bool.false_ne_true, ← hne]
          exact hnext
        · rw [if_neg c4]
          exact hnext
      · rw [decide_eq_false c3, if_neg Bool.false_ne_true]
        exact hnext
    rw [show 4 * (n + 1) + 1 = 4 * n + 1 + 1 + 1 + 1 + 1 by omega, ambidexterlaw28_BrakingRampOptimal.l0, if_pos (by omega), if_pos (Int.natCast_nonneg i), ej, if_neg (by omega), if_pos (by omega), hbe]
    cases less with
    | true =>
      rw [if_pos rfl, ambidexterlaw28_BrakingRampOptimal.j3, if_neg Bool.false_ne_true]
      refine hj5 true more p (fun _ => ?_) (fun e => by cases e)
      rw [htk]
      exact lex_snoc (by rw [List.length_take]; omega) (f1 rfl)
    | false =>
      rw [if_neg Bool.false_ne_true, ambidexterlaw28_BrakingRampOptimal.j3]
      cases more with
      | true =>
        rw [if_neg (by decide)]
        exact hj5 false true p (fun e => by cases e) (fun _ e => by cases e)
      | false =>
        have hos := f2 rfl rfl
        rw [if_pos (by decide), if_pos (Int.natCast_nonneg i), if_pos (by omega), hrd]
        refine hj5 _ _ p (fun e => ?_) (fun e e' => ?_)
        · rw [htk, ← hos]
          exact lex_last _ (of_decide_eq_true e)
        · have e1 := of_decide_eq_false e
          have e2 := of_decide_eq_false e'
          rw [htk, ← hos, show b = l[i] by omega]
end
theorem BrakingRampOptimal : ∀ (x0 : S23) (x1 : S37) (l2 : List Int), ok23 x0 → ok37 x1 → (l2.length ≤ maxLen ∧ ∀ y0_ ∈ l2, (Lit.int .i8 y0_).wf = true) → ∃ k, ambidexterlaw28_BrakingRampOptimal.f k x0.f0 x0.f1 x0.f2 x1.f0 x1.f1 x1.f2 l2 = some true := by
  intro x y l2 _ _ _
  obtain ⟨b, hb, hbt⟩ := may28 x.f0 x.f1 x.f2 y.f0 y.f1 y.f2
  refine ⟨2000, ?_⟩
  unfold ambidexterlaw28_BrakingRampOptimal.f
  rw [head28 (Nat.le_refl _), hb]
  simp only [Option.bind_some]
  cases b with
  | false => rw [if_neg Bool.false_ne_true, ambidexterlaw28_BrakingRampOptimal.j0, if_pos rfl]
  | true =>
    rw [if_pos rfl, ambidexterlaw28_BrakingRampOptimal.j0]
    by_cases c60 : (l2.length : Int) > 60
    · rw [decide_eq_true c60, if_pos rfl]
    rw [decide_eq_false c60, if_neg Bool.false_ne_true]
    obtain ⟨v0, v1, hM, p0, p1⟩ := hbt rfl
    obtain ⟨hL, h1, h2, h3, h4, h5, h6⟩ := id hM
    obtain ⟨m, hm⟩ : ∃ m : Mo, m = ⟨y.f0, y.f1, y.f2⟩ := ⟨_, rfl⟩
    have m0 : y.f0 = m.p := by rw [hm]
    have m1 : y.f1 = m.v := by rw [hm]
    have m2 : y.f2 = m.a := by rw [hm]
    rw [← hm] at hM h1 h2 h3 h4 h5 h6
    rw [m0, m1, m2]
    obtain ⟨l, t1, t2, hbv, h12⟩ : ∃ l, stopL x.f1 x.f2 m 1 = trace m l ∧ stopL x.f1 x.f2 m 2 = trace m l ∧ BestV x.f1 x.f2 (m.v, m.a) l ∧ l.length ≤ 12 := by
      by_cases hn : m.v = 0 ∧ m.a = 0
      · refine ⟨[], by unfold stopL; rw [if_pos hn]; rfl, by unfold stopL; rw [if_pos hn]; rfl, ⟨?_, fun k _ => ⟨Nat.zero_le _, fun e => ?_⟩⟩, Nat.zero_le _⟩
        · show (m.v, m.a) = ((0, 0) : Va)
          rw [hn.1, hn.2]
        · rw [List.length_eq_zero_iff.1 e]
          exact id
      · obtain ⟨s1, s2, s3⟩ := bestJ_spec hL (v := m.v) (a := m.a) ⟨h1, h2⟩ ⟨h3, h4⟩
        exact ⟨_, by unfold stopL; rw [if_neg hn, if_pos (.inl rfl)], by unfold stopL; rw [if_neg hn, if_pos (.inr rfl)], s1, s2⟩
    obtain ⟨l1, l2', l3, l4⟩ := id hL
    have s1 : braking_StopMotion.f 1999 x.f0 x.f1 x.f2 m.p m.v m.a 1 = some ((trace m l).map st28) := by rw [← t1]; exact stop_ok hM x.f0 1 (by omega)
    have s2 : braking_StopMotion.f 1999 x.f0 x.f1 x.f2 m.p m.v m.a 2 = some ((trace m l).map st28) := by rw [← t2]; exact stop_ok hM x.f0 2 (by omega)
    have htl : ((trace m l).map st28).length = l.length := by rw [List.length_map, trace28_length]
    have s3 : ∀ k, 20 ≤ k → ambidexterref28_Same.f k ((trace m l).map st28) ((trace m l).map st28) = some true := fun k hk => ro_same (by omega) (by omega)
    have s4 : ambidexterlaw28_jerks.f x.f0 x.f1 x.f2 m.p m.v m.a ((trace m l).map st28) = some (l, true) := by
      unfold ambidexterlaw28_jerks.f
      rw [if_pos (by omega), ro_jerks l2' l4 l1 l3 hbv.1 h3 h4 (by omega) (by omega) (by omega) (by omega) (by omega)]
      rfl
    have s5 : profile_Simulate.f m.p m.v m.a l = some ((trace m l).map st28) := simulate28 hM (GPath.small l4 hbv.1) (by omega)
    rw [s1, Option.bind_some, s2, Option.bind_some, s3 _ (by omega), Option.bind_some, s4, Option.bind_some, if_pos rfl]
    rw [show (!true) = false from rfl, ambidexterlaw28_BrakingRampOptimal.j1, if_neg Bool.false_ne_true, s5, Option.bind_some, s3 _ (by omega), Option.bind_some, if_pos rfl]
    refine at_rounds (fun k' => (ambidexterlaw28_BrakingRampOptimal.mono_l k').2.2.1 _ _ _ _ _ _ _ _ _ _ _ _ _) (show 4 * l2.length + 1 ≤ 1998 by omega) ?_
    exact ro_early hL hbv h12 ⟨h1, h2⟩ ⟨h3, h4⟩ htl (by omega) l2.length 0 (Nat.zero_add _) (Nat.zero_le _) false false [] m.p m.v m.a rfl rfl (fun e => by cases e) (fun _ _ => rfl)
end Go.Proofs.Ytjcefdockfbnaaa.Pure
