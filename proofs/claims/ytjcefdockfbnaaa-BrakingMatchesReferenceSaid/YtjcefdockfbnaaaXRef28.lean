/- The reference's stop is the stop: the table leads along the best jerks. -/
import Derived.Test.YtjcefdockfbnaaaXLay28
import Derived.Test.YtjcefdockfbnaaaXDist28
import Derived.Test.YtjcefdockfbnaaaP5
import Derived.Test.YtjcefdockfbnaaaP6
import Derived.Test.YtjcefdockfbnaaaP2
import Derived.Test.YtjcefdockfbnaaaP3
namespace Go.Proofs.Ytjcefdockfbnaaa.Pure
set_option linter.unusedSimpArgs false
set_option linter.unusedVariables false
open Go Go.RowKit Go.Proofs.Ytjcefdockfbnaaa.P Go.Proofs.YtjcefdockfbnaaaW.PrintWords Go.Proofs.YtjcefdockfbnaaaW.PrintLast Go.Proofs.YtjcefdockfbnaaaW.PrintMore Go.Proofs.Ytjcefdockfbnaaa.Ramp Go.Proofs.Ytjcefdockfbnaaa.Motion Go.Proofs.Ytjcefdockfbnaaa.Search
theorem mr_rest28 (p v a : Int) : ambidexterref28_Rest.f p v a = some (decide (v = 0 ∧ a = 0)) := by
  unfold ambidexterref28_Rest.f
  by_cases c : v = 0
  · rw [if_pos c]
    congr 1
    rw [Bool.eq_iff_iff]
    simp [c]
  · rw [if_neg c, decide_eq_false (fun e => c e.1)]
theorem mr_same_l0 {T : List S37} (hl : T.length ≤ 1000000) : ∀ (n i : Nat), i + n = T.length → ambidexterref28_Same.l0 (n + 1) T T (i : Int) = some true
  | 0, i, h => by rw [ambidexterref28_Same.l0, if_neg (by omega)]
  | n + 1, i, h => by
    have c0 : (i : Int) < (T.length : Int) := by omega
    rw [ambidexterref28_Same.l0, if_pos c0, if_pos (Int.natCast_nonneg i), if_pos c0, if_neg (by simp), wi28 (n := T.length) (by omega) (by omega)]
    exact mr_same_l0 hl n (i + 1) (by omega)
theorem mr_same {T : List S37} (hl : T.length ≤ 1000000) {k : Nat} (hk : T.length + 1 ≤ k) : ambidexterref28_Same.f k T T = some true := by
  unfold ambidexterref28_Same.f
  rw [if_pos rfl]
  exact at_rounds (fun k' => ambidexterref28_Same.mono_l k' _ _ _) hk (mr_same_l0 hl T.length 0 (Nat.zero_add _))
/-! ### Best ways in the table -/
def BestB (A J : Int) (s : Va) (k : List Int) : Prop := BPath A J s k (0, 0) ∧ ∀ k', BPath A J s k' (0, 0) → k.length ≤ k'.length ∧ (k'.length = k.length → ¬ lexLt k' k)
theorem BestB.dist {A J : Int} {s : Va} {k : List Int} (h : BestB A J s k) : Dist A J k.length s := ⟨⟨k, h.1, rfl⟩, fun l hl => (h.2 l hl).1⟩
theorem BestB.tail {A J : Int} {s : Va} {j : Int} {k : List Int} (h : BestB A J s (j :: k)) : BestB A J (tk s j) k := by
  obtain ⟨⟨j0, j1, ok, hr⟩, h2⟩ := h
  refine ⟨hr, fun k' hk' => ?_⟩
  obtain ⟨q1, q2⟩ := h2 (j :: k') ⟨j0, j1, ok, hk'⟩
  simp only [List.length_cons] at q1 q2
  exact ⟨by omega, fun e h => q2 (by omega) (.inr ⟨rfl, h⟩)⟩
theorem bpath_vpath {A J : Int} {l : List Int} : ∀ {s s' : Va}, BPath A J s l s' → VPath A J s l s' := by
  induction l with
  | nil => intro s s' h; exact h
  | cons j l ih => intro s s' h; exact ⟨h.1, h.2.1, h.2.2.1.1, ih h.2.2.2⟩
theorem vpath_bpath {A J : Int} (hA : A ≤ 4) {l : List Int} : ∀ {s : Va} (c : Nat), VPath A J s l (0, 0) → okA A s → -(8 + 4 * (c : Int)) ≤ s.1 → s.1 ≤ 8 + 4 * (c : Int) → c + l.length ≤ 12 → BPath A J s l (0, 0) := by
  induction l with
  | nil => intro s c h _ _ _ _; exact h
  | cons j l ih =>
    intro s c h ha h1 h2 hc
    obtain ⟨j0, j1, ok, hr⟩ := h
    obtain ⟨_, q1, q2⟩ := vpath_bound hA hr ok
    have q1 : -(4 * (l.length : Int)) ≤ 0 - (tk s j).1 := q1
    have q2 : 0 - (tk s j).1 ≤ 4 * (l.length : Int) := q2
    have o1 : -A ≤ s.2 + j := ok.1
    have o2 : s.2 + j ≤ A := ok.2
    have e : (tk s j).1 = s.1 + (s.2 + j) := rfl
    simp only [List.length_cons] at hc
    refine ⟨j0, j1, ⟨ok, by omega, by omega⟩, ih (c + 1) hr ok (by omega) (by omega) (by omega)⟩
theorem best_box {A J : Int} (hA : A ≤ 4) {s : Va} {l : List Int} (h : BestV A J s l) (hl : l.length ≤ 12) (ha : okA A s) (h0 : -8 ≤ s.1 ∧ s.1 ≤ 8) : BestB A J s l :=
  ⟨vpath_bpath hA 0 h.1 ha (by omega) (by omega) (by omega), fun k hk => h.2 k (bpath_vpath hk)⟩
/-! ### The loops of the stop -/
theorem stop_l2 {A J : Int} (V : Int) (hL : okL A J) {t : List Int} (hT : TMix A J 40 0 t) {m : Mo} {j : Int} {k : List Int} (hb : BestB A J (m.v, m.a) (j :: k)) (hk : k.length ≤ 12) (hs : inB (m.v, m.a)) (hp : -9000000000000 ≤ m.p ∧ m.p ≤ 9000000000000)
    {acc : List S37} (hacc : acc.length ≤ 1000) (K : Nat) : ∀ (r : Nat) (b : Int), b + r = j → -J ≤ b →
    ambidexterref28_Stop.l2 (r + 1 + K) acc t ((k.length : Int) + 1) b V A J m.p m.v m.a = ambidexterref28_Stop.l1 K (acc ++ [st28 (tick m j)]) t (k.length : Int) V A J (tick m j).p (tick m j).v (tick m j).a
  | 0, b, h, h0 => by
    have e : b = j := by omega
    subst e
    obtain ⟨l1, l2, l3, l4⟩ := id hL
    obtain ⟨j0, j1, ok, hr⟩ := id hb.1
    have s1 : -30 ≤ m.v := hs.1
    have s2 : m.v ≤ 30 := hs.2.1
    have s3 : -4 ≤ m.a := hs.2.2.1
    have s4 : m.a ≤ 4 := hs.2.2.2
    have e1 : wrap64 (m.v + m.a) = m.v + m.a := r64 (by omega) (by omega)
    have e2 : wrap64 (m.v + m.a + b) = m.v + (m.a + b) := by clear e1; rw [r64 (by omega) (by omega)]; omega
    have e3 : wrap64 (m.a + b) = m.a + b := by clear e1 e2; exact r64 (by omega) (by omega)
    have e4 : wrap64 ((k.length : Int) + 1 - 1) = k.length := by clear e1 e2 e3; rw [r64 (by omega) (by omega)]; omega
    have e5 : wrap64 (m.v + (m.a + b)) = m.v + (m.a + b) := by clear e1 e2 e3 e4; exact r64 (by omega) (by omega)
    have e6 : wrap64 (m.p + (m.v + (m.a + b))) = m.p + (m.v + (m.a + b)) := by clear e1 e2 e3 e4 e5; exact r64 (by omega) (by omega)
    have ef := from_eq V J hT.1 ⟨l1, l2⟩ (v := m.v + (m.a + b)) (a := m.a + b) (by clear e1 e2 e3 e4 e5 e6; omega) (by clear e1 e2 e3 e4 e5 e6; omega)
    have efr : fr A t (m.v + (m.a + b), m.a + b) = (k.length : Int) := by
      have e : ((m.v + (m.a + b), m.a + b) : Va) = tk (m.v, m.a) b := rfl
      rw [e, fr, if_pos ok]
      exact (hT.2 _ (okB_inB l2 ok)).2 k.length hb.tail.dist (by clear e1 e2 e3 e4 e5 e6; unfold bd; split <;> omega)
    rw [show 0 + 1 + K = K + 1 by omega, ambidexterref28_Stop.l2, if_pos j1, e1, e2, e3, ef, Option.bind_some, efr, e4, if_pos rfl]
    unfold ambidexterref28_Tick.f
    rw [e3, e5, e6, Option.bind_some, if_pos (by omega)]
    rfl
  | r + 1, b, h, h0 => by
    obtain ⟨l1, l2, l3, l4⟩ := id hL
    obtain ⟨j0, j1, ok, hr⟩ := id hb.1
    have s1 : -30 ≤ m.v := hs.1
    have s2 : m.v ≤ 30 := hs.2.1
    have s3 : -4 ≤ m.a := hs.2.2.1
    have s4 : m.a ≤ 4 := hs.2.2.2
    have e1 : wrap64 (m.v + m.a) = m.v + m.a := r64 (by omega) (by omega)
    have e2 : wrap64 (m.v + m.a + b) = m.v + (m.a + b) := by clear e1; rw [r64 (by omega) (by omega)]; omega
    have e3 : wrap64 (m.a + b) = m.a + b := by clear e1 e2; exact r64 (by omega) (by omega)
    have e4 : wrap64 ((k.length : Int) + 1 - 1) = k.length := by clear e1 e2 e3; rw [r64 (by omega) (by omega)]; omega
    have e5 : wrap64 (b + 1) = b + 1 := by clear e1 e2 e3 e4; exact r64 (by omega) (by omega)
    have ef := from_eq V J hT.1 ⟨l1, l2⟩ (v := m.v + (m.a + b)) (a := m.a + b) (by clear e1 e2 e3 e4 e5; omega) (by clear e1 e2 e3 e4 e5; omega)
    have efr : ¬ fr A t (m.v + (m.a + b), m.a + b) = (k.length : Int) := by
      intro hf
      clear e1 e2 e3 e4 e5 ef
      have e : ((m.v + (m.a + b), m.a + b) : Va) = tk (m.v, m.a) b := rfl
      rw [e, fr] at hf
      by_cases okb : okB A (tk (m.v, m.a) b)
      · rw [if_pos okb] at hf
        obtain ⟨n, q1, ⟨⟨l, q2, q3⟩, _⟩, _⟩ := (hT.2 _ (okB_inB l2 okb)).1 (by omega)
        have q := (hb.2 (b :: l) ⟨h0, by omega, okb, q2⟩).2 (by simp only [List.length_cons]; omega)
        exact q (.inl (by omega))
      · rw [if_neg okb] at hf
        omega
    rw [show r + 1 + 1 + K = r + 1 + K + 1 by omega, ambidexterref28_Stop.l2, if_pos (by clear e1 e2 e3 e4 e5 ef; omega), e1, e2, e3, ef, Option.bind_some, e4, if_neg efr, e5]
    clear e1 e2 e3 e4 e5 ef
    exact stop_l2 V hL hT hb hk hs hp hacc K r (b + 1) (by omega) (by omega)
theorem stop_l1 {A J : Int} (V : Int) (hL : okL A J) {t : List Int} (hT : TMix A J 40 0 t) : ∀ (k : List Int) (m : Mo) (acc : List S37), BestB A J (m.v, m.a) k → k.length ≤ 12 → inB (m.v, m.a) → -(9000000000000 - 1000 * (k.length : Int)) ≤ m.p → m.p ≤ 9000000000000 - 1000 * (k.length : Int) → acc.length + k.length ≤ 1000 →
    ambidexterref28_Stop.l1 (8 * k.length + 1) acc t (k.length : Int) V A J m.p m.v m.a = some (acc ++ (trace m k).map st28) := by
  intro k
  induction k with
  | nil =>
    intro m acc hb hk hs p0 p1 ha
    rw [List.length_nil, ambidexterref28_Stop.l1, if_neg (by omega)]
    simp [trace]
  | cons j k ih =>
    intro m acc hb hk hs p0 p1 ha
    obtain ⟨l1, l2, l3, l4⟩ := id hL
    obtain ⟨j0, j1, ok, hr⟩ := id hb.1
    have s1 : -30 ≤ m.v := hs.1
    have s2 : m.v ≤ 30 := hs.2.1
    have s3 : -4 ≤ m.a := hs.2.2.1
    have s4 : m.a ≤ 4 := hs.2.2.2
    simp only [List.length_cons, Int.natCast_add, Int.natCast_one] at hk p0 p1 ha ⊢
    have e : wrap64 (-J) = -J := r64 (by omega) (by omega)
    rw [show 8 * (k.length + 1) + 1 = 8 * (k.length + 1) + 1 by omega, ambidexterref28_Stop.l1, if_pos (by clear e; omega), e]
    clear e
    have h2 := stop_l2 V hL hT hb (by omega) hs ⟨by omega, by omega⟩ (acc := acc) (by omega) (8 * k.length + 1) (j + J).toNat (-J) (by omega) (Int.le_refl _)
    have h3 := ih (tick m j) (acc ++ [st28 (tick m j)]) hb.tail (by omega) (okB_inB l2 ok) (by simp only [tick]; omega) (by simp only [tick]; omega) (by simp only [List.length_append, List.length_cons, List.length_nil]; omega)
    rw [h3] at h2
    have h4 := at_rounds (fun k' => (ambidexterref28_Stop.mono_l k').2.2.2 _ _ _ _ _ _ _ _ _ _) (show (j + J).toNat + 1 + (8 * k.length + 1) ≤ 8 * (k.length + 1) by omega) h2
    rw [h4]
    simp [trace]
theorem less_eq {v : Int} (hv : -8 ≤ v ∧ v ≤ 8) : ambidexterref28_less.f v = some (less28 v) := by
  unfold ambidexterref28_less.f less28
  by_cases c1 : v > 4
  · rw [if_pos c1, if_pos c1, r64 (by omega) (by omega)]
  · rw [if_neg c1, if_neg c1]
    by_cases c2 : v < -4
    · rw [if_pos c2, if_pos c2, r64 (by omega) (by omega)]
    · rw [if_neg c2, if_neg c2]
theorem stop_l0 {A J : Int} {m : Mo} (h : okM A J m) {k : Nat} (hk : 3 ≤ k) : ambidexterref28_Stop.l0 k [] 0 m.p m.v m.a = some ((brk m).map st28) := by
  obtain ⟨_, h5, h6, h7, h8, h9, h10⟩ := h
  obtain ⟨k, rfl⟩ : ∃ k', k = k' + 1 + 1 + 1 := ⟨k - 3, by omega⟩
  obtain ⟨g1, g2, g3⟩ := less28_in ⟨h5, h6⟩
  have z1 : ([] : List S37).length < 5864062014805 := by simp
  have z2 : ([] ++ [st28 ⟨m.p + less28 m.v, less28 m.v, 0⟩] : List S37).length < 5864062014805 := by simp
  have b1 := less_eq (v := m.v) ⟨h5, h6⟩
  have b2 := less_eq (v := less28 m.v) ⟨by omega, by omega⟩
  have e0 : less28 (less28 m.v) = 0 := (less28_in (v := less28 m.v) ⟨by omega, by omega⟩).2.2 ⟨by omega, by omega⟩
  rw [e0] at b2
  have w0 : wrap64 (m.p + less28 m.v) = m.p + less28 m.v := r64 (by omega) (by omega)
  have w1 : wrap64 (m.p + less28 m.v + 0) = m.p + less28 m.v := by clear w0; rw [r64 (by omega) (by omega)]; omega
  have w2 : wrap64 ((0 : Int) + 1) = 1 := by clear w0 w1; rw [r64 (by omega) (by omega)]; omega
  have w3 : wrap64 ((1 : Int) + 1) = 2 := by clear w0 w1 w2; rw [r64 (by omega) (by omega)]; omega
  rw [ambidexterref28_Stop.l0, if_pos rfl, b1]
  simp only [Option.bind_some]
  rw [if_pos z1, w0, w2, ambidexterref28_Stop.l0, if_neg (show ¬ (1 : Int) = 0 by omega)]
  by_cases c : less28 m.v = 0
  · rw [if_pos c]
    unfold brk
    rw [if_pos c]
    simp [c, st28]
  · rw [if_neg c, b2]
    simp only [Option.bind_some]
    rw [if_pos z2, w1, w3, ambidexterref28_Stop.l0, if_neg (show ¬ (2 : Int) = 0 by omega), if_pos rfl]
    unfold brk
    rw [if_neg c]
    simp [st28]
theorem ref_stop {A J : Int} {m : Mo} (h : okM A J m) (V cat : Int) {k : Nat} (hk : 30000 ≤ k) : ambidexterref28_Stop.f k V A J m.p m.v m.a cat = some ((stopL A J m cat).map st28) := by
  obtain ⟨k, rfl⟩ : ∃ k', k = k' + 1 := ⟨k - 1, by omega⟩
  obtain ⟨hL, h1, h2, h3, h4, h5, h6⟩ := id h
  obtain ⟨l1, l2, l3, l4⟩ := id hL
  unfold ambidexterref28_Stop.f stopL
  rw [mr_rest28, Option.bind_some]
  by_cases cr : m.v = 0 ∧ m.a = 0
  · rw [decide_eq_true cr, if_pos rfl, if_pos cr, ambidexterref28_Stop.j0, if_pos rfl]
    rfl
  rw [decide_eq_false cr, if_neg Bool.false_ne_true, if_neg cr]
  by_cases c1 : cat < 0
  · rw [if_pos c1, ambidexterref28_Stop.j0, if_pos rfl, if_neg (by omega), if_neg (by omega)]
    rfl
  rw [if_neg c1, ambidexterref28_Stop.j0]
  by_cases c2 : cat > 2
  · rw [decide_eq_true c2, if_pos rfl, if_neg (by omega), if_neg (by omega)]
    rfl
  rw [decide_eq_false c2, if_neg Bool.false_ne_true]
  by_cases c3 : cat = 0
  · rw [if_pos c3, if_neg (by omega), if_pos c3]
    exact stop_l0 h (by omega)
  rw [if_neg c3, if_pos (by omega)]
  obtain ⟨t, hT, ht⟩ := lay_ok V hL
  obtain ⟨s1, s2, s3⟩ := bestJ_spec hL (v := m.v) (a := m.a) ⟨h1, h2⟩ ⟨h3, h4⟩
  generalize bestJ A J (m.v, m.a) = l at s1 s2
  have hb := best_box l2 s1 s2 ⟨h3, h4⟩ ⟨h1, h2⟩
  have hs : inB (m.v, m.a) := ⟨by dsimp only; omega, by dsimp only; omega, by dsimp only; omega, by dsimp only; omega⟩
  have ok : okB A (m.v, m.a) := ⟨⟨h3, h4⟩, by dsimp only; omega, by dsimp only; omega⟩
  have ef := from_eq V J hT.1 ⟨l1, l2⟩ (v := m.v) (a := m.a) (by omega) (by omega)
  have efr : fr A t (m.v, m.a) = (l.length : Int) := by
    rw [fr, if_pos ok]
    exact (hT.2 _ hs).2 l.length hb.dist (by unfold bd; split <;> omega)
  rw [ht k (by omega), Option.bind_some, ef, Option.bind_some, efr]
  have h3 := stop_l1 V hL hT l m [] hb s2 hs (by omega) (by omega) (by simp only [List.length_nil]; omega)
  rw [List.nil_append] at h3
  exact at_rounds (fun k' => (ambidexterref28_Stop.mono_l k').2.2.1 _ _ _ _ _ _ _ _ _) (by omega) h3
theorem way_l0 {T : List Mo} (hT : Near28 T) (hl : T.length ≤ 1000) {p v a : Int} (hp : -9000000000000 ≤ p ∧ p ≤ 9000000000000) : ∀ (n i : Nat) (f : Int), i + n = T.length →
    ambidexterref28_Way.l0 (n + 1) (T.map st28) f (i : Int) p v a = some ((T.drop i).foldl (fun f x => mx f (far28 p x)) f)
  | 0, i, f, h => by
    rw [List.drop_of_length_le (by omega), ambidexterref28_Way.l0, if_neg (by rw [List.length_map]; omega)]
    rfl
  | n + 1, i, f, h => by
    have hi : i < T.length := by omega
    have hx := hT _ (List.getElem_mem hi)
    have c1 : (i : Int) < ((T.map st28).length : Int) := by rw [List.length_map]; omega
    have hw := wi28 (n := T.length) (by omega) hi
    have e1 : wrap64 (T[i].p - p) = T[i].p - p := by clear hw; exact r64 (by omega) (by omega)
    have e2 : wrap64 (p - T[i].p) = p - T[i].p := by clear hw e1; exact r64 (by omega) (by omega)
    rw [List.drop_eq_getElem_cons hi, List.foldl_cons, ambidexterref28_Way.l0, if_pos c1, if_pos (Int.natCast_nonneg i), st28_at hi, hw]
    dsimp only [st28]
    rw [e1, e2]
    clear hw e1 e2
    exact way_l0 hT hl hp n (i + 1) _ (by omega)
theorem ref_way {A J : Int} {m : Mo} (h : okM A J m) (cat : Int) {k : Nat} (hk : 20 ≤ k) : ambidexterref28_Way.f k ((stopL A J m cat).map st28) m.p m.v m.a = some (way28 m.p (stopL A J m cat)) := by
  obtain ⟨n1, n2, n3⟩ := stop_near h cat
  obtain ⟨hL, h1, h2, h3, h4, h5, h6⟩ := id h
  have := way_l0 (v := m.v) (a := m.a) n2 (by omega) (p := m.p) ⟨by omega, by omega⟩ (stopL A J m cat).length 0 0 (Nat.zero_add _)
  exact at_rounds (fun k' => ambidexterref28_Way.mono_l k' _ _ _ _ _ _) (by omega) this
end Go.Proofs.Ytjcefdockfbnaaa.Pure
