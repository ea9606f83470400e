/- The stopping distance is the greatest distance from the start; a stop shifted is the stop of what is shifted; the mirrored motion takes equally many ticks. -/
import Derived.Test.YtjcefdockfbnaaaXDist28
import Derived.Test.YtjcefdockfbnaaaP9
namespace Go.Proofs.Ytjcefdockfbnaaa.Pure
set_option linter.unusedSimpArgs false
set_option linter.unusedVariables false
open Go Go.RowKit Go.Proofs.Ytjcefdockfbnaaa.P Go.Proofs.YtjcefdockfbnaaaW.PrintWords Go.Proofs.YtjcefdockfbnaaaW.PrintLast Go.Proofs.YtjcefdockfbnaaaW.PrintMore Go.Proofs.Ytjcefdockfbnaaa.Ramp Go.Proofs.Ytjcefdockfbnaaa.Motion Go.Proofs.Ytjcefdockfbnaaa.Search
theorem way_map {p q : Int} {g : Mo → Mo} (hg : ∀ x, far28 q (g x) = far28 p x) (T : List Mo) : ∀ f : Int, (T.map g).foldl (fun f x => mx f (far28 q x)) f = T.foldl (fun f x => mx f (far28 p x)) f := by
  induction T with
  | nil => intro f; rfl
  | cons y T ih => intro f; rw [List.map_cons, List.foldl_cons, List.foldl_cons, hg, ih]
theorem far_shift (s p : Int) (x : Mo) : far28 (p + s) (shift s x) = far28 p x := by
  unfold far28 shift
  dsimp only
  rw [show x.p + s - (p + s) = x.p - p by omega, show p + s - (x.p + s) = p - x.p by omega]
theorem far_neg (p : Int) (x : Mo) : far28 (-p) (neg28 x) = far28 p x := by
  unfold far28 neg28 mx
  dsimp only
  split <;> split <;> omega
theorem stop_at0 (A J : Int) (m : Mo) (c : ¬ (m.v = 0 ∧ m.a = 0)) : stopL A J m 0 = brk m := by
  unfold stopL
  rw [if_neg c, if_neg (by omega), if_pos rfl]
theorem stop_neg0 (A J : Int) (m : Mo) : stopL A J (neg28 m) 0 = (stopL A J m 0).map neg28 := by
  have ec : ((neg28 m).v = 0 ∧ (neg28 m).a = 0) ↔ (m.v = 0 ∧ m.a = 0) := by
    show (-m.v = 0 ∧ -m.a = 0) ↔ _
    omega
  by_cases c : m.v = 0 ∧ m.a = 0
  · unfold stopL
    rw [if_pos c, if_pos (ec.2 c)]
    rfl
  · rw [stop_at0 A J m c, stop_at0 A J (neg28 m) (fun e => c (ec.1 e))]
    unfold brk
    have e : less28 (neg28 m).v = -less28 m.v := less28_neg m.v
    rw [e]
    by_cases c2 : less28 m.v = 0
    · have c3 : -less28 m.v = 0 := by rw [c2]; rfl
      rw [if_pos c2, if_pos c3]
      simp [neg28]
    · have c3 : ¬ -less28 m.v = 0 := fun h => c2 (by omega)
      rw [if_neg c2, if_neg c3]
      simp only [List.map_cons, List.map_nil, neg28, List.cons.injEq, Mo.mk.injEq, and_true]
      refine ⟨⟨?_, trivial, ?_⟩, ?_⟩ <;> first | omega | trivial | simp
theorem sd_l1 {A J V s cat W : Int} {b : Mo} (hs : -2147483648 ≤ s ∧ s ≤ 2147483647) {T : List Mo} (hT : Near28 T) (hl : T.length ≤ 12) (hb : cat > 0 ∨ ∀ k, 20 ≤ k → braking_Distance.f k V A J b.p b.v b.a cat = some W) :
    ∀ (n i : Nat), i + n = T.length → ambidexterlaw28_BrakingStoppingDistance.l1 (n + 21) s true cat (T.map st28) W ((T.map (shift s)).map st28) (i : Int) V A J b.p b.v b.a = some true
  | 0, i, h => by
    rw [show 0 + 21 = 20 + 1 by omega, ambidexterlaw28_BrakingStoppingDistance.l1, if_neg (by rw [List.length_map]; omega), if_pos rfl]
    rcases hb with hb | hb
    · rw [if_pos hb]
    · by_cases c : cat > 0
      · rw [if_pos c]
      · rw [if_neg c, hb _ (Nat.le_refl _), Option.bind_some]
        simp
  | n + 1, i, h => by
    have hi : i < T.length := by omega
    have hi2 : i < (T.map (shift s)).length := by rw [List.length_map]; omega
    have hx := hT _ (List.getElem_mem hi)
    have c0 : (i : Int) < ((T.map st28).length : Int) := by rw [List.length_map]; omega
    have c1 : (i : Int) < (((T.map (shift s)).map st28).length : Int) := by rw [List.length_map, List.length_map]; omega
    have hw := wi28 (n := T.length) (by omega) hi
    have e0 : wrap64 s = s := by clear hw; exact r64 (by omega) (by omega)
    have e1 : wrap64 (T[i].p + s) = T[i].p + s := by clear hw e0; exact r64 (by omega) (by omega)
    have eg : (T.map (shift s))[i] = shift s T[i] := by simp
    rw [show n + 1 + 21 = (n + 21) + 1 by omega, ambidexterlaw28_BrakingStoppingDistance.l1, if_pos c0, if_pos (Int.natCast_nonneg i), if_pos c1, st28_at hi2, st28_at hi, eg, hw, e0]
    have q1 : (st28 (shift s T[i])).f0 = wrap64 ((st28 T[i]).f0 + s) := e1.symm
    have q2 : (st28 (shift s T[i])).f1 = (st28 T[i]).f1 := rfl
    have q3 : (st28 (shift s T[i])).f2 = (st28 T[i]).f2 := rfl
    rw [if_pos q1, if_pos q2, if_pos q3]
    clear hw e0 e1
    exact sd_l1 hs hT hl hb n (i + 1) (by omega)
theorem sd_l0 {A J V s cat W : Int} {m : Mo} (hM : okM A J m) (hs : -2147483648 ≤ s ∧ s ≤ 2147483647) (hp : -1099511627776 ≤ m.p ∧ m.p ≤ 1099511627776) (hc : cat = 0 ∨ cat = 1 ∨ cat = 2) {T : List Mo} (hT : T = stopL A J m cat) (hW : W = way28 m.p T) :
    ∀ (n i : Nat) (met : Bool), i + n = T.length → (met = true ∨ ∃ j, ∃ hj : j < T.length, i ≤ j ∧ far28 m.p T[j] = W) →
      ambidexterlaw28_BrakingStoppingDistance.l0 (n + 40) s true cat (T.map st28) W met (i : Int) V A J m.p m.v m.a = some true
  | 0, i, met, h, hmet => by
    obtain ⟨_, n2, n3⟩ := stop_near hM cat
    rw [← hT] at n2 n3
    have hmt : met = true := by
      rcases hmet with h1 | ⟨j, hj, h1, _⟩
      · exact h1
      · omega
    obtain ⟨hL, h1, h2, h3, h4, h5, h6⟩ := id hM
    obtain ⟨l1, l2, l3, l4⟩ := id hL
    have hM2 : okM A J (shift s m) := ⟨hL, h1, h2, h3, h4, by show _ ≤ m.p + s; omega, by show m.p + s ≤ _; omega⟩
    have hM3 : okM A J (neg28 m) := ⟨hL, by show _ ≤ -m.v; omega, by show -m.v ≤ _; omega, by show _ ≤ -m.a; omega, by show -m.a ≤ _; omega, by show _ ≤ -m.p; omega, by show -m.p ≤ _; omega⟩
    have e0 : wrap64 s = s := r64 (by omega) (by omega)
    have e1 : wrap64 (m.p + s) = m.p + s := by clear e0; exact r64 (by omega) (by omega)
    have e2 : wrap64 (-m.p) = -m.p := by clear e0 e1; exact r64 (by omega) (by omega)
    have e3 : wrap64 (-m.v) = -m.v := by clear e0 e1 e2; exact r64 (by omega) (by omega)
    have e4 : wrap64 (-m.a) = -m.a := by clear e0 e1 e2 e3; exact r64 (by omega) (by omega)
    have s1 : braking_StopMotion.f 39 V A J (m.p + s) m.v m.a cat = some ((T.map (shift s)).map st28) := by
      have := stop_ok hM2 V cat (k := 39) (by omega)
      rw [stop_shift, ← hT] at this
      exact this
    have s2 : braking_Duration.f 39 V A J (-m.p) (-m.v) (-m.a) cat = some (T.length : Int) := by
      have := duration28 hM3 V cat (k := 39) (by omega)
      rw [stop_neg_len hM, ← hT] at this
      exact this
    have s3 : braking_Distance.f 39 V A J (m.p + s) m.v m.a cat = some W := by
      have := distance28 hM2 V cat (k := 39) (by omega)
      rw [stop_shift, ← hT] at this
      rw [hW]
      refine this.trans ?_
      congr 1
      exact way_map (far_shift s m.p) T 0
    have hW0 : ¬ W < 0 := by
      have := (way_ge m.p T 0).1
      have e : W = T.foldl (fun f x => mx f (far28 m.p x)) 0 := hW
      clear e0 e1 e2 e3 e4
      omega
    have hb : cat > 0 ∨ ∀ k, 20 ≤ k → braking_Distance.f k V A J (neg28 m).p (neg28 m).v (neg28 m).a cat = some W := by
      rcases hc with rfl | hc
      · right
        intro k hk
        have := distance28 hM3 V 0 hk
        rw [stop_neg0, ← hT] at this
        rw [hW]
        refine this.trans ?_
        congr 1
        exact way_map (far_neg m.p) T 0
      · left
        omega
    have hl1 := sd_l1 (V := V) (A := A) (J := J) (b := neg28 m) hs n2 n3 hb T.length 0 (Nat.zero_add _)
    have hl2 := at_rounds (fun k' => (ambidexterlaw28_BrakingStoppingDistance.mono_l k').2.2.2 _ _ _ _ _ _ _ _ _ _ _ _ _) (show T.length + 21 ≤ 38 by omega) hl1
    have g1 : (T.length : Int) = ((T.map st28).length : Int) := by rw [List.length_map]
    have g2 : (((T.map (shift s)).map st28).length : Int) = ((T.map st28).length : Int) := by rw [List.length_map, List.length_map, List.length_map]
    have g3 : (W != W) = false := by simp
    rw [show 0 + 40 = 39 + 1 by omega, ambidexterlaw28_BrakingStoppingDistance.l0, if_neg (by clear e0 e1 e2 e3 e4; rw [List.length_map]; omega), e0, e1, s1, Option.bind_some, if_pos hmt, if_neg hW0, e2, e3, e4, s2, Option.bind_some, if_pos g1, if_pos g2, s3, Option.bind_some, g3, ambidexterlaw28_BrakingStoppingDistance.j2, if_neg Bool.false_ne_true]
    exact hl2
  | n + 1, i, met, h, hmet => by
    obtain ⟨_, n2, n3⟩ := stop_near hM cat
    rw [← hT] at n2 n3
    have hi : i < T.length := by omega
    have hx := n2 _ (List.getElem_mem hi)
    have c0 : (i : Int) < ((T.map st28).length : Int) := by rw [List.length_map]; omega
    have hfar : far28 m.p T[i] ≤ W := by rw [hW]; exact (way_ge m.p T 0).2.1 _ (List.getElem_mem hi)
    have hw := wi28 (n := T.length) (by omega) hi
    have e1 : wrap64 (T[i].p - m.p) = T[i].p - m.p := by clear hw; exact r64 (by omega) (by omega)
    have e2 : wrap64 (m.p - T[i].p) = m.p - T[i].p := by clear hw e1; exact r64 (by omega) (by omega)
    have ef : mx (T[i].p - m.p) (m.p - T[i].p) = far28 m.p T[i] := rfl
    rw [show n + 1 + 40 = (n + 40) + 1 by omega, ambidexterlaw28_BrakingStoppingDistance.l0, if_pos c0, if_pos (Int.natCast_nonneg i), st28_at hi, hw]
    dsimp only [st28]
    rw [e1, e2, ef, if_neg (by clear hw e1 e2; omega)]
    clear hw e1 e2
    by_cases cm : met = true
    · rw [if_pos cm]
      exact sd_l0 hM hs hp hc hT hW n (i + 1) true (by omega) (.inl rfl)
    · rw [if_neg cm]
      refine sd_l0 hM hs hp hc hT hW n (i + 1) _ (by omega) ?_
      rcases hmet with h1 | ⟨j, hj, h1, h2⟩
      · exact absurd h1 cm
      · by_cases c : j = i
        · subst c
          left
          rw [beq_iff_eq]
          exact h2
        · exact .inr ⟨j, hj, by omega, h2⟩
theorem BrakingStoppingDistance : ∀ (x0 : S23) (x1 : S37) (a2 : Int) (a3 : Int), ok23 x0 → ok37 x1 → (Lit.int .u8 a2).wf = true → (Lit.int .i32 a3).wf = true → ∃ k, ambidexterlaw28_BrakingStoppingDistance.f k x0.f0 x0.f1 x0.f2 x1.f0 x1.f1 x1.f2 a2 a3 = some true := by
  intro x y a s _ _ ha hs
  have hs := bounds_i32 hs
  obtain ⟨cat, ec, hc⟩ := cat3 ha
  obtain ⟨b, hb, hbt⟩ := may28 x.f0 x.f1 x.f2 y.f0 y.f1 y.f2
  have hout : ∀ k, ambidexterlaw28_BrakingStoppingDistance.j0 (k + 1) a s true true x.f0 x.f1 x.f2 y.f0 y.f1 y.f2 = some true := fun k => by rw [ambidexterlaw28_BrakingStoppingDistance.j0, if_pos rfl]
  refine ⟨1999 + 1, ?_⟩
  unfold ambidexterlaw28_BrakingStoppingDistance.f
  rw [head28 (Nat.le_refl _), hb]
  simp only [Option.bind_some]
  cases b with
  | false => exact hout 1999
  | true =>
    obtain ⟨v0, v1, hM, p0, p1⟩ := hbt rfl
    rw [if_pos rfl]
    by_cases c1 : y.f0 > 549755813888
    · rw [if_pos c1]; exact hout 1999
    · rw [if_neg c1]
      by_cases c2 : y.f0 < -549755813888
      · rw [decide_eq_true c2]; exact hout 1999
      · have hst : braking_StopMotion.f 1999 x.f0 x.f1 x.f2 y.f0 y.f1 y.f2 cat = some ((stopL x.f1 x.f2 ⟨y.f0, y.f1, y.f2⟩ cat).map st28) := stop_ok hM x.f0 cat (by omega)
        have hdi : braking_Distance.f 1999 x.f0 x.f1 x.f2 y.f0 y.f1 y.f2 cat = some (way28 y.f0 (stopL x.f1 x.f2 ⟨y.f0, y.f1, y.f2⟩ cat)) := distance28 hM x.f0 cat (by omega)
        obtain ⟨T, hT⟩ : ∃ T, T = stopL x.f1 x.f2 ⟨y.f0, y.f1, y.f2⟩ cat := ⟨_, rfl⟩
        obtain ⟨W, hW⟩ : ∃ W, W = way28 y.f0 T := ⟨_, rfl⟩
        have n3 := (stop_near hM cat).2.2
        rw [← hT] at hst hdi n3
        rw [← hW] at hdi
        have hmet : (W == 0) = true ∨ ∃ j, ∃ hj : j < T.length, 0 ≤ j ∧ far28 y.f0 T[j] = W := by
          rcases (way_ge y.f0 T 0).2.2 with h | ⟨z, hz, h⟩
          · left
            rw [beq_iff_eq, hW]
            exact h
          · right
            obtain ⟨j, hj, rfl⟩ := List.getElem_of_mem hz
            exact ⟨j, hj, Nat.zero_le _, by rw [hW]; exact h⟩
        have hl := sd_l0 (V := x.f0) (m := ⟨y.f0, y.f1, y.f2⟩) hM (s := s) ⟨by omega, by omega⟩ ⟨p0, p1⟩ hc hT hW T.length 0 (W == 0) (Nat.zero_add _) hmet
        rw [decide_eq_false c2, ambidexterlaw28_BrakingStoppingDistance.j0, if_neg Bool.false_ne_true, ec, hst, Option.bind_some, hdi, Option.bind_some]
        exact at_rounds (fun k' => (ambidexterlaw28_BrakingStoppingDistance.mono_l k').2.1 _ _ _ _ _ _ _ _ _ _ _ _ _) (by omega) hl
end Go.Proofs.Ytjcefdockfbnaaa.Pure
