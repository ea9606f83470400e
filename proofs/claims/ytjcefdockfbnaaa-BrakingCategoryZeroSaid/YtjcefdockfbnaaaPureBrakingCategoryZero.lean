/- A stop of category 0 never raises the speed nor reverses it; its ticks and its distance grow with the speed. -/
import Derived.Test.YtjcefdockfbnaaaXLaw28
import Derived.Test.YtjcefdockfbnaaaP10
namespace Go.Proofs.Ytjcefdockfbnaaa.Pure
set_option linter.unusedSimpArgs false
set_option linter.unusedVariables false
open Go Go.RowKit Go.Proofs.Ytjcefdockfbnaaa.P Go.Proofs.YtjcefdockfbnaaaW.PrintWords Go.Proofs.YtjcefdockfbnaaaW.PrintLast Go.Proofs.YtjcefdockfbnaaaW.PrintMore Go.Proofs.Ytjcefdockfbnaaa.Ramp Go.Proofs.Ytjcefdockfbnaaa.Motion Go.Proofs.Ytjcefdockfbnaaa.Search
/-- At rest at 0 and in category 0, all speeds from 0 to 7: looked through one by one. -/
theorem grow0 {V A J : Int} (hL : okL A J) {s : Int} (h0 : 0 ≤ s) (h1 : s ≤ 7) : ∃ a b c d : Int, (∀ k, 30 ≤ k → braking_Duration.f k V A J 0 s 0 0 = some a) ∧ (∀ k, 30 ≤ k → braking_Duration.f k V A J 0 (s + 1) 0 0 = some b) ∧ (∀ k, 30 ≤ k → braking_Distance.f k V A J 0 s 0 0 = some c) ∧ (∀ k, 30 ≤ k → braking_Distance.f k V A J 0 (s + 1) 0 0 = some d) ∧ a ≤ b ∧ c ≤ d := by
  have key : ∀ s : Int, 0 ≤ s → s ≤ 8 → ∃ a c : Int, (∀ k, 30 ≤ k → braking_Duration.f k V A J 0 s 0 0 = some a) ∧ (∀ k, 30 ≤ k → braking_Distance.f k V A J 0 s 0 0 = some c) ∧ a = (if s = 0 then 0 else if s ≤ 4 then 1 else 2) ∧ c = (if s ≤ 4 then 0 else s - 4) := by
    intro s g0 g1
    have hM : okM A J ⟨0, s, 0⟩ := by
      obtain ⟨l1, l2, l3, l4⟩ := id hL
      refine ⟨hL, ?_, ?_, ?_, ?_, ?_, ?_⟩ <;> dsimp only <;> omega
    have hd : ∀ k, 30 ≤ k → braking_Duration.f k V A J 0 s 0 0 = some ((stopL A J ⟨0, s, 0⟩ 0).length : Int) := fun k hk => duration28 hM V 0 (by omega)
    have hs : ∀ k, 30 ≤ k → braking_StopMotion.f k V A J 0 s 0 0 = some ((stopL A J ⟨0, s, 0⟩ 0).map st28) := fun k hk => stop_ok hM V 0 (by omega)
    have he : stopL A J ⟨0, s, 0⟩ 0 = if s = 0 then [] else if s ≤ 4 then [⟨0, 0, 0⟩] else [⟨s - 4, s - 4, 0⟩, ⟨s - 4, 0, 0⟩] := by
      unfold stopL
      by_cases c : s = 0
      · rw [if_pos ⟨c, rfl⟩, if_pos c]
      · rw [if_neg (fun e => c e.1), if_neg (by omega), if_pos rfl, if_neg c]
        unfold brk less28
        dsimp only
        by_cases c4 : s ≤ 4
        · rw [if_neg (by omega : ¬ s > 4), if_neg (by omega : ¬ s < -4), if_pos rfl, if_pos c4]
        · rw [if_pos (by omega : s > 4), if_neg (by omega), if_neg c4, Int.zero_add]
    have e0 : (0 : Int) ≤ 0 := Int.le_refl _
    refine ⟨_, if s ≤ 4 then 0 else s - 4, hd, fun k hk => ?_, ?_, rfl⟩
    · obtain ⟨k, rfl⟩ : ∃ k', k = k' + 1 + 1 + 1 := ⟨k - 3, by omega⟩
      rw [braking_Distance.f, hs _ hk, Option.bind_some, he]
      by_cases c : s = 0
      · rw [if_pos c, if_pos (by omega)]
        simp [braking_Distance.l0]
      · rw [if_neg c]
        by_cases c4 : s ≤ 4
        · rw [if_pos c4, if_pos c4]
          simp [braking_Distance.l0, rd_T37, mx, wrap64]
        · rw [if_neg c4, if_neg c4]
          have w1 : wrap64 (s - 4 - 0) = s - 4 := by rw [Int.sub_zero]; exact r64 (by omega) (by omega)
          have w2 : wrap64 (0 - (s - 4)) = 4 - s := by clear w1; rw [r64 (by omega) (by omega)]; omega
          have m1 : mx (mx 0 (s - 4)) (4 - s) = s - 4 := by clear w1 w2; unfold mx; split <;> split <;> omega
          have m2 : mx (mx (s - 4) (s - 4)) (4 - s) = s - 4 := by clear w1 w2; unfold mx; split <;> split <;> omega
          have q1 : wrap64 (0 + 1) = 1 := by unfold wrap64; decide
          have q2 : wrap64 (1 + 1) = 2 := by unfold wrap64; decide
          have r0 : rd_T37 [(⟨s - 4, s - 4, 0⟩ : S37), ⟨s - 4, 0, 0⟩] 0 = ⟨s - 4, s - 4, 0⟩ := rfl
          have r1 : rd_T37 [(⟨s - 4, s - 4, 0⟩ : S37), ⟨s - 4, 0, 0⟩] 1 = ⟨s - 4, 0, 0⟩ := rfl
          simp only [List.map_cons, List.map_nil, List.length_cons, List.length_nil]
          rw [braking_Distance.l0, if_pos (by decide), if_pos (by decide), if_pos (by simp), r0, q1]
          dsimp only
          rw [w1, w2, m1, braking_Distance.l0, if_pos (by decide), if_pos (by decide), if_pos (by simp), r1, q2]
          dsimp only
          rw [w1, w2, m2, braking_Distance.l0, if_neg (by decide)]
    · rw [he]
      by_cases c : s = 0
      · rw [if_pos c, if_pos c]; rfl
      · rw [if_neg c, if_neg c]
        by_cases c4 : s ≤ 4
        · rw [if_pos c4, if_pos c4]; rfl
        · rw [if_neg c4, if_neg c4]; rfl
  obtain ⟨a, c, k1, k2, ea, ec⟩ := key s h0 (by omega)
  obtain ⟨b, d, k3, k4, eb, ed⟩ := key (s + 1) (by omega) (by omega)
  refine ⟨a, b, c, d, k1, k3, k2, k4, ?_, ?_⟩
  · rw [ea, eb]; split <;> split <;> (try split) <;> (try split) <;> omega
  · rw [ec, ed]; split <;> split <;> omega
theorem zero_l0 {A J V a2 : Int} (hL : okL A J) (h8 : 0 ≤ Int.tmod (wrap64 a2) 8 ∧ Int.tmod (wrap64 a2) 8 ≤ 7) {m : Mo} (hm : -8 ≤ m.v ∧ m.v ≤ 8) {T : List Mo} (hl : T.length ≤ 2)
    (hT : ∀ (i : Nat) (hi : i < T.length), T[i].a = 0 ∧ 0 ≤ T[i].v * m.v ∧ (-4 ≤ T[i].v ∧ T[i].v ≤ 4) ∧ ∀ w, (i = 0 → w = m.v) → (∀ j (hj : j < T.length), i = j + 1 → w = T[j].v) → (0 ≤ T[i].v → T[i].v ≤ w ∨ T[i].v = 0) ∧ (T[i].v ≤ 0 → w ≤ T[i].v ∨ T[i].v = 0)) :
    ∀ (n i : Nat) (w : Int), i + n = T.length → (i = 0 → w = m.v) → (∀ j (hj : j < T.length), i = j + 1 → w = T[j].v) → (-8 ≤ w ∧ w ≤ 8) →
      ambidexterlaw28_BrakingCategoryZero.l0 (n + 31) a2 true (T.map st28) w (i : Int) V A J m.p m.v m.a = some true
  | 0, i, w, hi, _, _, _ => by
    obtain ⟨a, b, c, d, g1, g2, g3, g4, g5, g6⟩ := grow0 (V := V) hL h8.1 h8.2
    have e1 : wrap64 (Int.tmod (wrap64 a2) 8 + 1) = Int.tmod (wrap64 a2) 8 + 1 := r64 (by omega) (by omega)
    rw [show 0 + 31 = 30 + 1 by omega, ambidexterlaw28_BrakingCategoryZero.l0, if_neg (by clear e1; rw [List.length_map]; omega), if_pos rfl, g1 _ (Nat.le_refl _), Option.bind_some, e1, g2 _ (Nat.le_refl _), Option.bind_some, if_pos g5, g3 _ (Nat.le_refl _), Option.bind_some, g4 _ (Nat.le_refl _), Option.bind_some, decide_eq_true g6]
  | n + 1, i, w, hi, hw0, hw1, hwb => by
    have hlt : i < T.length := by omega
    obtain ⟨t1, t2, t3, t4⟩ := hT i hlt
    obtain ⟨u1, u2⟩ := t4 w hw0 hw1
    have c0 : (i : Int) < ((T.map st28).length : Int) := by rw [List.length_map]; omega
    have hwi := wi28 (n := T.length) (by omega) hlt
    have e1 : ¬ wrap64 (T[i].v * m.v) < 0 := by
      clear hwi
      have hb : T[i].v * m.v ≤ 4 * 8 := by
        have a1 : T[i].v.natAbs ≤ 4 := by omega
        have a2 : m.v.natAbs ≤ 8 := by omega
        have := Nat.mul_le_mul a1 a2
        have h3 : (T[i].v * m.v).natAbs ≤ 32 := by rw [Int.natAbs_mul]; exact this
        omega
      rw [r64 (by omega) (by omega)]
      omega
    have e2 : ¬ mx T[i].v (wrap64 (-T[i].v)) > mx w (wrap64 (-w)) := by
      clear hwi e1
      have w1 : wrap64 (-T[i].v) = -T[i].v := r64 (by omega) (by omega)
      have w2 : wrap64 (-w) = -w := by clear w1; exact r64 (by omega) (by omega)
      rw [w1, w2]
      clear w1 w2
      unfold mx
      split <;> split <;> omega
    rw [show n + 1 + 31 = (n + 31) + 1 by omega, ambidexterlaw28_BrakingCategoryZero.l0, if_pos c0, if_pos (Int.natCast_nonneg i), st28_at hlt]
    dsimp only [st28]
    rw [if_neg e1, if_neg e2, if_pos t1, hwi]
    clear e1 e2 hwi
    exact zero_l0 hL h8 hm hl hT n (i + 1) T[i].v (by omega) (fun e => by omega) (fun j hj e => by cases (show i = j by omega); rfl) ⟨by omega, by omega⟩
theorem BrakingCategoryZero : ∀ (x0 : S23) (x1 : S37) (a2 : Int), ok23 x0 → ok37 x1 → (Lit.int .u8 a2).wf = true → ∃ k, ambidexterlaw28_BrakingCategoryZero.f k x0.f0 x0.f1 x0.f2 x1.f0 x1.f1 x1.f2 a2 = some true := by
  intro x y a _ _ ha
  have hb8 := bounds_u8 ha
  have h8 : 0 ≤ Int.tmod (wrap64 a) 8 ∧ Int.tmod (wrap64 a) 8 ≤ 7 := by
    rw [r64 (by omega) (by omega), Int.tmod_eq_emod_of_nonneg (by omega)]
    omega
  obtain ⟨b, hb, hbt⟩ := may28 x.f0 x.f1 x.f2 y.f0 y.f1 y.f2
  refine ⟨2000, ?_⟩
  unfold ambidexterlaw28_BrakingCategoryZero.f
  rw [head28 (Nat.le_refl _), hb]
  simp only [Option.bind_some]
  cases b with
  | false => rfl
  | true =>
    obtain ⟨v0, v1, hM, p0, p1⟩ := hbt rfl
    have hs : braking_StopMotion.f 2000 x.f0 x.f1 x.f2 y.f0 y.f1 y.f2 0 = some ((stopL x.f1 x.f2 ⟨y.f0, y.f1, y.f2⟩ 0).map st28) := stop_ok hM x.f0 0 (by omega)
    rw [if_pos rfl, hs]
    simp only [Option.bind_some]
    have hv := hM.2.1
    have hv' := hM.2.2.1
    dsimp only at hv hv'
    obtain ⟨T, hT⟩ : ∃ T, T = stopL x.f1 x.f2 ⟨y.f0, y.f1, y.f2⟩ 0 := ⟨_, rfl⟩
    rw [← hT]
    have hlen : T.length ≤ 2 ∧ ∀ (i : Nat) (hi : i < T.length), T[i].a = 0 ∧ 0 ≤ T[i].v * y.f1 ∧ (-4 ≤ T[i].v ∧ T[i].v ≤ 4) ∧ ∀ w, (i = 0 → w = y.f1) → (∀ j (hj : j < T.length), i = j + 1 → w = T[j].v) → (0 ≤ T[i].v → T[i].v ≤ w ∨ T[i].v = 0) ∧ (T[i].v ≤ 0 → w ≤ T[i].v ∨ T[i].v = 0) := by
      by_cases hr : y.f1 = 0 ∧ y.f2 = 0
      · have e : T = [] := by rw [hT]; unfold stopL; rw [if_pos hr]
        rw [e]
        exact ⟨by simp, fun i hi => by simp at hi⟩
      · have e : T = brk ⟨y.f0, y.f1, y.f2⟩ := by rw [hT]; unfold stopL; rw [if_neg hr, if_neg (by omega), if_pos rfl]
        rw [e]
        obtain ⟨q1, q2, q3⟩ := less28_in ⟨hv, hv'⟩
        have q4 : 0 ≤ less28 y.f1 * y.f1 ∧ (0 ≤ less28 y.f1 → less28 y.f1 ≤ y.f1 ∨ less28 y.f1 = 0) ∧ (less28 y.f1 ≤ 0 → y.f1 ≤ less28 y.f1 ∨ less28 y.f1 = 0) := by
          unfold less28
          by_cases c1 : y.f1 > 4
          · rw [if_pos c1]
            exact ⟨Int.mul_nonneg (by omega) (by omega), fun _ => by omega, fun _ => by omega⟩
          · rw [if_neg c1]
            by_cases c2 : y.f1 < -4
            · rw [if_pos c2]
              exact ⟨Int.mul_nonneg_of_nonpos_of_nonpos (by omega) (by omega), fun _ => by omega, fun _ => by omega⟩
            · rw [if_neg c2]
              exact ⟨by simp, fun _ => .inr rfl, fun _ => .inr rfl⟩
        unfold brk
        dsimp only
        by_cases c1 : less28 y.f1 = 0
        · rw [if_pos c1]
          refine ⟨by simp, fun i hi => ?_⟩
          have hi0 : i = 0 := by simpa using hi
          subst hi0
          exact ⟨rfl, by simp, by simp, fun w _ _ => ⟨fun _ => .inr rfl, fun _ => .inr rfl⟩⟩
        · rw [if_neg c1]
          refine ⟨by simp, fun i hi => ?_⟩
          have hi2 : i = 0 ∨ i = 1 := by have : i < 2 := hi; omega
          rcases hi2 with rfl | rfl
          · refine ⟨rfl, q4.1, ⟨q1, q2⟩, fun w hw _ => ?_⟩
            rw [hw rfl]
            exact q4.2
          · exact ⟨rfl, by simp, by simp, fun w _ _ => ⟨fun _ => .inr rfl, fun _ => .inr rfl⟩⟩
    have hl := zero_l0 (V := x.f0) (A := x.f1) (J := x.f2) (a2 := a) (m := ⟨y.f0, y.f1, y.f2⟩) hM.1 h8 ⟨hv, hv'⟩ hlen.1 hlen.2 T.length 0 y.f1 (Nat.zero_add _) (fun _ => rfl) (fun j hj e => by omega) ⟨hv, hv'⟩
    exact at_rounds (fun k' => ambidexterlaw28_BrakingCategoryZero.mono_l k' _ _ _ _ _ _ _ _ _ _ _) (by have := hlen.1; omega) hl
end Go.Proofs.Ytjcefdockfbnaaa.Pure
