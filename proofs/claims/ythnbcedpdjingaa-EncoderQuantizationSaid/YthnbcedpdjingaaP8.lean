-- Written by this session's own program, for this seat. Lean checks it.
import Derived.Test.YthnbcedpdjingaaP0
import Derived.Test.YthnbcedpdjingaaP3
namespace Go.Proofs.Ythnbcedpdjingaa.P
open Go.RowKit Go.Proofs.YthnbcedpdjingaaW.PrintWords Go.Proofs.YthnbcedpdjingaaW.PrintLast Go.Proofs.YthnbcedpdjingaaW.PrintMore
attribute [local go_sem] max2_int min2_int max_two min_two max_three min_three max_four min_four   -- for this text's walks alone
set_option linter.unusedVariables false
set_option linter.unusedSimpArgs false

/-! ### ambidexterlaw24_EncoderQuantization: function 7 -/
def ambidexterlaw24_EncoderQuantization.j0 : Nat → Int → Int → Bool → Bool → Option (Bool)
  | 0, _, _, _, _ => none
  | k + 1, x0, x1, x5, x14 => if x14 = true then (some x5) else ((encoder_Quantize.f x0).bind fun t230 => ((encoder_Quantize.f (wrap64 (x0 + (wrap64 (x1))))).bind fun t231 => (if x5 = true then (if (wrap64 (16 * t230)) ≤ x0 then (if x0 < (wrap64 ((wrap64 (16 * t230)) + 16)) then ((encoder_Quantize.f (wrap64 (x0 + 16))).bind fun t232 => (if t232 = (wrap64 (t230 + 1)) then ((encoder_Quantize.f (wrap64 (x0 - 16))).bind fun t233 => (if t233 = (wrap64 (t230 - 1)) then ((encoder_Quantize.f (wrap64 (16 * t230))).bind fun t234 => (if t234 = t230 then ((encoder_Quantize.f (wrap64 ((wrap64 (16 * t230)) + 15))).bind fun t235 => (if t235 = t230 then (if t231 ≥ t230 then (some (decide ((wrap64 (t231 - t230)) ≤ (wrap64 ((wrap64 (Int.tdiv (wrap64 (x1)) 16)) + 1))))) else (some false)) else (some false))) else (some false))) else (some false))) else (some false))) else (some false)) else (some false)) else (some false))))
def ambidexterlaw24_EncoderQuantization.f (k : Nat) (a0 : Int) (a1 : Int) : Option (Bool) := (ambidexterlaw24_head.f).bind fun t229 => (if a0 < (-549755813888) then (ambidexterlaw24_EncoderQuantization.j0 k a0 a1 t229 true) else (ambidexterlaw24_EncoderQuantization.j0 k a0 a1 t229 (decide (a0 > 549755813888))))
theorem ambidexterlaw24_EncoderQuantization.mono_l : ∀ k, (∀ y0 y1 y2 y3, LeO (ambidexterlaw24_EncoderQuantization.j0 k y0 y1 y2 y3) (ambidexterlaw24_EncoderQuantization.j0 (k + 1) y0 y1 y2 y3))
  | 0 => fun _ _ _ _ r h => by simp [ambidexterlaw24_EncoderQuantization.j0] at h
  | k + 1 => by
    have ih0 := ambidexterlaw24_EncoderQuantization.mono_l k
    · intro y0 y1 y2 y3
      unfold ambidexterlaw24_EncoderQuantization.j0
      repeat' first
      | (with_reducible exact ih0 _ _ _ _)
      | (with_reducible exact LeO.refl _)
      | (with_reducible exact LeO.none _)
      | (with_reducible refine LeO.ite ?_ ?_)
      | (with_reducible refine LeO.bind ?_ (fun _ => ?_))
      | exact ih0 _ _ _ _
      | exact LeO.none _
      | refine LeO.ite ?_ ?_
      | refine LeO.bind ?_ (fun _ => ?_)
theorem ambidexterlaw24_EncoderQuantization.mono : ∀ a0 a1 k, LeO (ambidexterlaw24_EncoderQuantization.f k a0 a1) (ambidexterlaw24_EncoderQuantization.f (k + 1) a0 a1) := by
  intro a0 a1 k
  have ih0 := ambidexterlaw24_EncoderQuantization.mono_l k
  unfold ambidexterlaw24_EncoderQuantization.f
  repeat' first
      | (with_reducible exact ih0 _ _ _ _)
      | (with_reducible exact LeO.refl _)
      | (with_reducible exact LeO.none _)
      | (with_reducible refine LeO.ite ?_ ?_)
      | (with_reducible refine LeO.bind ?_ (fun _ => ?_))
      | exact ih0 _ _ _ _
      | exact LeO.none _
      | refine LeO.ite ?_ ?_
      | refine LeO.bind ?_ (fun _ => ?_)
set_option maxHeartbeats 8000000 in
set_option maxRecDepth 100000 in
theorem ambidexterlaw24_EncoderQuantization.calls0 (k : Nat) (a0 : Int) (a1 : Int) (r : Bool) (w : World) (h : ambidexterlaw24_EncoderQuantization.f k a0 a1 = some r) (hT : r = true) :
    Calls Try.prog 7 #[.int .i64 a0, .int .u16 a1] w fun e w' => e = .returned (.bool r) ∧ Below w.heap.size w w' := by
  have HB := Aside0.mk (Below.refl w.heap.size w)
  have H : ((ambidexterlaw24_head.f).bind fun t229 => (if a0 < (-549755813888) then (ambidexterlaw24_EncoderQuantization.j0 k a0 a1 t229 true) else (ambidexterlaw24_EncoderQuantization.j0 k a0 a1 t229 (decide (a0 > 549755813888))))) = some r := h
  clear h
  have HT := Aside0.mk hT
  clear hT
  replace H := Option.bind_eq_some_iff.mp H
  obtain ⟨t229, A30, H⟩ := H
  obtain rfl := ambidexterlaw24_head.is_true A30
  replace H : (if a0 < (-549755813888) then (ambidexterlaw24_EncoderQuantization.j0 k a0 a1 true true) else (ambidexterlaw24_EncoderQuantization.j0 k a0 a1 true (decide (a0 > 549755813888)))) = some r := H
  have A3 := Aside0.mk A30
  clear A30
  have HC4 := Aside0.mk H
  clear H
  go_enter Try.func7, Try.ntmps7
  go_upto_region 2 with (first | ((with_reducible refine gate_callee (f := 15) rfl ?_); refine goesL_ (some 8) rfl rfl Try.func15 (by kernel_rfl) rfl #[] rfl (by (try simp only [List.map_toArray, List.map_cons, List.map_nil]); first | done | rfl | (simp only [List.length_drop, List.length_take]; rfl)) ?_; (with_reducible refine (ambidexterlaw24_head.calls  true _ A3.out).mono ?_); rintro e w5 ⟨rfl, hb⟩; refine ⟨_, rfl, ?_⟩; have n0_ := Aside0.mk (below_step (by repeat (first | (with_reducible first | exact HB.out | apply below_alloc | apply pw_below_drewN | apply below_drew1) | exact HB.out)) hb); clear HB; have HB := n0_; clear n0_; (try clear hb); (try clear hb2); (try clear hk); (try clear hi)))
  (try simp only [Act.put, List.setIfInBounds_toArray, List.set_cons_zero, List.set_cons_succ])
  go_cut [14] (fun v14 wc => ∃ (kq : Nat) (x14_3 : Bool), v14 = .bool x14_3 ∧ Aside0 (ambidexterlaw24_EncoderQuantization.j0 kq a0 a1 true x14_3 = some r) ∧ Aside0 (kq ≤ k) ∧ Aside0 (Below w.heap.size w wc))
  case first =>
    have H := HC4.out
    clear HC4
    by_cases c6 : a0 < (-549755813888)
    · rw [if_pos c6] at H
      have c6b0 : decide (a0 < (-549755813888)) = true := decide_eq_true c6
      clear c6
      (first | rw [c6b0] | (simp only [i64_w, i32_w]; rw [c6b0]) | skip)
      have H' := Aside0.mk H
      clear H
      go_wp2
      go_meet
      case rel => exact ⟨_, (true), (by first | rfl | (simp; done) | (simp [*]; done)), H', ⟨by first | omega | exact Nat.le_refl _⟩, ⟨by repeat (first | (with_reducible first | exact HB.out | apply below_alloc | apply pw_below_drewN | apply below_drew1) | exact HB.out)⟩⟩
    · rw [if_neg c6] at H
      have c6b0 : decide (a0 < (-549755813888)) = false := decide_eq_false c6
      clear c6
      (first | rw [c6b0] | (simp only [i64_w, i32_w]; rw [c6b0]) | skip)
      have H' := Aside0.mk H
      clear H
      go_wp2
      go_meet
      case rel => exact ⟨_, (decide (a0 > 549755813888)), (by first | rfl | (simp; done) | (simp [*]; done)), H', ⟨by first | omega | exact Nat.le_refl _⟩, ⟨by repeat (first | (with_reducible first | exact HB.out | apply below_alloc | apply pw_below_drewN | apply below_drew1) | exact HB.out)⟩⟩
  case rest =>
    clear HC4
    try clear c1
    try clear p2
    try clear c6
    try clear c6b0
    obtain ⟨kq, x14_3, rfl, HA, HJ3, HB⟩ := hcut
    cases kq with
    | zero => exact absurd HA.out (by simp [ambidexterlaw24_EncoderQuantization.j0])
    | succ kj3 =>
      have H := HA.out
      clear HA
      simp only [ambidexterlaw24_EncoderQuantization.j0] at H
      by_cases c7 : x14_3 = true
      · subst c7
        have H1 : (some true) = some r := by rw [if_pos rfl] at H; exact H
        clear H
        have H := H1
        clear H1
        obtain rfl := Option.some.inj H
        go_wp2
        go_ret
        exact ⟨by first | rfl | (simp [errW_none, errW_some] <;> rfl) | (simp [*, errW_none, errW_some] <;> rfl), by repeat (first | (with_reducible first | exact HB.out | apply below_alloc | apply pw_below_drewN | apply below_drew1) | exact HB.out)⟩
      · replace c7 := Bool.eq_false_iff.mpr c7
        subst c7
        have H1 : ((encoder_Quantize.f a0).bind fun t230 => ((encoder_Quantize.f (wrap64 (a0 + (wrap64 (a1))))).bind fun t231 => (if true = true then (if (wrap64 (16 * t230)) ≤ a0 then (if a0 < (wrap64 ((wrap64 (16 * t230)) + 16)) then ((encoder_Quantize.f (wrap64 (a0 + 16))).bind fun t232 => (if t232 = (wrap64 (t230 + 1)) then ((encoder_Quantize.f (wrap64 (a0 - 16))).bind fun t233 => (if t233 = (wrap64 (t230 - 1)) then ((encoder_Quantize.f (wrap64 (16 * t230))).bind fun t234 => (if t234 = t230 then ((encoder_Quantize.f (wrap64 ((wrap64 (16 * t230)) + 15))).bind fun t235 => (if t235 = t230 then (if t231 ≥ t230 then (some (decide ((wrap64 (t231 - t230)) ≤ (wrap64 ((wrap64 (Int.tdiv (wrap64 (a1)) 16)) + 1))))) else (some false)) else (some false))) else (some false))) else (some false))) else (some false))) else (some false)) else (some false)) else (some false)))) = some r := by rw [if_neg (show ¬ (false = true) by decide)] at H; exact H
        clear H
        have H := H1
        clear H1
        replace H := Option.bind_eq_some_iff.mp H
        obtain ⟨t230, A80, H⟩ := H
        replace H : ((encoder_Quantize.f (wrap64 (a0 + (wrap64 (a1))))).bind fun t231 => (if true = true then (if (wrap64 (16 * t230)) ≤ a0 then (if a0 < (wrap64 ((wrap64 (16 * t230)) + 16)) then ((encoder_Quantize.f (wrap64 (a0 + 16))).bind fun t232 => (if t232 = (wrap64 (t230 + 1)) then ((encoder_Quantize.f (wrap64 (a0 - 16))).bind fun t233 => (if t233 = (wrap64 (t230 - 1)) then ((encoder_Quantize.f (wrap64 (16 * t230))).bind fun t234 => (if t234 = t230 then ((encoder_Quantize.f (wrap64 ((wrap64 (16 * t230)) + 15))).bind fun t235 => (if t235 = t230 then (if t231 ≥ t230 then (some (decide ((wrap64 (t231 - t230)) ≤ (wrap64 ((wrap64 (Int.tdiv (wrap64 (a1)) 16)) + 1))))) else (some false)) else (some false))) else (some false))) else (some false))) else (some false))) else (some false)) else (some false)) else (some false))) = some r := H
        have A8 := Aside0.mk A80
        clear A80
        replace H := Option.bind_eq_some_iff.mp H
        obtain ⟨t231, A90, H⟩ := H
        replace H : (if true = true then (if (wrap64 (16 * t230)) ≤ a0 then (if a0 < (wrap64 ((wrap64 (16 * t230)) + 16)) then ((encoder_Quantize.f (wrap64 (a0 + 16))).bind fun t232 => (if t232 = (wrap64 (t230 + 1)) then ((encoder_Quantize.f (wrap64 (a0 - 16))).bind fun t233 => (if t233 = (wrap64 (t230 - 1)) then ((encoder_Quantize.f (wrap64 (16 * t230))).bind fun t234 => (if t234 = t230 then ((encoder_Quantize.f (wrap64 ((wrap64 (16 * t230)) + 15))).bind fun t235 => (if t235 = t230 then (if t231 ≥ t230 then (some (decide ((wrap64 (t231 - t230)) ≤ (wrap64 ((wrap64 (Int.tdiv (wrap64 (a1)) 16)) + 1))))) else (some false)) else (some false))) else (some false))) else (some false))) else (some false))) else (some false)) else (some false)) else (some false)) = some r := H
        have A9 := Aside0.mk A90
        clear A90
        have H1 : (if (wrap64 (16 * t230)) ≤ a0 then (if a0 < (wrap64 ((wrap64 (16 * t230)) + 16)) then ((encoder_Quantize.f (wrap64 (a0 + 16))).bind fun t232 => (if t232 = (wrap64 (t230 + 1)) then ((encoder_Quantize.f (wrap64 (a0 - 16))).bind fun t233 => (if t233 = (wrap64 (t230 - 1)) then ((encoder_Quantize.f (wrap64 (16 * t230))).bind fun t234 => (if t234 = t230 then ((encoder_Quantize.f (wrap64 ((wrap64 (16 * t230)) + 15))).bind fun t235 => (if t235 = t230 then (if t231 ≥ t230 then (some (decide ((wrap64 (t231 - t230)) ≤ (wrap64 ((wrap64 (Int.tdiv (wrap64 (a1)) 16)) + 1))))) else (some false)) else (some false))) else (some false))) else (some false))) else (some false))) else (some false)) else (some false)) = some r := by first | (rw [if_pos rfl] at H; exact H) | (rw [if_pos True.intro] at H; exact H)
        clear H
        have H := H1
        clear H1
        by_cases c10 : (wrap64 (16 * t230)) ≤ a0
        · rw [if_pos c10] at H
          have c10b0 : decide ((wrap64 (16 * t230)) ≤ a0) = true := decide_eq_true c10
          clear c10
          by_cases c11 : a0 < (wrap64 ((wrap64 (16 * t230)) + 16))
          · rw [if_pos c11] at H
            have c11b0 : decide (a0 < (wrap64 ((wrap64 (16 * t230)) + 16))) = true := decide_eq_true c11
            clear c11
            replace H := Option.bind_eq_some_iff.mp H
            obtain ⟨t232, A120, H⟩ := H
            replace H : (if t232 = (wrap64 (t230 + 1)) then ((encoder_Quantize.f (wrap64 (a0 - 16))).bind fun t233 => (if t233 = (wrap64 (t230 - 1)) then ((encoder_Quantize.f (wrap64 (16 * t230))).bind fun t234 => (if t234 = t230 then ((encoder_Quantize.f (wrap64 ((wrap64 (16 * t230)) + 15))).bind fun t235 => (if t235 = t230 then (if t231 ≥ t230 then (some (decide ((wrap64 (t231 - t230)) ≤ (wrap64 ((wrap64 (Int.tdiv (wrap64 (a1)) 16)) + 1))))) else (some false)) else (some false))) else (some false))) else (some false))) else (some false)) = some r := H
            have A12 := Aside0.mk A120
            clear A120
            by_cases c13 : t232 = (wrap64 (t230 + 1))
            · rw [if_pos c13] at H
              have c13b0 : (t232 == (wrap64 (t230 + 1))) = true := beq_iff_eq.mpr c13
              have c13b1 : (t232 != (wrap64 (t230 + 1))) = false := bne_eq_false_iff_eq.mpr c13
              clear c13
              replace H := Option.bind_eq_some_iff.mp H
              obtain ⟨t233, A140, H⟩ := H
              replace H : (if t233 = (wrap64 (t230 - 1)) then ((encoder_Quantize.f (wrap64 (16 * t230))).bind fun t234 => (if t234 = t230 then ((encoder_Quantize.f (wrap64 ((wrap64 (16 * t230)) + 15))).bind fun t235 => (if t235 = t230 then (if t231 ≥ t230 then (some (decide ((wrap64 (t231 - t230)) ≤ (wrap64 ((wrap64 (Int.tdiv (wrap64 (a1)) 16)) + 1))))) else (some false)) else (some false))) else (some false))) else (some false)) = some r := H
              have A14 := Aside0.mk A140
              clear A140
              by_cases c15 : t233 = (wrap64 (t230 - 1))
              · rw [if_pos c15] at H
                have c15b0 : (t233 == (wrap64 (t230 - 1))) = true := beq_iff_eq.mpr c15
                have c15b1 : (t233 != (wrap64 (t230 - 1))) = false := bne_eq_false_iff_eq.mpr c15
                clear c15
                replace H := Option.bind_eq_some_iff.mp H
                obtain ⟨t234, A160, H⟩ := H
                replace H : (if t234 = t230 then ((encoder_Quantize.f (wrap64 ((wrap64 (16 * t230)) + 15))).bind fun t235 => (if t235 = t230 then (if t231 ≥ t230 then (some (decide ((wrap64 (t231 - t230)) ≤ (wrap64 ((wrap64 (Int.tdiv (wrap64 (a1)) 16)) + 1))))) else (some false)) else (some false))) else (some false)) = some r := H
                have A16 := Aside0.mk A160
                clear A160
                by_cases c17 : t234 = t230
                · rw [if_pos c17] at H
                  have c17b0 : (t234 == t230) = true := beq_iff_eq.mpr c17
                  have c17b1 : (t234 != t230) = false := bne_eq_false_iff_eq.mpr c17
                  clear c17
                  replace H := Option.bind_eq_some_iff.mp H
                  obtain ⟨t235, A180, H⟩ := H
                  replace H : (if t235 = t230 then (if t231 ≥ t230 then (some (decide ((wrap64 (t231 - t230)) ≤ (wrap64 ((wrap64 (Int.tdiv (wrap64 (a1)) 16)) + 1))))) else (some false)) else (some false)) = some r := H
                  have A18 := Aside0.mk A180
                  clear A180
                  by_cases c19 : t235 = t230
                  · rw [if_pos c19] at H
                    have c19b0 : (t235 == t230) = true := beq_iff_eq.mpr c19
                    have c19b1 : (t235 != t230) = false := bne_eq_false_iff_eq.mpr c19
                    clear c19
                    by_cases c20 : t231 ≥ t230
                    · rw [if_pos c20] at H
                      have c20b0 : decide (t230 ≤ t231) = true := decide_eq_true c20
                      clear c20
                      obtain rfl := Option.some.inj H
                      go_wp2_with (first | ((with_reducible refine gate_callee (f := 17) rfl ?_); refine goesL_ (some 17) rfl rfl Try.func17 (by kernel_rfl) rfl #[.int .i64 a0] rfl (by (try simp only [List.map_toArray, List.map_cons, List.map_nil]); first | done | rfl | (simp only [List.length_drop, List.length_take]; rfl)) ?_; (with_reducible refine (encoder_Quantize.calls a0 t230 _ A8.out).mono ?_); rintro e w' ⟨rfl, ⟨nd, rfl⟩⟩; refine ⟨_, rfl, ?_⟩) | ((with_reducible refine gate_callee (f := 17) rfl ?_); refine goesL_ (some 22) rfl rfl Try.func17 (by kernel_rfl) rfl #[.int .i64 (wrap64 (a0 + (wrap64 (a1))))] rfl (by (try simp only [List.map_toArray, List.map_cons, List.map_nil]); first | done | rfl | (simp only [List.length_drop, List.length_take]; rfl)) ?_; (with_reducible refine (encoder_Quantize.calls (wrap64 (a0 + (wrap64 (a1)))) t231 _ A9.out).mono ?_); rintro e w' ⟨rfl, ⟨nd, rfl⟩⟩; refine ⟨_, rfl, ?_⟩) | (go_at_call 17; (with_reducible refine (encoder_Quantize.calls (wrap64 (a0 + 16)) t232 _ A12.out).mono ?_); rintro e w' ⟨rfl, ⟨nd, rfl⟩⟩) | (go_at_call 17; (with_reducible refine (encoder_Quantize.calls (wrap64 (a0 - 16)) t233 _ A14.out).mono ?_); rintro e w' ⟨rfl, ⟨nd, rfl⟩⟩) | (go_at_call 17; (with_reducible refine (encoder_Quantize.calls (wrap64 (16 * t230)) t234 _ A16.out).mono ?_); rintro e w' ⟨rfl, ⟨nd, rfl⟩⟩) | (go_at_call 17; (with_reducible refine (encoder_Quantize.calls (wrap64 ((wrap64 (16 * t230)) + 15)) t235 _ A18.out).mono ?_); rintro e w' ⟨rfl, ⟨nd, rfl⟩⟩))
                      go_ret
                      exact ⟨by first | rfl | (simp [errW_none, errW_some] <;> rfl) | (simp [*, errW_none, errW_some] <;> rfl), by repeat (first | (with_reducible first | exact HB.out | apply below_alloc | apply pw_below_drewN | apply below_drew1) | exact HB.out)⟩
                    · rw [if_neg c20] at H
                      have c20b0 : decide (t230 ≤ t231) = false := decide_eq_false c20
                      clear c20
                      exact absurd HT.out (by rw [← Option.some.inj H]; decide)
                  · rw [if_neg c19] at H
                    have c19b0 : (t235 == t230) = false := beq_eq_false_iff_ne.mpr c19
                    have c19b1 : (t235 != t230) = true := bne_iff_ne.mpr c19
                    exact absurd HT.out (by rw [← Option.some.inj H]; decide)
                · rw [if_neg c17] at H
                  have c17b0 : (t234 == t230) = false := beq_eq_false_iff_ne.mpr c17
                  have c17b1 : (t234 != t230) = true := bne_iff_ne.mpr c17
                  exact absurd HT.out (by rw [← Option.some.inj H]; decide)
              · rw [if_neg c15] at H
                have c15b0 : (t233 == (wrap64 (t230 - 1))) = false := beq_eq_false_iff_ne.mpr c15
                have c15b1 : (t233 != (wrap64 (t230 - 1))) = true := bne_iff_ne.mpr c15
                exact absurd HT.out (by rw [← Option.some.inj H]; decide)
            · rw [if_neg c13] at H
              have c13b0 : (t232 == (wrap64 (t230 + 1))) = false := beq_eq_false_iff_ne.mpr c13
              have c13b1 : (t232 != (wrap64 (t230 + 1))) = true := bne_iff_ne.mpr c13
              exact absurd HT.out (by rw [← Option.some.inj H]; decide)
          · rw [if_neg c11] at H
            have c11b0 : decide (a0 < (wrap64 ((wrap64 (16 * t230)) + 16))) = false := decide_eq_false c11
            clear c11
            exact absurd HT.out (by rw [← Option.some.inj H]; decide)
        · rw [if_neg c10] at H
          have c10b0 : decide ((wrap64 (16 * t230)) ≤ a0) = false := decide_eq_false c10
          clear c10
          exact absurd HT.out (by rw [← Option.some.inj H]; decide)

end Go.Proofs.Ythnbcedpdjingaa.P
