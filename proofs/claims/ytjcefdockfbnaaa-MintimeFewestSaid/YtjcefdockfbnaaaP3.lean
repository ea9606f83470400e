-- Written by this session's own program, for this seat. Lean checks it.
import Derived.Test.YtjcefdockfbnaaaP0
import Derived.Test.YtjcefdockfbnaaaP2
namespace Go.Proofs.Ytjcefdockfbnaaa.P
open Go.RowKit Go.Proofs.YtjcefdockfbnaaaW.PrintWords Go.Proofs.YtjcefdockfbnaaaW.PrintLast Go.Proofs.YtjcefdockfbnaaaW.PrintMore
attribute [local go_sem] max2_int min2_int max_two min_two max_three min_three max_four min_four   -- for this text's walks alone
set_option linter.unusedVariables false
set_option linter.unusedSimpArgs false

/-! ### ambidexterlaw22_head: function 15 -/
def ambidexterlaw22_head.f (k : Nat)  : Option (Bool) := (mintime_Profile.f k 8 4 2 1).bind fun bt169 => ((mintime_Profile.f k 1 1 1 2).bind fun bt173 => ((mintime_Profile.f k 1 1 1 1).bind fun bt177 => ((mintime_Profile.f k 1 1 1 0).bind fun bt181 => ((mintime_Profile.f k 1 1 3 0).bind fun bt185 => ((mintime_Profile.f k 8 4 2 421).bind fun bt189 => ((mintime_Duration.f k 1 1 1 2).bind fun bt193 => ((ambidexterref22_Same.f k bt169.1 (([1, (-2), 1] : List Int))).bind fun t198 => (if t198 = true then (if bt169.2 = true then ((ambidexterref22_Same.f k bt173.1 (([1, (-1), (-1), 1] : List Int))).bind fun t202 => (if t202 = true then (if bt173.2 = true then (if bt177.2 = true then (some false) else (if (bt181.1.length : Int) = 0 then (if bt181.2 = true then (if bt185.2 = true then (some false) else (if bt189.2 = true then (some false) else (if bt193.1 = 4 then (some bt193.2) else (some false)))) else (some false)) else (some false))) else (some false)) else (some false))) else (some false)) else (some false)))))))))
theorem ambidexterlaw22_head.mono : ∀ k, LeO (ambidexterlaw22_head.f k ) (ambidexterlaw22_head.f (k + 1) ) := by
  intro  k
  unfold ambidexterlaw22_head.f
  repeat' first
      | (with_reducible exact ambidexterref22_Same.mono _ _ _)
      | (with_reducible exact mintime_Duration.mono _ _ _ _ _)
      | (with_reducible exact mintime_Profile.mono _ _ _ _ _)
      | (with_reducible exact LeO.refl _)
      | (with_reducible exact LeO.none _)
      | (with_reducible refine LeO.ite ?_ ?_)
      | (with_reducible refine LeO.bind ?_ (fun _ => ?_))
      | exact ambidexterref22_Same.mono _ _ _
      | exact mintime_Duration.mono _ _ _ _ _
      | exact mintime_Profile.mono _ _ _ _ _
      | exact LeO.none _
      | refine LeO.ite ?_ ?_
      | refine LeO.bind ?_ (fun _ => ?_)
set_option maxHeartbeats 8000000 in
set_option maxRecDepth 100000 in
theorem ambidexterlaw22_head.calls0 (k : Nat)  (r : Bool) (w : World) (h : ambidexterlaw22_head.f k  = some r) (hT : r = true) :
    Calls Try.prog 15 #[] w fun e w' => e = .returned (.bool r) ∧ Below w.heap.size w w' := by
  have hu23 := Try.underlying23
  have HB := Aside0.mk (Below.refl w.heap.size w)
  have H : ((mintime_Profile.f k 8 4 2 1).bind fun bt169 => ((mintime_Profile.f k 1 1 1 2).bind fun bt173 => ((mintime_Profile.f k 1 1 1 1).bind fun bt177 => ((mintime_Profile.f k 1 1 1 0).bind fun bt181 => ((mintime_Profile.f k 1 1 3 0).bind fun bt185 => ((mintime_Profile.f k 8 4 2 421).bind fun bt189 => ((mintime_Duration.f k 1 1 1 2).bind fun bt193 => ((ambidexterref22_Same.f k bt169.1 (([1, (-2), 1] : List Int))).bind fun t198 => (if t198 = true then (if bt169.2 = true then ((ambidexterref22_Same.f k bt173.1 (([1, (-1), (-1), 1] : List Int))).bind fun t202 => (if t202 = true then (if bt173.2 = true then (if bt177.2 = true then (some false) else (if (bt181.1.length : Int) = 0 then (if bt181.2 = true then (if bt185.2 = true then (some false) else (if bt189.2 = true then (some false) else (if bt193.1 = 4 then (some bt193.2) else (some false)))) else (some false)) else (some false))) else (some false)) else (some false))) else (some false)) else (some false)))))))))) = some r := h
  clear h
  have HT := Aside0.mk hT
  clear hT
  replace H := Option.bind_eq_some_iff.mp H
  obtain ⟨⟨t169, t172⟩, A10, H⟩ := H
  replace H : ((mintime_Profile.f k 1 1 1 2).bind fun bt173 => ((mintime_Profile.f k 1 1 1 1).bind fun bt177 => ((mintime_Profile.f k 1 1 1 0).bind fun bt181 => ((mintime_Profile.f k 1 1 3 0).bind fun bt185 => ((mintime_Profile.f k 8 4 2 421).bind fun bt189 => ((mintime_Duration.f k 1 1 1 2).bind fun bt193 => ((ambidexterref22_Same.f k t169 (([1, (-2), 1] : List Int))).bind fun t198 => (if t198 = true then (if t172 = true then ((ambidexterref22_Same.f k bt173.1 (([1, (-1), (-1), 1] : List Int))).bind fun t202 => (if t202 = true then (if bt173.2 = true then (if bt177.2 = true then (some false) else (if (bt181.1.length : Int) = 0 then (if bt181.2 = true then (if bt185.2 = true then (some false) else (if bt189.2 = true then (some false) else (if bt193.1 = 4 then (some bt193.2) else (some false)))) else (some false)) else (some false))) else (some false)) else (some false))) else (some false)) else (some false))))))))) = some r := H
  have A1 := Aside0.mk A10
  clear A10
  replace H := Option.bind_eq_some_iff.mp H
  obtain ⟨⟨t173, t176⟩, A20, H⟩ := H
  replace H : ((mintime_Profile.f k 1 1 1 1).bind fun bt177 => ((mintime_Profile.f k 1 1 1 0).bind fun bt181 => ((mintime_Profile.f k 1 1 3 0).bind fun bt185 => ((mintime_Profile.f k 8 4 2 421).bind fun bt189 => ((mintime_Duration.f k 1 1 1 2).bind fun bt193 => ((ambidexterref22_Same.f k t169 (([1, (-2), 1] : List Int))).bind fun t198 => (if t198 = true then (if t172 = true then ((ambidexterref22_Same.f k t173 (([1, (-1), (-1), 1] : List Int))).bind fun t202 => (if t202 = true then (if t176 = true then (if bt177.2 = true then (some false) else (if (bt181.1.length : Int) = 0 then (if bt181.2 = true then (if bt185.2 = true then (some false) else (if bt189.2 = true then (some false) else (if bt193.1 = 4 then (some bt193.2) else (some false)))) else (some false)) else (some false))) else (some false)) else (some false))) else (some false)) else (some false)))))))) = some r := H
  have A2 := Aside0.mk A20
  clear A20
  replace H := Option.bind_eq_some_iff.mp H
  obtain ⟨⟨t177, t180⟩, A30, H⟩ := H
  replace H : ((mintime_Profile.f k 1 1 1 0).bind fun bt181 => ((mintime_Profile.f k 1 1 3 0).bind fun bt185 => ((mintime_Profile.f k 8 4 2 421).bind fun bt189 => ((mintime_Duration.f k 1 1 1 2).bind fun bt193 => ((ambidexterref22_Same.f k t169 (([1, (-2), 1] : List Int))).bind fun t198 => (if t198 = true then (if t172 = true then ((ambidexterref22_Same.f k t173 (([1, (-1), (-1), 1] : List Int))).bind fun t202 => (if t202 = true then (if t176 = true then (if t180 = true then (some false) else (if (bt181.1.length : Int) = 0 then (if bt181.2 = true then (if bt185.2 = true then (some false) else (if bt189.2 = true then (some false) else (if bt193.1 = 4 then (some bt193.2) else (some false)))) else (some false)) else (some false))) else (some false)) else (some false))) else (some false)) else (some false))))))) = some r := H
  have A3 := Aside0.mk A30
  clear A30
  replace H := Option.bind_eq_some_iff.mp H
  obtain ⟨⟨t181, t184⟩, A40, H⟩ := H
  replace H : ((mintime_Profile.f k 1 1 3 0).bind fun bt185 => ((mintime_Profile.f k 8 4 2 421).bind fun bt189 => ((mintime_Duration.f k 1 1 1 2).bind fun bt193 => ((ambidexterref22_Same.f k t169 (([1, (-2), 1] : List Int))).bind fun t198 => (if t198 = true then (if t172 = true then ((ambidexterref22_Same.f k t173 (([1, (-1), (-1), 1] : List Int))).bind fun t202 => (if t202 = true then (if t176 = true then (if t180 = true then (some false) else (if (t181.length : Int) = 0 then (if t184 = true then (if bt185.2 = true then (some false) else (if bt189.2 = true then (some false) else (if bt193.1 = 4 then (some bt193.2) else (some false)))) else (some false)) else (some false))) else (some false)) else (some false))) else (some false)) else (some false)))))) = some r := H
  have A4 := Aside0.mk A40
  clear A40
  replace H := Option.bind_eq_some_iff.mp H
  obtain ⟨⟨t185, t188⟩, A50, H⟩ := H
  replace H : ((mintime_Profile.f k 8 4 2 421).bind fun bt189 => ((mintime_Duration.f k 1 1 1 2).bind fun bt193 => ((ambidexterref22_Same.f k t169 (([1, (-2), 1] : List Int))).bind fun t198 => (if t198 = true then (if t172 = true then ((ambidexterref22_Same.f k t173 (([1, (-1), (-1), 1] : List Int))).bind fun t202 => (if t202 = true then (if t176 = true then (if t180 = true then (some false) else (if (t181.length : Int) = 0 then (if t184 = true then (if t188 = true then (some false) else (if bt189.2 = true then (some false) else (if bt193.1 = 4 then (some bt193.2) else (some false)))) else (some false)) else (some false))) else (some false)) else (some false))) else (some false)) else (some false))))) = some r := H
  have A5 := Aside0.mk A50
  clear A50
  replace H := Option.bind_eq_some_iff.mp H
  obtain ⟨⟨t189, t192⟩, A60, H⟩ := H
  replace H : ((mintime_Duration.f k 1 1 1 2).bind fun bt193 => ((ambidexterref22_Same.f k t169 (([1, (-2), 1] : List Int))).bind fun t198 => (if t198 = true then (if t172 = true then ((ambidexterref22_Same.f k t173 (([1, (-1), (-1), 1] : List Int))).bind fun t202 => (if t202 = true then (if t176 = true then (if t180 = true then (some false) else (if (t181.length : Int) = 0 then (if t184 = true then (if t188 = true then (some false) else (if t192 = true then (some false) else (if bt193.1 = 4 then (some bt193.2) else (some false)))) else (some false)) else (some false))) else (some false)) else (some false))) else (some false)) else (some false)))) = some r := H
  have A6 := Aside0.mk A60
  clear A60
  replace H := Option.bind_eq_some_iff.mp H
  obtain ⟨⟨t193, t194⟩, A70, H⟩ := H
  replace H : ((ambidexterref22_Same.f k t169 (([1, (-2), 1] : List Int))).bind fun t198 => (if t198 = true then (if t172 = true then ((ambidexterref22_Same.f k t173 (([1, (-1), (-1), 1] : List Int))).bind fun t202 => (if t202 = true then (if t176 = true then (if t180 = true then (some false) else (if (t181.length : Int) = 0 then (if t184 = true then (if t188 = true then (some false) else (if t192 = true then (some false) else (if t193 = 4 then (some t194) else (some false)))) else (some false)) else (some false))) else (some false)) else (some false))) else (some false)) else (some false))) = some r := H
  have A7 := Aside0.mk A70
  clear A70
  obtain ⟨y195, hy195⟩ : ∃ y_ : List Int, y_ = (([1, (-2), 1] : List Int)) := ⟨_, rfl⟩
  replace H : ((ambidexterref22_Same.f k t169 y195).bind fun t198 => (if t198 = true then (if t172 = true then ((ambidexterref22_Same.f k t173 (([1, (-1), (-1), 1] : List Int))).bind fun t202 => (if t202 = true then (if t176 = true then (if t180 = true then (some false) else (if (t181.length : Int) = 0 then (if t184 = true then (if t188 = true then (some false) else (if t192 = true then (some false) else (if t193 = 4 then (some t194) else (some false)))) else (some false)) else (some false))) else (some false)) else (some false))) else (some false)) else (some false))) = some r := by first | (rw [hy195]; with_reducible exact H) | (have H2_ := (Option.bind_some _ _).symm.trans H; rw [hy195]; with_reducible exact H2_) | (have H2_ := (Option.bind_some _ _).symm.trans H; with_reducible exact H2_) | with_reducible exact H | (rw [hy195]; exact H) | exact H
  have Ny195 := Aside0.mk hy195
  clear hy195
  replace H := Option.bind_eq_some_iff.mp H
  obtain ⟨t198, A80, H⟩ := H
  replace H : (if t198 = true then (if t172 = true then ((ambidexterref22_Same.f k t173 (([1, (-1), (-1), 1] : List Int))).bind fun t202 => (if t202 = true then (if t176 = true then (if t180 = true then (some false) else (if (t181.length : Int) = 0 then (if t184 = true then (if t188 = true then (some false) else (if t192 = true then (some false) else (if t193 = 4 then (some t194) else (some false)))) else (some false)) else (some false))) else (some false)) else (some false))) else (some false)) else (some false)) = some r := H
  have A8 := Aside0.mk A80
  clear A80
  by_cases c9 : t198 = true
  · subst c9
    have H1 : (if t172 = true then ((ambidexterref22_Same.f k t173 (([1, (-1), (-1), 1] : List Int))).bind fun t202 => (if t202 = true then (if t176 = true then (if t180 = true then (some false) else (if (t181.length : Int) = 0 then (if t184 = true then (if t188 = true then (some false) else (if t192 = true then (some false) else (if t193 = 4 then (some t194) else (some false)))) else (some false)) else (some false))) else (some false)) else (some false))) else (some false)) = some r := by rw [if_pos rfl] at H; exact H
    clear H
    have H := H1
    clear H1
    by_cases c10 : t172 = true
    · subst c10
      have H1 : ((ambidexterref22_Same.f k t173 (([1, (-1), (-1), 1] : List Int))).bind fun t202 => (if t202 = true then (if t176 = true then (if t180 = true then (some false) else (if (t181.length : Int) = 0 then (if t184 = true then (if t188 = true then (some false) else (if t192 = true then (some false) else (if t193 = 4 then (some t194) else (some false)))) else (some false)) else (some false))) else (some false)) else (some false))) = some r := by rw [if_pos rfl] at H; exact H
      clear H
      have H := H1
      clear H1
      obtain ⟨y199, hy199⟩ : ∃ y_ : List Int, y_ = (([1, (-1), (-1), 1] : List Int)) := ⟨_, rfl⟩
      replace H : ((ambidexterref22_Same.f k t173 y199).bind fun t202 => (if t202 = true then (if t176 = true then (if t180 = true then (some false) else (if (t181.length : Int) = 0 then (if t184 = true then (if t188 = true then (some false) else (if t192 = true then (some false) else (if t193 = 4 then (some t194) else (some false)))) else (some false)) else (some false))) else (some false)) else (some false))) = some r := by first | (rw [hy199]; with_reducible exact H) | (have H2_ := (Option.bind_some _ _).symm.trans H; rw [hy199]; with_reducible exact H2_) | (have H2_ := (Option.bind_some _ _).symm.trans H; with_reducible exact H2_) | with_reducible exact H | (rw [hy199]; exact H) | exact H
      have Ny199 := Aside0.mk hy199
      clear hy199
      replace H := Option.bind_eq_some_iff.mp H
      obtain ⟨t202, A110, H⟩ := H
      replace H : (if t202 = true then (if t176 = true then (if t180 = true then (some false) else (if (t181.length : Int) = 0 then (if t184 = true then (if t188 = true then (some false) else (if t192 = true then (some false) else (if t193 = 4 then (some t194) else (some false)))) else (some false)) else (some false))) else (some false)) else (some false)) = some r := H
      have A11 := Aside0.mk A110
      clear A110
      by_cases c12 : t202 = true
      · subst c12
        have H1 : (if t176 = true then (if t180 = true then (some false) else (if (t181.length : Int) = 0 then (if t184 = true then (if t188 = true then (some false) else (if t192 = true then (some false) else (if t193 = 4 then (some t194) else (some false)))) else (some false)) else (some false))) else (some false)) = some r := by rw [if_pos rfl] at H; exact H
        clear H
        have H := H1
        clear H1
        by_cases c13 : t176 = true
        · subst c13
          have H1 : (if t180 = true then (some false) else (if (t181.length : Int) = 0 then (if t184 = true then (if t188 = true then (some false) else (if t192 = true then (some false) else (if t193 = 4 then (some t194) else (some false)))) else (some false)) else (some false))) = some r := by rw [if_pos rfl] at H; exact H
          clear H
          have H := H1
          clear H1
          by_cases c14 : t180 = true
          · subst c14
            have H1 : (some false) = some r := by rw [if_pos rfl] at H; exact H
            clear H
            have H := H1
            clear H1
            exact absurd HT.out (by rw [← Option.some.inj H]; decide)
          · replace c14 := Bool.eq_false_iff.mpr c14
            subst c14
            have H1 : (if (t181.length : Int) = 0 then (if t184 = true then (if t188 = true then (some false) else (if t192 = true then (some false) else (if t193 = 4 then (some t194) else (some false)))) else (some false)) else (some false)) = some r := by rw [if_neg (show ¬ (false = true) by decide)] at H; exact H
            clear H
            have H := H1
            clear H1
            by_cases c15 : (t181.length : Int) = 0
            · rw [if_pos c15] at H
              have c15b0 : ((t181.length : Int) == 0) = true := beq_iff_eq.mpr c15
              have c15b1 : ((t181.length : Int) != 0) = false := bne_eq_false_iff_eq.mpr c15
              clear c15
              by_cases c16 : t184 = true
              · subst c16
                have H1 : (if t188 = true then (some false) else (if t192 = true then (some false) else (if t193 = 4 then (some t194) else (some false)))) = some r := by rw [if_pos rfl] at H; exact H
                clear H
                have H := H1
                clear H1
                by_cases c17 : t188 = true
                · subst c17
                  have H1 : (some false) = some r := by rw [if_pos rfl] at H; exact H
                  clear H
                  have H := H1
                  clear H1
                  exact absurd HT.out (by rw [← Option.some.inj H]; decide)
                · replace c17 := Bool.eq_false_iff.mpr c17
                  subst c17
                  have H1 : (if t192 = true then (some false) else (if t193 = 4 then (some t194) else (some false))) = some r := by rw [if_neg (show ¬ (false = true) by decide)] at H; exact H
                  clear H
                  have H := H1
                  clear H1
                  by_cases c18 : t192 = true
                  · subst c18
                    have H1 : (some false) = some r := by rw [if_pos rfl] at H; exact H
                    clear H
                    have H := H1
                    clear H1
                    exact absurd HT.out (by rw [← Option.some.inj H]; decide)
                  · replace c18 := Bool.eq_false_iff.mpr c18
                    subst c18
                    have H1 : (if t193 = 4 then (some t194) else (some false)) = some r := by rw [if_neg (show ¬ (false = true) by decide)] at H; exact H
                    clear H
                    have H := H1
                    clear H1
                    by_cases c19 : t193 = 4
                    · rw [if_pos c19] at H
                      have c19b0 : (t193 == 4) = true := beq_iff_eq.mpr c19
                      have c19b1 : (t193 != 4) = false := bne_eq_false_iff_eq.mpr c19
                      clear c19
                      obtain rfl := Option.some.inj H
                      go_enter Try.func15, Try.ntmps15
                      go_wp2_with (first | ((with_reducible refine gate_callee (f := 16) rfl ?_); refine goesL_ (some 17) rfl rfl Try.func16 (by kernel_rfl) rfl #[.agg #[.int .i64 8, .int .i64 4, .int .i64 2], .int .i64 1] rfl (by (try simp only [List.map_toArray, List.map_cons, List.map_nil]); first | done | rfl | (simp only [List.length_drop, List.length_take]; rfl)) ?_; (with_reducible refine (mintime_Profile.calls k 8 4 2 1 t169 true _ A1.out).mono ?_); rintro e w20 ⟨v170, rfl, ho0, hb⟩; refine ⟨_, rfl, ?_⟩; have n0_ := Aside0.mk (Kd.R_lower ho0 (below_size (by repeat (first | (with_reducible first | exact HB.out | apply below_alloc | apply pw_below_drewN | apply below_drew1) | exact HB.out)))); have n1_ := Aside0.mk (below_step (by repeat (first | (with_reducible first | exact HB.out | apply below_alloc | apply pw_below_drewN | apply below_drew1) | exact HB.out)) hb); clear HB; have HO171 := n0_; have HB := n1_; clear n0_ n1_; (try clear hb); (try clear hb2); (try clear hk); (try clear hi); (try clear ho0)) | ((with_reducible refine gate_callee (f := 16) rfl ?_); refine goesL_ (some 22) rfl rfl Try.func16 (by kernel_rfl) rfl #[.agg #[.int .i64 1, .int .i64 1, .int .i64 1], .int .i64 2] rfl (by (try simp only [List.map_toArray, List.map_cons, List.map_nil]); first | done | rfl | (simp only [List.length_drop, List.length_take]; rfl)) ?_; (with_reducible refine (mintime_Profile.calls k 1 1 1 2 t173 true _ A2.out).mono ?_); rintro e w21 ⟨v174, rfl, ho0, hb⟩; refine ⟨_, rfl, ?_⟩; have n0_ := Aside0.mk (Kd.R_elder' (by (with_reducible repeat (first | apply Kd.R_alloc | apply Kd.R_drewN | apply Kd.R_drew)); exact HO171.out) (Kd.R_base ho0) hb); have n1_ := Aside0.mk (Kd.R_lower (Kd.R_new' ho0 (Kd.R_lt (by (with_reducible repeat (first | apply Kd.R_alloc | apply Kd.R_drewN | apply Kd.R_drew)); exact HO171.out))) (below_size (by repeat (first | (with_reducible first | exact HB.out | apply below_alloc | apply pw_below_drewN | apply below_drew1) | exact HB.out)))); have n2_ := Aside0.mk (below_step (by repeat (first | (with_reducible first | exact HB.out | apply below_alloc | apply pw_below_drewN | apply below_drew1) | exact HB.out)) hb); clear HO171; clear HB; have HO171 := n0_; have HO175 := n1_; have HB := n2_; clear n0_ n1_ n2_; (try clear hb); (try clear hb2); (try clear hk); (try clear hi); (try clear ho0)) | ((with_reducible refine gate_callee (f := 16) rfl ?_); refine goesL_ (some 27) rfl rfl Try.func16 (by kernel_rfl) rfl #[.agg #[.int .i64 1, .int .i64 1, .int .i64 1], .int .i64 1] rfl (by (try simp only [List.map_toArray, List.map_cons, List.map_nil]); first | done | rfl | (simp only [List.length_drop, List.length_take]; rfl)) ?_; (with_reducible refine (mintime_Profile.calls k 1 1 1 1 t177 false _ A3.out).mono ?_); rintro e w22 ⟨v178, rfl, ho0, hb⟩; refine ⟨_, rfl, ?_⟩; have n0_ := Aside0.mk (Kd.R_elder' (by (with_reducible repeat (first | apply Kd.R_alloc | apply Kd.R_drewN | apply Kd.R_drew)); exact HO171.out) (Kd.R_base ho0) hb); have n1_ := Aside0.mk (Kd.R_elder' (by (with_reducible repeat (first | apply Kd.R_alloc | apply Kd.R_drewN | apply Kd.R_drew)); exact HO175.out) (Kd.R_base ho0) hb); have n2_ := Aside0.mk (Kd.R_lower (Kd.R_new' (Kd.R_new' ho0 (Kd.R_lt (by (with_reducible repeat (first | apply Kd.R_alloc | apply Kd.R_drewN | apply Kd.R_drew)); exact HO171.out))) (Kd.R_lt (by (with_reducible repeat (first | apply Kd.R_alloc | apply Kd.R_drewN | apply Kd.R_drew)); exact HO175.out))) (below_size (by repeat (first | (with_reducible first | exact HB.out | apply below_alloc | apply pw_below_drewN | apply below_drew1) | exact HB.out)))); have n3_ := Aside0.mk (below_step (by repeat (first | (with_reducible first | exact HB.out | apply below_alloc | apply pw_below_drewN | apply below_drew1) | exact HB.out)) hb); clear HO171; clear HO175; clear HB; have HO171 := n0_; have HO175 := n1_; have HO179 := n2_; have HB := n3_; clear n0_ n1_ n2_ n3_; (try clear hb); (try clear hb2); (try clear hk); (try clear hi); (try clear ho0)) | ((with_reducible refine gate_callee (f := 16) rfl ?_); refine goesL_ (some 32) rfl rfl Try.func16 (by kernel_rfl) rfl #[.agg #[.int .i64 1, .int .i64 1, .int .i64 1], .int .i64 0] rfl (by (try simp only [List.map_toArray, List.map_cons, List.map_nil]); first | done | rfl | (simp only [List.length_drop, List.length_take]; rfl)) ?_; (with_reducible refine (mintime_Profile.calls k 1 1 1 0 t181 true _ A4.out).mono ?_); rintro e w23 ⟨v182, rfl, ho0, hb⟩; refine ⟨_, rfl, ?_⟩; have n0_ := Aside0.mk (Kd.R_elder' (by (with_reducible repeat (first | apply Kd.R_alloc | apply Kd.R_drewN | apply Kd.R_drew)); exact HO171.out) (Kd.R_base ho0) hb); have n1_ := Aside0.mk (Kd.R_elder' (by (with_reducible repeat (first | apply Kd.R_alloc | apply Kd.R_drewN | apply Kd.R_drew)); exact HO175.out) (Kd.R_base ho0) hb); have n2_ := Aside0.mk (Kd.R_elder' (by (with_reducible repeat (first | apply Kd.R_alloc | apply Kd.R_drewN | apply Kd.R_drew)); exact HO179.out) (Kd.R_base ho0) hb); have n3_ := Aside0.mk (Kd.R_lower (Kd.R_new' (Kd.R_new' (Kd.R_new' ho0 (Kd.R_lt (by (with_reducible repeat (first | apply Kd.R_alloc | apply Kd.R_drewN | apply Kd.R_drew)); exact HO171.out))) (Kd.R_lt (by (with_reducible repeat (first | apply Kd.R_alloc | apply Kd.R_drewN | apply Kd.R_drew)); exact HO175.out))) (Kd.R_lt (by (with_reducible repeat (first | apply Kd.R_alloc | apply Kd.R_drewN | apply Kd.R_drew)); exact HO179.out))) (below_size (by repeat (first | (with_reducible first | exact HB.out | apply below_alloc | apply pw_below_drewN | apply below_drew1) | exact HB.out)))); have n4_ := Aside0.mk (below_step (by repeat (first | (with_reducible first | exact HB.out | apply below_alloc | apply pw_below_drewN | apply below_drew1) | exact HB.out)) hb); clear HO171; clear HO175; clear HO179; clear HB; have HO171 := n0_; have HO175 := n1_; have HO179 := n2_; have HO183 := n3_; have HB := n4_; clear n0_ n1_ n2_ n3_ n4_; (try clear hb); (try clear hb2); (try clear hk); (try clear hi); (try clear ho0)) | ((with_reducible refine gate_callee (f := 16) rfl ?_); refine goesL_ (some 37) rfl rfl Try.func16 (by kernel_rfl) rfl #[.agg #[.int .i64 1, .int .i64 1, .int .i64 3], .int .i64 0] rfl (by (try simp only [List.map_toArray, List.map_cons, List.map_nil]); first | done | rfl | (simp only [List.length_drop, List.length_take]; rfl)) ?_; (with_reducible refine (mintime_Profile.calls k 1 1 3 0 t185 false _ A5.out).mono ?_); rintro e w24 ⟨v186, rfl, ho0, hb⟩; refine ⟨_, rfl, ?_⟩; have n0_ := Aside0.mk (Kd.R_elder' (by (with_reducible repeat (first | apply Kd.R_alloc | apply Kd.R_drewN | apply Kd.R_drew)); exact HO171.out) (Kd.R_base ho0) hb); have n1_ := Aside0.mk (Kd.R_elder' (by (with_reducible repeat (first | apply Kd.R_alloc | apply Kd.R_drewN | apply Kd.R_drew)); exact HO175.out) (Kd.R_base ho0) hb); have n2_ := Aside0.mk (Kd.R_elder' (by (with_reducible repeat (first | apply Kd.R_alloc | apply Kd.R_drewN | apply Kd.R_drew)); exact HO179.out) (Kd.R_base ho0) hb); have n3_ := Aside0.mk (Kd.R_elder' (by (with_reducible repeat (first | apply Kd.R_alloc | apply Kd.R_drewN | apply Kd.R_drew)); exact HO183.out) (Kd.R_base ho0) hb); have n4_ := Aside0.mk (Kd.R_lower (Kd.R_new' (Kd.R_new' (Kd.R_new' (Kd.R_new' ho0 (Kd.R_lt (by (with_reducible repeat (first | apply Kd.R_alloc | apply Kd.R_drewN | apply Kd.R_drew)); exact HO171.out))) (Kd.R_lt (by (with_reducible repeat (first | apply Kd.R_alloc | apply Kd.R_drewN | apply Kd.R_drew)); exact HO175.out))) (Kd.R_lt (by (with_reducible repeat (first | apply Kd.R_alloc | apply Kd.R_drewN | apply Kd.R_drew)); exact HO179.out))) (Kd.R_lt (by (with_reducible repeat (first | apply Kd.R_alloc | apply Kd.R_drewN | apply Kd.R_drew)); exact HO183.out))) (below_size (by repeat (first | (with_reducible first | exact HB.out | apply below_alloc | apply pw_below_drewN | apply below_drew1) | exact HB.out)))); have n5_ := Aside0.mk (below_step (by repeat (first | (with_reducible first | exact HB.out | apply below_alloc | apply pw_below_drewN | apply below_drew1) | exact HB.out)) hb); clear HO171; clear HO175; clear HO179; clear HO183; clear HB; have HO171 := n0_; have HO175 := n1_; have HO179 := n2_; have HO183 := n3_; have HO187 := n4_; have HB := n5_; clear n0_ n1_ n2_ n3_ n4_ n5_; (try clear hb); (try clear hb2); (try clear hk); (try clear hi); (try clear ho0)) | ((with_reducible refine gate_callee (f := 16) rfl ?_); refine goesL_ (some 42) rfl rfl Try.func16 (by kernel_rfl) rfl #[.agg #[.int .i64 8, .int .i64 4, .int .i64 2], .int .i64 421] rfl (by (try simp only [List.map_toArray, List.map_cons, List.map_nil]); first | done | rfl | (simp only [List.length_drop, List.length_take]; rfl)) ?_; (with_reducible refine (mintime_Profile.calls k 8 4 2 421 t189 false _ A6.out).mono ?_); rintro e w25 ⟨v190, rfl, ho0, hb⟩; refine ⟨_, rfl, ?_⟩; have n0_ := Aside0.mk (Kd.R_elder' (by (with_reducible repeat (first | apply Kd.R_alloc | apply Kd.R_drewN | apply Kd.R_drew)); exact HO171.out) (Kd.R_base ho0) hb); have n1_ := Aside0.mk (Kd.R_elder' (by (with_reducible repeat (first | apply Kd.R_alloc | apply Kd.R_drewN | apply Kd.R_drew)); exact HO175.out) (Kd.R_base ho0) hb); have n2_ := Aside0.mk (Kd.R_elder' (by (with_reducible repeat (first | apply Kd.R_alloc | apply Kd.R_drewN | apply Kd.R_drew)); exact HO179.out) (Kd.R_base ho0) hb); have n3_ := Aside0.mk (Kd.R_elder' (by (with_reducible repeat (first | apply Kd.R_alloc | apply Kd.R_drewN | apply Kd.R_drew)); exact HO183.out) (Kd.R_base ho0) hb); have n4_ := Aside0.mk (Kd.R_elder' (by (with_reducible repeat (first | apply Kd.R_alloc | apply Kd.R_drewN | apply Kd.R_drew)); exact HO187.out) (Kd.R_base ho0) hb); have n5_ := Aside0.mk (Kd.R_lower (Kd.R_new' (Kd.R_new' (Kd.R_new' (Kd.R_new' (Kd.R_new' ho0 (Kd.R_lt (by (with_reducible repeat (first | apply Kd.R_alloc | apply Kd.R_drewN | apply Kd.R_drew)); exact HO171.out))) (Kd.R_lt (by (with_reducible repeat (first | apply Kd.R_alloc | apply Kd.R_drewN | apply Kd.R_drew)); exact HO175.out))) (Kd.R_lt (by (with_reducible repeat (first | apply Kd.R_alloc | apply Kd.R_drewN | apply Kd.R_drew)); exact HO179.out))) (Kd.R_lt (by (with_reducible repeat (first | apply Kd.R_alloc | apply Kd.R_drewN | apply Kd.R_drew)); exact HO183.out))) (Kd.R_lt (by (with_reducible repeat (first | apply Kd.R_alloc | apply Kd.R_drewN | apply Kd.R_drew)); exact HO187.out))) (below_size (by repeat (first | (with_reducible first | exact HB.out | apply below_alloc | apply pw_below_drewN | apply below_drew1) | exact HB.out)))); have n6_ := Aside0.mk (below_step (by repeat (first | (with_reducible first | exact HB.out | apply below_alloc | apply pw_below_drewN | apply below_drew1) | exact HB.out)) hb); clear HO171; clear HO175; clear HO179; clear HO183; clear HO187; clear HB; have HO171 := n0_; have HO175 := n1_; have HO179 := n2_; have HO183 := n3_; have HO187 := n4_; have HO191 := n5_; have HB := n6_; clear n0_ n1_ n2_ n3_ n4_ n5_ n6_; (try clear hb); (try clear hb2); (try clear hk); (try clear hi); (try clear ho0)) | ((with_reducible refine gate_callee (f := 18) rfl ?_); refine goesL_ (some 47) rfl rfl Try.func18 (by kernel_rfl) rfl #[.agg #[.int .i64 1, .int .i64 1, .int .i64 1], .int .i64 2] rfl (by (try simp only [List.map_toArray, List.map_cons, List.map_nil]); first | done | rfl | (simp only [List.length_drop, List.length_take]; rfl)) ?_; (with_reducible refine (mintime_Duration.calls k 1 1 1 2 t193 t194 _ A7.out).mono ?_); rintro e w26 ⟨rfl, hb⟩; refine ⟨_, rfl, ?_⟩; have n0_ := Aside0.mk (Kd.R_below (by (with_reducible repeat (first | apply Kd.R_alloc | apply Kd.R_drewN | apply Kd.R_drew)); exact HO171.out) hb); have n1_ := Aside0.mk (Kd.R_below (by (with_reducible repeat (first | apply Kd.R_alloc | apply Kd.R_drewN | apply Kd.R_drew)); exact HO175.out) hb); have n2_ := Aside0.mk (Kd.R_below (by (with_reducible repeat (first | apply Kd.R_alloc | apply Kd.R_drewN | apply Kd.R_drew)); exact HO179.out) hb); have n3_ := Aside0.mk (Kd.R_below (by (with_reducible repeat (first | apply Kd.R_alloc | apply Kd.R_drewN | apply Kd.R_drew)); exact HO183.out) hb); have n4_ := Aside0.mk (Kd.R_below (by (with_reducible repeat (first | apply Kd.R_alloc | apply Kd.R_drewN | apply Kd.R_drew)); exact HO187.out) hb); have n5_ := Aside0.mk (Kd.R_below (by (with_reducible repeat (first | apply Kd.R_alloc | apply Kd.R_drewN | apply Kd.R_drew)); exact HO191.out) hb); have n6_ := Aside0.mk (below_step (by repeat (first | (with_reducible first | exact HB.out | apply below_alloc | apply pw_below_drewN | apply below_drew1) | exact HB.out)) hb); clear HO171; clear HO175; clear HO179; clear HO183; clear HO187; clear HO191; clear HB; have HO171 := n0_; have HO175 := n1_; have HO179 := n2_; have HO183 := n3_; have HO187 := n4_; have HO191 := n5_; have HB := n6_; clear n0_ n1_ n2_ n3_ n4_ n5_ n6_; (try clear hb); (try clear hb2); (try clear hk); (try clear hi)) | ((with_reducible refine gate_dst (N := 51) rfl ?_); (try (refine gate_guard (by rfl) ?_; dsimp only)); refine Kd.R_lit (Kd.int .i64) _ 3 ?hg (N := 51) ?hd (xs := ([1, (-2), 1] : List Int)) (inner := [.int .i64 1, .int .i64 (-2), .int .i64 1]) (ok := fun _ => True) (okp := fun _ => True) ?hr ?hp (fun _ hk => hk) trivial (Below.refl _ _) (Nat.le_refl _) (by simp) ?_; (case hd => rfl); (case hg => rfl); (case hr => first | (go_simp; done) | (go_simp; rfl)); (case hp => exact (Reps.one (show Kd.M (Kd.int .i64) _ _ _ 1 [.int .i64 1] from rfl) (Reps.one (show Kd.M (Kd.int .i64) _ _ _ (-2) [.int .i64 (-2)] from rfl) (Reps.one (show Kd.M (Kd.int .i64) _ _ _ 1 [.int .i64 1] from rfl) (Reps.none _ _))))); intro v196 w27 ho28 hb hg_ hnew_; clear hg_ hnew_; (first | rw [← Ny195.out] at ho28 | (simp only [Int.reduceToNat] at ho28; rw [← Ny195.out] at ho28)); have n0_ := Aside0.mk (Kd.R_elder' (by (with_reducible repeat (first | apply Kd.R_alloc | apply Kd.R_drewN | apply Kd.R_drew)); exact HO171.out) (Kd.R_base ho28) hb); have n1_ := Aside0.mk (Kd.R_elder' (by (with_reducible repeat (first | apply Kd.R_alloc | apply Kd.R_drewN | apply Kd.R_drew)); exact HO175.out) (Kd.R_base ho28) hb); have n2_ := Aside0.mk (Kd.R_elder' (by (with_reducible repeat (first | apply Kd.R_alloc | apply Kd.R_drewN | apply Kd.R_drew)); exact HO179.out) (Kd.R_base ho28) hb); have n3_ := Aside0.mk (Kd.R_elder' (by (with_reducible repeat (first | apply Kd.R_alloc | apply Kd.R_drewN | apply Kd.R_drew)); exact HO183.out) (Kd.R_base ho28) hb); have n4_ := Aside0.mk (Kd.R_elder' (by (with_reducible repeat (first | apply Kd.R_alloc | apply Kd.R_drewN | apply Kd.R_drew)); exact HO187.out) (Kd.R_base ho28) hb); have n5_ := Aside0.mk (Kd.R_elder' (by (with_reducible repeat (first | apply Kd.R_alloc | apply Kd.R_drewN | apply Kd.R_drew)); exact HO191.out) (Kd.R_base ho28) hb); have n6_ := Aside0.mk (Kd.R_lower (Kd.R_new' (Kd.R_new' (Kd.R_new' (Kd.R_new' (Kd.R_new' (Kd.R_new' ho28 (Kd.R_lt (by (with_reducible repeat (first | apply Kd.R_alloc | apply Kd.R_drewN | apply Kd.R_drew)); exact HO171.out))) (Kd.R_lt (by (with_reducible repeat (first | apply Kd.R_alloc | apply Kd.R_drewN | apply Kd.R_drew)); exact HO175.out))) (Kd.R_lt (by (with_reducible repeat (first | apply Kd.R_alloc | apply Kd.R_drewN | apply Kd.R_drew)); exact HO179.out))) (Kd.R_lt (by (with_reducible repeat (first | apply Kd.R_alloc | apply Kd.R_drewN | apply Kd.R_drew)); exact HO183.out))) (Kd.R_lt (by (with_reducible repeat (first | apply Kd.R_alloc | apply Kd.R_drewN | apply Kd.R_drew)); exact HO187.out))) (Kd.R_lt (by (with_reducible repeat (first | apply Kd.R_alloc | apply Kd.R_drewN | apply Kd.R_drew)); exact HO191.out))) (below_size (by repeat (first | (with_reducible first | exact HB.out | apply below_alloc | apply pw_below_drewN | apply below_drew1) | exact HB.out)))); have n7_ := Aside0.mk (below_step (by repeat (first | (with_reducible first | exact HB.out | apply below_alloc | apply pw_below_drewN | apply below_drew1) | exact HB.out)) hb); clear HO171; clear HO175; clear HO179; clear HO183; clear HO187; clear HO191; clear HB; have HO171 := n0_; have HO175 := n1_; have HO179 := n2_; have HO183 := n3_; have HO187 := n4_; have HO191 := n5_; have HO197 := n6_; have HB := n7_; clear n0_ n1_ n2_ n3_ n4_ n5_ n6_ n7_; clear hb ho28; obtain ⟨Ao29, co29, eo29⟩ := Kd.R_slice HO171.out; subst eo29; obtain ⟨Ao30, co30, eo30⟩ := Kd.R_slice HO197.out; subst eo30) | ((with_reducible refine gate_callee (f := 19) rfl ?_); refine goesL_ (some 52) rfl rfl Try.func19 (by kernel_rfl) rfl #[.slice Ao29 t169.length co29, .slice Ao30 y195.length co30] rfl (by (try simp only [List.map_toArray, List.map_cons, List.map_nil]); first | done | rfl | (simp only [List.length_drop, List.length_take]; rfl)) ?_; (with_reducible refine (ambidexterref22_Same.calls k _ _ t169 _ _ y195 true _ ?side1 ?side2 ?side3 ?side4 A8.out).mono ?_); (case side1 => repeat (first | exact (Kd.R_reads' HO171.out).2.2 | (with_reducible refine Kd.C_alloc ?_ _) | (with_reducible refine Kd.C_drewN ?_ _) | (with_reducible refine Kd.C_drew ?_))); (case side2 => exact (Kd.R_reads' HO171.out).2.1); (case side3 => repeat (first | exact (Kd.R_reads' HO197.out).2.2 | (with_reducible refine Kd.C_alloc ?_ _) | (with_reducible refine Kd.C_drewN ?_ _) | (with_reducible refine Kd.C_drew ?_))); (case side4 => exact (Kd.R_reads' HO197.out).2.1); rintro e w' ⟨rfl, ⟨nd, rfl⟩⟩; refine ⟨_, rfl, ?_⟩) | ((with_reducible refine gate_dst (N := 58) rfl ?_); (try (refine gate_guard (by rfl) ?_; dsimp only)); refine Kd.R_lit (Kd.int .i64) _ 3 ?hg (N := 58) ?hd (xs := ([1, (-1), (-1), 1] : List Int)) (inner := [.int .i64 1, .int .i64 (-1), .int .i64 (-1), .int .i64 1]) (ok := fun _ => True) (okp := fun _ => True) ?hr ?hp (fun _ hk => hk) trivial (Below.refl _ _) (Nat.le_refl _) (by simp) ?_; (case hd => rfl); (case hg => rfl); (case hr => first | (go_simp; done) | (go_simp; rfl)); (case hp => exact (Reps.one (show Kd.M (Kd.int .i64) _ _ _ 1 [.int .i64 1] from rfl) (Reps.one (show Kd.M (Kd.int .i64) _ _ _ (-1) [.int .i64 (-1)] from rfl) (Reps.one (show Kd.M (Kd.int .i64) _ _ _ (-1) [.int .i64 (-1)] from rfl) (Reps.one (show Kd.M (Kd.int .i64) _ _ _ 1 [.int .i64 1] from rfl) (Reps.none _ _)))))); intro v200 w31 ho32 hb hg_ hnew_; clear hg_ hnew_; (first | rw [← Ny199.out] at ho32 | (simp only [Int.reduceToNat] at ho32; rw [← Ny199.out] at ho32)); have n0_ := Aside0.mk (Kd.R_elder' (by (with_reducible repeat (first | apply Kd.R_alloc | apply Kd.R_drewN | apply Kd.R_drew)); exact HO171.out) (Kd.R_base ho32) hb); have n1_ := Aside0.mk (Kd.R_elder' (by (with_reducible repeat (first | apply Kd.R_alloc | apply Kd.R_drewN | apply Kd.R_drew)); exact HO175.out) (Kd.R_base ho32) hb); have n2_ := Aside0.mk (Kd.R_elder' (by (with_reducible repeat (first | apply Kd.R_alloc | apply Kd.R_drewN | apply Kd.R_drew)); exact HO179.out) (Kd.R_base ho32) hb); have n3_ := Aside0.mk (Kd.R_elder' (by (with_reducible repeat (first | apply Kd.R_alloc | apply Kd.R_drewN | apply Kd.R_drew)); exact HO183.out) (Kd.R_base ho32) hb); have n4_ := Aside0.mk (Kd.R_elder' (by (with_reducible repeat (first | apply Kd.R_alloc | apply Kd.R_drewN | apply Kd.R_drew)); exact HO187.out) (Kd.R_base ho32) hb); have n5_ := Aside0.mk (Kd.R_elder' (by (with_reducible repeat (first | apply Kd.R_alloc | apply Kd.R_drewN | apply Kd.R_drew)); exact HO191.out) (Kd.R_base ho32) hb); have n6_ := Aside0.mk (Kd.R_elder' (by (with_reducible repeat (first | apply Kd.R_alloc | apply Kd.R_drewN | apply Kd.R_drew)); exact HO197.out) (Kd.R_base ho32) hb); have n7_ := Aside0.mk (Kd.R_lower (Kd.R_new' (Kd.R_new' (Kd.R_new' (Kd.R_new' (Kd.R_new' (Kd.R_new' (Kd.R_new' ho32 (Kd.R_lt (by (with_reducible repeat (first | apply Kd.R_alloc | apply Kd.R_drewN | apply Kd.R_drew)); exact HO171.out))) (Kd.R_lt (by (with_reducible repeat (first | apply Kd.R_alloc | apply Kd.R_drewN | apply Kd.R_drew)); exact HO175.out))) (Kd.R_lt (by (with_reducible repeat (first | apply Kd.R_alloc | apply Kd.R_drewN | apply Kd.R_drew)); exact HO179.out))) (Kd.R_lt (by (with_reducible repeat (first | apply Kd.R_alloc | apply Kd.R_drewN | apply Kd.R_drew)); exact HO183.out))) (Kd.R_lt (by (with_reducible repeat (first | apply Kd.R_alloc | apply Kd.R_drewN | apply Kd.R_drew)); exact HO187.out))) (Kd.R_lt (by (with_reducible repeat (first | apply Kd.R_alloc | apply Kd.R_drewN | apply Kd.R_drew)); exact HO191.out))) (Kd.R_lt (by (with_reducible repeat (first | apply Kd.R_alloc | apply Kd.R_drewN | apply Kd.R_drew)); exact HO197.out))) (below_size (by repeat (first | (with_reducible first | exact HB.out | apply below_alloc | apply pw_below_drewN | apply below_drew1) | exact HB.out)))); have n8_ := Aside0.mk (below_step (by repeat (first | (with_reducible first | exact HB.out | apply below_alloc | apply pw_below_drewN | apply below_drew1) | exact HB.out)) hb); clear HO171; clear HO175; clear HO179; clear HO183; clear HO187; clear HO191; clear HO197; clear HB; have HO171 := n0_; have HO175 := n1_; have HO179 := n2_; have HO183 := n3_; have HO187 := n4_; have HO191 := n5_; have HO197 := n6_; have HO201 := n7_; have HB := n8_; clear n0_ n1_ n2_ n3_ n4_ n5_ n6_ n7_ n8_; clear hb ho32; obtain ⟨Ao33, co33, eo33⟩ := Kd.R_slice HO175.out; subst eo33; obtain ⟨Ao34, co34, eo34⟩ := Kd.R_slice HO201.out; subst eo34) | (go_at_call 19; (with_reducible refine (ambidexterref22_Same.calls k _ _ t173 _ _ y199 true _ ?side1 ?side2 ?side3 ?side4 A11.out).mono ?_); (case side1 => repeat (first | exact (Kd.R_reads' HO175.out).2.2 | (with_reducible refine Kd.C_alloc ?_ _) | (with_reducible refine Kd.C_drewN ?_ _) | (with_reducible refine Kd.C_drew ?_))); (case side2 => exact (Kd.R_reads' HO175.out).2.1); (case side3 => repeat (first | exact (Kd.R_reads' HO201.out).2.2 | (with_reducible refine Kd.C_alloc ?_ _) | (with_reducible refine Kd.C_drewN ?_ _) | (with_reducible refine Kd.C_drew ?_))); (case side4 => exact (Kd.R_reads' HO201.out).2.1); rintro e w' ⟨rfl, ⟨nd, rfl⟩⟩; obtain ⟨Ao35, co35, eo35⟩ := Kd.R_slice HO183.out; subst eo35))
                      go_ret
                      exact ⟨by first | rfl | (simp [errW_none, errW_some] <;> rfl) | (simp [*, errW_none, errW_some] <;> rfl), by repeat (first | (with_reducible first | exact HB.out | apply below_alloc | apply pw_below_drewN | apply below_drew1) | exact HB.out)⟩
                    · rw [if_neg c19] at H
                      have c19b0 : (t193 == 4) = false := beq_eq_false_iff_ne.mpr c19
                      have c19b1 : (t193 != 4) = true := bne_iff_ne.mpr c19
                      exact absurd HT.out (by rw [← Option.some.inj H]; decide)
              · replace c16 := Bool.eq_false_iff.mpr c16
                subst c16
                have H1 : (some false) = some r := by rw [if_neg (show ¬ (false = true) by decide)] at H; exact H
                clear H
                have H := H1
                clear H1
                exact absurd HT.out (by rw [← Option.some.inj H]; decide)
            · rw [if_neg c15] at H
              have c15b0 : ((t181.length : Int) == 0) = false := beq_eq_false_iff_ne.mpr c15
              have c15b1 : ((t181.length : Int) != 0) = true := bne_iff_ne.mpr c15
              have c15b2 : ¬ (t181 = []) := fun h_ => c15 (by rw [h_]; rfl)
              exact absurd HT.out (by rw [← Option.some.inj H]; decide)
        · replace c13 := Bool.eq_false_iff.mpr c13
          subst c13
          have H1 : (some false) = some r := by rw [if_neg (show ¬ (false = true) by decide)] at H; exact H
          clear H
          have H := H1
          clear H1
          exact absurd HT.out (by rw [← Option.some.inj H]; decide)
      · replace c12 := Bool.eq_false_iff.mpr c12
        subst c12
        have H1 : (some false) = some r := by rw [if_neg (show ¬ (false = true) by decide)] at H; exact H
        clear H
        have H := H1
        clear H1
        exact absurd HT.out (by rw [← Option.some.inj H]; decide)
    · replace c10 := Bool.eq_false_iff.mpr c10
      subst c10
      have H1 : (some false) = some r := by rw [if_neg (show ¬ (false = true) by decide)] at H; exact H
      clear H
      have H := H1
      clear H1
      exact absurd HT.out (by rw [← Option.some.inj H]; decide)
  · replace c9 := Bool.eq_false_iff.mpr c9
    subst c9
    have H1 : (some false) = some r := by rw [if_neg (show ¬ (false = true) by decide)] at H; exact H
    clear H
    have H := H1
    clear H1
    exact absurd HT.out (by rw [← Option.some.inj H]; decide)

theorem ambidexterlaw22_head.is_true (k : Nat) {r : Bool} (h : ambidexterlaw22_head.f k = some r) : r = true := by
  have e : ambidexterlaw22_head.f 2000 = some true := by kernel_rfl
  have h1 := at_rounds ambidexterlaw22_head.mono (Nat.le_max_left k 2000) h
  have h2 := at_rounds ambidexterlaw22_head.mono (Nat.le_max_right k 2000) e
  rw [h1] at h2
  exact Option.some.inj h2
theorem ambidexterlaw22_head.calls (k : Nat)  (r : Bool) (w : World) (h : ambidexterlaw22_head.f k  = some r) :
    Calls Try.prog 15 #[] w fun e w' => e = .returned (.bool r) ∧ Below w.heap.size w w' := ambidexterlaw22_head.calls0 k r w h (ambidexterlaw22_head.is_true k h)

end Go.Proofs.Ytjcefdockfbnaaa.P
