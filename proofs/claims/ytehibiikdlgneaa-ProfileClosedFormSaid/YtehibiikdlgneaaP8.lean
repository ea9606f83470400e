-- Written by this session's own program, for this seat. Lean checks it.
import Derived.Test.YtehibiikdlgneaaP0
import Derived.Test.YtehibiikdlgneaaP1
import Derived.Test.YtehibiikdlgneaaP2
namespace Go.Proofs.Ytehibiikdlgneaa.P
open Go.RowKit Go.Proofs.YtehibiikdlgneaaW.PrintWords Go.Proofs.YtehibiikdlgneaaW.PrintLast Go.Proofs.YtehibiikdlgneaaW.PrintMore
attribute [local go_sem] max2_int min2_int max_two min_two max_three min_three max_four min_four   -- for this text's walks alone
set_option linter.unusedVariables false
set_option linter.unusedSimpArgs false

attribute [local go_sem high] eqA29
/-! ### ambidexterlaw21_ProfileClosedForm: function 6 -/
mutual
def ambidexterlaw21_ProfileClosedForm.l0 : Nat → Int → Int → Int → List Int → Bool → Int → Int → Int → Int → Option (Bool)
  | 0, _, _, _, _, _, _, _, _, _ => none
  | k + 1, x0, x1, x2, x3, x9, x10, x11, x12, x13 => if x13 < (x3.length : Int) then (if 0 ≤ x13 then (ambidexterlaw21_ProfileClosedForm.l0 k x0 x1 x2 x3 x9 x10 x11 (wrap64 (x12 + (rd x3 x13))) (wrap64 (x13 + 1))) else (none)) else (ambidexterlaw21_ProfileClosedForm.l1 k x0 x1 x2 x3 x9 x10 x11 x12 0 0 0)
def ambidexterlaw21_ProfileClosedForm.l1 : Nat → Int → Int → Int → List Int → Bool → Int → Int → Int → Int → Int → Int → Option (Bool)
  | 0, _, _, _, _, _, _, _, _, _, _, _ => none
  | k + 1, x0, x1, x2, x3, x9, x10, x11, x12, x14, x15, x16 => if x16 < (x3.length : Int) then (if 0 ≤ (wrap64 ((wrap64 ((x3.length : Int) - 1)) - x16)) then (if (wrap64 ((wrap64 ((x3.length : Int) - 1)) - x16)) < (x3.length : Int) then (ambidexterlaw21_ProfileClosedForm.l1 k x0 x1 x2 x3 x9 (wrap64 ((wrap64 ((wrap64 (x10 + (wrap64 (x1)))) + (wrap64 ((wrap64 (x14 + 1)) * (wrap64 (x2)))))) + (wrap64 ((wrap64 (x15 + (wrap64 (x14 + 1)))) * (rd x3 (wrap64 ((wrap64 ((x3.length : Int) - 1)) - x16))))))) (wrap64 ((wrap64 (x11 + (wrap64 (x2)))) + (wrap64 ((wrap64 (x14 + 1)) * (rd x3 (wrap64 ((wrap64 ((x3.length : Int) - 1)) - x16))))))) x12 (wrap64 (x14 + 1)) (wrap64 (x15 + (wrap64 (x14 + 1)))) (wrap64 (x16 + 1))) else (none)) else (none)) else (if x9 = true then ((ambidexterlaw21_Motion.f x0 x1 x2).bind fun bt281 => ((profile_Final.f bt281.1 bt281.2.1 bt281.2.2 x3).bind fun bt284 => (some (bt284.1 == x10 && (bt284.2.1 == x11 && (bt284.2.2 == x12)))))) else (some false))
end
def ambidexterlaw21_ProfileClosedForm.f (k : Nat) (a0 : Int) (a1 : Int) (a2 : Int) (l3 : List Int) : Option (Bool) := (ambidexterlaw21_head.f k).bind fun t276 => ((ambidexterlaw21_Great.f k l3).bind fun t277 => (if t277 = true then (some t276) else (ambidexterlaw21_ProfileClosedForm.l0 k a0 a1 a2 l3 t276 (wrap64 (a0)) (wrap64 (a1)) (wrap64 (a2)) 0)))
theorem ambidexterlaw21_ProfileClosedForm.mono_l : ∀ k, (∀ y0 y1 y2 y3 y4 y5 y6 y7 y8, LeO (ambidexterlaw21_ProfileClosedForm.l0 k y0 y1 y2 y3 y4 y5 y6 y7 y8) (ambidexterlaw21_ProfileClosedForm.l0 (k + 1) y0 y1 y2 y3 y4 y5 y6 y7 y8)) ∧ (∀ y0 y1 y2 y3 y4 y5 y6 y7 y8 y9 y10, LeO (ambidexterlaw21_ProfileClosedForm.l1 k y0 y1 y2 y3 y4 y5 y6 y7 y8 y9 y10) (ambidexterlaw21_ProfileClosedForm.l1 (k + 1) y0 y1 y2 y3 y4 y5 y6 y7 y8 y9 y10))
  | 0 => ⟨fun _ _ _ _ _ _ _ _ _ r h => by simp [ambidexterlaw21_ProfileClosedForm.l0] at h, fun _ _ _ _ _ _ _ _ _ _ _ r h => by simp [ambidexterlaw21_ProfileClosedForm.l1] at h⟩
  | k + 1 => by
    obtain ⟨ih0, ih1⟩ := ambidexterlaw21_ProfileClosedForm.mono_l k
    refine ⟨?_, ?_⟩
    · intro y0 y1 y2 y3 y4 y5 y6 y7 y8
      unfold ambidexterlaw21_ProfileClosedForm.l0
      repeat' first
      | (with_reducible exact ih0 _ _ _ _ _ _ _ _ _)
      | (with_reducible exact ih1 _ _ _ _ _ _ _ _ _ _ _)
      | (with_reducible exact ambidexterlaw21_Great.mono _ _)
      | (with_reducible exact ambidexterlaw21_head.mono _)
      | (with_reducible exact LeO.refl _)
      | (with_reducible exact LeO.none _)
      | (with_reducible refine LeO.ite ?_ ?_)
      | (with_reducible refine LeO.bind ?_ (fun _ => ?_))
      | exact ih0 _ _ _ _ _ _ _ _ _
      | exact ih1 _ _ _ _ _ _ _ _ _ _ _
      | exact ambidexterlaw21_Great.mono _ _
      | exact ambidexterlaw21_head.mono _
      | exact LeO.none _
      | refine LeO.ite ?_ ?_
      | refine LeO.bind ?_ (fun _ => ?_)
    · intro y0 y1 y2 y3 y4 y5 y6 y7 y8 y9 y10
      unfold ambidexterlaw21_ProfileClosedForm.l1
      repeat' first
      | (with_reducible exact ih0 _ _ _ _ _ _ _ _ _)
      | (with_reducible exact ih1 _ _ _ _ _ _ _ _ _ _ _)
      | (with_reducible exact ambidexterlaw21_Great.mono _ _)
      | (with_reducible exact ambidexterlaw21_head.mono _)
      | (with_reducible exact LeO.refl _)
      | (with_reducible exact LeO.none _)
      | (with_reducible refine LeO.ite ?_ ?_)
      | (with_reducible refine LeO.bind ?_ (fun _ => ?_))
      | exact ih0 _ _ _ _ _ _ _ _ _
      | exact ih1 _ _ _ _ _ _ _ _ _ _ _
      | exact ambidexterlaw21_Great.mono _ _
      | exact ambidexterlaw21_head.mono _
      | exact LeO.none _
      | refine LeO.ite ?_ ?_
      | refine LeO.bind ?_ (fun _ => ?_)
theorem ambidexterlaw21_ProfileClosedForm.mono : ∀ a0 a1 a2 a3 k, LeO (ambidexterlaw21_ProfileClosedForm.f k a0 a1 a2 a3) (ambidexterlaw21_ProfileClosedForm.f (k + 1) a0 a1 a2 a3) := by
  intro a0 a1 a2 a3 k
  obtain ⟨ih0, ih1⟩ := ambidexterlaw21_ProfileClosedForm.mono_l k
  unfold ambidexterlaw21_ProfileClosedForm.f
  repeat' first
      | (with_reducible exact ih0 _ _ _ _ _ _ _ _ _)
      | (with_reducible exact ih1 _ _ _ _ _ _ _ _ _ _ _)
      | (with_reducible exact ambidexterlaw21_Great.mono _ _)
      | (with_reducible exact ambidexterlaw21_head.mono _)
      | (with_reducible exact LeO.refl _)
      | (with_reducible exact LeO.none _)
      | (with_reducible refine LeO.ite ?_ ?_)
      | (with_reducible refine LeO.bind ?_ (fun _ => ?_))
      | exact ih0 _ _ _ _ _ _ _ _ _
      | exact ih1 _ _ _ _ _ _ _ _ _ _ _
      | exact ambidexterlaw21_Great.mono _ _
      | exact ambidexterlaw21_head.mono _
      | exact LeO.none _
      | refine LeO.ite ?_ ?_
      | refine LeO.bind ?_ (fun _ => ?_)
set_option maxHeartbeats 8000000 in
set_option maxRecDepth 100000 in
theorem ambidexterlaw21_ProfileClosedForm.calls0 (k : Nat) (a0 : Int) (a1 : Int) (a2 : Int) (A3 : Option Addr) (c3 : Nat) (l3 : List Int) (r : Bool) (w : World) (hr3 : Kd.C (Kd.int .i64) w A3 l3.length l3) (hc3 : l3.length ≤ c3) (h : ambidexterlaw21_ProfileClosedForm.f k a0 a1 a2 l3 = some r) (hT : r = true) :
    Calls Try.prog 6 #[.int .i16 a0, .int .i16 a1, .int .i16 a2, .slice A3 l3.length c3] w fun e w' => e = .returned (.bool r) ∧ Below w.heap.size w w' := by
  have hu29 := Try.underlying29
  have HR3 := Aside0.mk hr3
  have HC3 := Aside0.mk hc3
  clear hr3 hc3
  have HB := Aside0.mk (Below.refl w.heap.size w)
  have H : ((ambidexterlaw21_head.f k).bind fun t276 => ((ambidexterlaw21_Great.f k l3).bind fun t277 => (if t277 = true then (some t276) else (ambidexterlaw21_ProfileClosedForm.l0 k a0 a1 a2 l3 t276 (wrap64 (a0)) (wrap64 (a1)) (wrap64 (a2)) 0)))) = some r := h
  clear h
  have HT := Aside0.mk hT
  clear hT
  replace H := Option.bind_eq_some_iff.mp H
  obtain ⟨t276, A50, H⟩ := H
  obtain rfl := ambidexterlaw21_head.is_true k A50
  replace H : ((ambidexterlaw21_Great.f k l3).bind fun t277 => (if t277 = true then (some true) else (ambidexterlaw21_ProfileClosedForm.l0 k a0 a1 a2 l3 true (wrap64 (a0)) (wrap64 (a1)) (wrap64 (a2)) 0))) = some r := H
  have A5 := Aside0.mk A50
  clear A50
  replace H := Option.bind_eq_some_iff.mp H
  obtain ⟨t277, A60, H⟩ := H
  replace H : (if t277 = true then (some true) else (ambidexterlaw21_ProfileClosedForm.l0 k a0 a1 a2 l3 true (wrap64 (a0)) (wrap64 (a1)) (wrap64 (a2)) 0)) = some r := H
  have A6 := Aside0.mk A60
  clear A60
  by_cases c7 : t277 = true
  · subst c7
    have H1 : (some true) = some r := by rw [if_pos rfl] at H; exact H
    clear H
    have H := H1
    clear H1
    obtain rfl := Option.some.inj H
    go_enter Try.func6, Try.ntmps6
    go_wp2_with (first | ((with_reducible refine gate_callee (f := 15) rfl ?_); refine goesL_ (some 17) rfl rfl Try.func15 (by kernel_rfl) rfl #[] rfl (by (try simp only [List.map_toArray, List.map_cons, List.map_nil]); first | done | rfl | (simp only [List.length_drop, List.length_take]; rfl)) ?_; (with_reducible refine (ambidexterlaw21_head.calls k  true _ A5.out).mono ?_); rintro e w8 ⟨rfl, hb⟩; refine ⟨_, rfl, ?_⟩; have n0_ := Aside0.mk (below_step (by repeat (first | (with_reducible first | exact HB.out | apply below_alloc | apply pw_below_drewN | apply below_drew1) | exact HB.out)) hb); clear HB; have HB := n0_; clear n0_; (try clear hb); (try clear hb2); (try clear hk); (try clear hi)) | ((with_reducible refine gate_callee (f := 16) rfl ?_); refine goesL_ (some 19) rfl rfl Try.func16 (by kernel_rfl) rfl #[.slice A3 l3.length c3] rfl (by (try simp only [List.map_toArray, List.map_cons, List.map_nil]); first | done | rfl | (simp only [List.length_drop, List.length_take]; rfl)) ?_; (with_reducible refine (ambidexterlaw21_Great.calls k _ _ l3 true _ ?side1 ?side2 A6.out).mono ?_); (case side1 => repeat (first | exact (Kd.C_below HR3.out HB.out) | (with_reducible refine Kd.C_alloc ?_ _) | (with_reducible refine Kd.C_drewN ?_ _) | (with_reducible refine Kd.C_drew ?_))); (case side2 => exact HC3.out); rintro e w' ⟨rfl, ⟨nd, rfl⟩⟩; refine ⟨_, rfl, ?_⟩))
    go_ret
    exact ⟨by first | rfl | (simp [errW_none, errW_some] <;> rfl) | (simp [*, errW_none, errW_some] <;> rfl), by repeat (first | (with_reducible first | exact HB.out | apply below_alloc | apply pw_below_drewN | apply below_drew1) | exact HB.out)⟩
  · replace c7 := Bool.eq_false_iff.mpr c7
    subst c7
    have H1 : (ambidexterlaw21_ProfileClosedForm.l0 k a0 a1 a2 l3 true (wrap64 (a0)) (wrap64 (a1)) (wrap64 (a2)) 0) = some r := by rw [if_neg (show ¬ (false = true) by decide)] at H; exact H
    clear H
    have H := H1
    clear H1
    have H' := Aside0.mk H
    clear H
    go_enter Try.func6, Try.ntmps6
    go_wp2_with (first | ((with_reducible refine gate_callee (f := 15) rfl ?_); refine goesL_ (some 17) rfl rfl Try.func15 (by kernel_rfl) rfl #[] rfl (by (try simp only [List.map_toArray, List.map_cons, List.map_nil]); first | done | rfl | (simp only [List.length_drop, List.length_take]; rfl)) ?_; (with_reducible refine (ambidexterlaw21_head.calls k  true _ A5.out).mono ?_); rintro e w9 ⟨rfl, hb⟩; refine ⟨_, rfl, ?_⟩; have n0_ := Aside0.mk (below_step (by repeat (first | (with_reducible first | exact HB.out | apply below_alloc | apply pw_below_drewN | apply below_drew1) | exact HB.out)) hb); clear HB; have HB := n0_; clear n0_; (try clear hb); (try clear hb2); (try clear hk); (try clear hi)) | ((with_reducible refine gate_callee (f := 16) rfl ?_); refine goesL_ (some 19) rfl rfl Try.func16 (by kernel_rfl) rfl #[.slice A3 l3.length c3] rfl (by (try simp only [List.map_toArray, List.map_cons, List.map_nil]); first | done | rfl | (simp only [List.length_drop, List.length_take]; rfl)) ?_; (with_reducible refine (ambidexterlaw21_Great.calls k _ _ l3 false _ ?side1 ?side2 A6.out).mono ?_); (case side1 => repeat (first | exact (Kd.C_below HR3.out HB.out) | (with_reducible refine Kd.C_alloc ?_ _) | (with_reducible refine Kd.C_drewN ?_ _) | (with_reducible refine Kd.C_drew ?_))); (case side2 => exact HC3.out); rintro e w' ⟨rfl, ⟨nd, rfl⟩⟩; refine ⟨_, rfl, ?_⟩))
    go_loopg [12, 13] k (fun kq v12 v13 w' => ∃ (x12_1 : Int) (x13_1 : Int), v12 = .int .i64 x12_1 ∧ v13 = .int .i64 x13_1 ∧ Aside0 (ambidexterlaw21_ProfileClosedForm.l0 kq a0 a1 a2 l3 true (wrap64 (a0)) (wrap64 (a1)) x12_1 x13_1 = some r) ∧ Aside0 (kq ≤ k) ∧ Aside0 (Below w.heap.size w w'))
    case atStart => exact ⟨(wrap64 (a2)), (0), (by first | rfl | (simp; done) | (simp [*]; done)), (by first | rfl | (simp; done) | (simp [*]; done)), H', ⟨Nat.le_refl _⟩, ⟨by repeat (first | (with_reducible first | exact HB.out | apply below_alloc | apply pw_below_drewN | apply below_drew1) | exact HB.out)⟩⟩
    case round =>
      clear H'
      try clear c1
      try clear p2
      try clear c3
      try clear c6
      try clear p6
      try clear c7
      obtain ⟨x12_1, x13_1, rfl, rfl, HA, HK1, HB⟩ := hrel
      cases gk with
      | zero => exact absurd HA.out (by simp [ambidexterlaw21_ProfileClosedForm.l0])
      | succ k1 =>
        have H := HA.out
        clear HA
        simp only [ambidexterlaw21_ProfileClosedForm.l0] at H
        by_cases c10 : x13_1 < (l3.length : Int)
        · rw [if_pos c10] at H
          have c10b0 : decide (x13_1 < (l3.length : Int)) = true := decide_eq_true c10
          clear c10
          by_cases c11 : 0 ≤ x13_1
          · rw [if_pos c11] at H
            have c11b0 : decide (0 ≤ x13_1) = true := decide_eq_true c11
            clear c11
            have H' := Aside0.mk H
            clear H
            have p278 : 0 ≤ (x13_1 : Int) := of_decide_eq_true (by first | (with_reducible assumption) | assumption)
            have q278 : x13_1 < (l3.length : Int) := of_decide_eq_true (by first | (with_reducible assumption) | assumption)
            obtain ⟨ad278, e278, hx278_0⟩ := Kd.at_int HR3.out x13_1 p278 q278
            cases e278
            replace hx278_0 := (HB.out.cell (World.block_lt_of_cell? w _ hx278_0)).trans hx278_0
            replace p278 := eq_true p278
            replace q278 := eq_true q278
            go_wp2
            go_roundg k1
            case measure => have := HK1.out; omega
            case rel => exact ⟨(wrap64 (x12_1 + (rd l3 x13_1))), (wrap64 (x13_1 + 1)), (by first | rfl | (simp; done) | (simp [*]; done)), (by first | rfl | (simp; done) | (simp [*]; done)), H', ⟨by have := HK1.out; omega⟩, ⟨by repeat (first | (with_reducible first | exact HB.out | apply below_alloc | apply pw_below_drewN | apply below_drew1) | exact HB.out)⟩⟩
          · rw [if_neg c11] at H
            exact absurd H (by simp)
        · rw [if_neg c10] at H
          have c10b0 : decide (x13_1 < (l3.length : Int)) = false := decide_eq_false c10
          clear c10
          have H' := Aside0.mk H
          clear H
          go_wp2
          go_loopg [10, 11, 14, 15, 16] k1 (fun kq v10 v11 v14 v15 v16 w' => ∃ (x10_2 : Int) (x11_2 : Int) (x14_2 : Int) (x15_2 : Int) (x16_2 : Int), v10 = .int .i64 x10_2 ∧ v11 = .int .i64 x11_2 ∧ v14 = .int .i64 x14_2 ∧ v15 = .int .i64 x15_2 ∧ v16 = .int .i64 x16_2 ∧ Aside0 (ambidexterlaw21_ProfileClosedForm.l1 kq a0 a1 a2 l3 true x10_2 x11_2 x12_1 x14_2 x15_2 x16_2 = some r) ∧ Aside0 (kq ≤ k1) ∧ Aside0 (Below w.heap.size w w'))
          case atStart => exact ⟨((wrap64 (a0))), ((wrap64 (a1))), (0), (0), (0), (by first | rfl | (simp; done) | (simp [*]; done)), (by first | rfl | (simp; done) | (simp [*]; done)), (by first | rfl | (simp; done) | (simp [*]; done)), (by first | rfl | (simp; done) | (simp [*]; done)), (by first | rfl | (simp; done) | (simp [*]; done)), H', ⟨Nat.le_refl _⟩, ⟨by repeat (first | (with_reducible first | exact HB.out | apply below_alloc | apply pw_below_drewN | apply below_drew1) | exact HB.out)⟩⟩
          case round =>
            clear H'
            try clear c1
            try clear p2
            try clear q2
            try clear hx2
            try clear c3
            try clear c6
            try clear p6
            try clear c7
            try clear c10
            try clear c10b0
            try clear c11
            try clear c11b0
            try clear hx278_0
            try clear p2
            try clear p278
            try clear p6
            try clear q278
            obtain ⟨x10_2, x11_2, x14_2, x15_2, x16_2, rfl, rfl, rfl, rfl, rfl, HA, HK2, HB⟩ := hrel
            cases gk with
            | zero => exact absurd HA.out (by simp [ambidexterlaw21_ProfileClosedForm.l1])
            | succ k2 =>
              have H := HA.out
              clear HA
              simp only [ambidexterlaw21_ProfileClosedForm.l1] at H
              by_cases c12 : x16_2 < (l3.length : Int)
              · rw [if_pos c12] at H
                have c12b0 : decide (x16_2 < (l3.length : Int)) = true := decide_eq_true c12
                clear c12
                obtain ⟨ji13, hji13⟩ : ∃ j_ : Int, (wrap64 ((wrap64 ((l3.length : Int) - 1)) - x16_2)) = j_ := ⟨_, rfl⟩
                replace H : (if 0 ≤ (ji13) then (if (ji13) < (l3.length : Int) then (ambidexterlaw21_ProfileClosedForm.l1 k2 a0 a1 a2 l3 true (wrap64 ((wrap64 ((wrap64 (x10_2 + (wrap64 (a1)))) + (wrap64 ((wrap64 (x14_2 + 1)) * (wrap64 (a2)))))) + (wrap64 ((wrap64 (x15_2 + (wrap64 (x14_2 + 1)))) * (rd l3 (ji13)))))) (wrap64 ((wrap64 (x11_2 + (wrap64 (a2)))) + (wrap64 ((wrap64 (x14_2 + 1)) * (rd l3 (ji13)))))) x12_1 (wrap64 (x14_2 + 1)) (wrap64 (x15_2 + (wrap64 (x14_2 + 1)))) (wrap64 (x16_2 + 1))) else (none)) else (none)) = some r := by first | (rw [hji13] at H; exact H) | (simp only [hji13] at H ⊢; exact H)
                have hji13w : (IntKind.i64.wrap ((wrap64 ((l3.length : Int) - 1)) - x16_2)) = ji13 := (i64_w _).trans hji13
                by_cases c14 : 0 ≤ (ji13)
                · rw [if_pos c14] at H
                  have c14b0 : decide (0 ≤ (ji13)) = true := decide_eq_true c14
                  clear c14
                  by_cases c15 : (ji13) < (l3.length : Int)
                  · rw [if_pos c15] at H
                    have c15b0 : decide ((ji13) < (l3.length : Int)) = true := decide_eq_true c15
                    clear c15
                    have H' := Aside0.mk H
                    clear H
                    have p279 : 0 ≤ ((ji13) : Int) := of_decide_eq_true (by first | (with_reducible assumption) | assumption)
                    have q279 : (ji13) < (l3.length : Int) := of_decide_eq_true (by first | (with_reducible assumption) | assumption)
                    obtain ⟨ad279, e279, hx279_0⟩ := Kd.at_int HR3.out (ji13) p279 q279
                    cases e279
                    replace hx279_0 := (HB.out.cell (World.block_lt_of_cell? w _ hx279_0)).trans hx279_0
                    replace p279 := eq_true p279
                    replace q279 := eq_true q279
                    have p280 : 0 ≤ ((ji13) : Int) := of_decide_eq_true (by first | (with_reducible assumption) | assumption)
                    have q280 : (ji13) < (l3.length : Int) := of_decide_eq_true (by first | (with_reducible assumption) | assumption)
                    obtain ⟨ad280, e280, hx280_0⟩ := Kd.at_int HR3.out (ji13) p280 q280
                    obtain rfl : ad279 = ad280 := (by injection e280)
                    replace hx280_0 := (HB.out.cell (World.block_lt_of_cell? w _ hx280_0)).trans hx280_0
                    replace p280 := eq_true p280
                    replace q280 := eq_true q280
                    go_wp2
                    go_roundg k2
                    case measure => have := HK1.out; have := HK2.out; omega
                    case rel => exact ⟨(wrap64 ((wrap64 ((wrap64 (x10_2 + (wrap64 (a1)))) + (wrap64 ((wrap64 (x14_2 + 1)) * (wrap64 (a2)))))) + (wrap64 ((wrap64 (x15_2 + (wrap64 (x14_2 + 1)))) * (rd l3 (ji13)))))), (wrap64 ((wrap64 (x11_2 + (wrap64 (a2)))) + (wrap64 ((wrap64 (x14_2 + 1)) * (rd l3 (ji13)))))), (wrap64 (x14_2 + 1)), (wrap64 (x15_2 + (wrap64 (x14_2 + 1)))), (wrap64 (x16_2 + 1)), (by first | rfl | (simp; done) | (simp only [← hji13] <;> (first | rfl | simp)) | (simp [*]; done)), (by first | rfl | (simp; done) | (simp only [← hji13] <;> (first | rfl | simp)) | (simp [*]; done)), (by first | rfl | (simp; done) | (simp [*]; done)), (by first | rfl | (simp; done) | (simp [*]; done)), (by first | rfl | (simp; done) | (simp [*]; done)), H', ⟨by have := HK1.out; have := HK2.out; omega⟩, ⟨by repeat (first | (with_reducible first | exact HB.out | apply below_alloc | apply pw_below_drewN | apply below_drew1) | exact HB.out)⟩⟩
                  · rw [if_neg c15] at H
                    exact absurd H (by simp)
                · rw [if_neg c14] at H
                  exact absurd H (by simp)
              · rw [if_neg c12] at H
                have c12b0 : decide (x16_2 < (l3.length : Int)) = false := decide_eq_false c12
                clear c12
                have H1 : ((ambidexterlaw21_Motion.f a0 a1 a2).bind fun bt281 => ((profile_Final.f bt281.1 bt281.2.1 bt281.2.2 l3).bind fun bt284 => (some (bt284.1 == x10_2 && (bt284.2.1 == x11_2 && (bt284.2.2 == x12_1)))))) = some r := by first | (rw [if_pos rfl] at H; exact H) | (rw [if_pos True.intro] at H; exact H)
                clear H
                have H := H1
                clear H1
                replace H := Option.bind_eq_some_iff.mp H
                obtain ⟨⟨t281, t282, t283⟩, A160, H⟩ := H
                replace H : ((profile_Final.f t281 t282 t283 l3).bind fun bt284 => (some (bt284.1 == x10_2 && (bt284.2.1 == x11_2 && (bt284.2.2 == x12_1))))) = some r := H
                have A16 := Aside0.mk A160
                clear A160
                replace H := Option.bind_eq_some_iff.mp H
                obtain ⟨⟨t284, t285, t286⟩, A170, H⟩ := H
                replace H : (some (t284 == x10_2 && (t285 == x11_2 && (t286 == x12_1)))) = some r := H
                have A17 := Aside0.mk A170
                clear A170
                obtain rfl := Option.some.inj H
                go_wp2_with (first | (go_at_call 17; (with_reducible refine (ambidexterlaw21_Motion.calls a0 a1 a2 t281 t282 t283 _ A16.out).mono ?_); rintro e w18 ⟨rfl, hb⟩; have n0_ := Aside0.mk (below_step (by repeat (first | (with_reducible first | exact HB.out | apply below_alloc | apply pw_below_drewN | apply below_drew1) | exact HB.out)) hb); clear HB; have HB := n0_; clear n0_; (try clear hb); (try clear hb2); (try clear hk); (try clear hi)) | (go_at_call 24; (with_reducible refine (profile_Final.calls t281 t282 t283 _ _ l3 t284 t285 t286 _ ?side1 ?side2 A17.out).mono ?_); (case side1 => repeat (first | exact (Kd.C_below HR3.out HB.out) | (with_reducible refine Kd.C_alloc ?_ _) | (with_reducible refine Kd.C_drewN ?_ _) | (with_reducible refine Kd.C_drew ?_))); (case side2 => exact HC3.out); rintro e w19 ⟨rfl, hb⟩; have n0_ := Aside0.mk (below_step (by repeat (first | (with_reducible first | exact HB.out | apply below_alloc | apply pw_below_drewN | apply below_drew1) | exact HB.out)) hb); clear HB; have HB := n0_; clear n0_; (try clear hb); (try clear hb2); (try clear hk); (try clear hi)))
                go_ret
                exact ⟨by first | rfl | (simp [errW_none, errW_some] <;> rfl) | (simp [*, errW_none, errW_some] <;> rfl), by repeat (first | (with_reducible first | exact HB.out | apply below_alloc | apply pw_below_drewN | apply below_drew1) | exact HB.out)⟩

end Go.Proofs.Ytehibiikdlgneaa.P
