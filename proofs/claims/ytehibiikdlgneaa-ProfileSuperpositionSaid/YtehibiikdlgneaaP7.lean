-- Written by this session's own program, for this seat. Lean checks it.
import Derived.Test.YtehibiikdlgneaaP0
import Derived.Test.YtehibiikdlgneaaP2
namespace Go.Proofs.Ytehibiikdlgneaa.P
open Go.RowKit Go.Proofs.YtehibiikdlgneaaW.PrintWords Go.Proofs.YtehibiikdlgneaaW.PrintLast Go.Proofs.YtehibiikdlgneaaW.PrintMore
attribute [local go_sem] max2_int min2_int max_two min_two max_three min_three max_four min_four   -- for this text's walks alone
set_option linter.unusedVariables false
set_option linter.unusedSimpArgs false

/-! ### ambidexterlaw21_ProfileSuperposition: function 5 -/
mutual
def ambidexterlaw21_ProfileSuperposition.j0 : Nat → Int → Int → Int → List Int → Int → Int → Int → List Int → Bool → Bool → Option (Bool)
  | 0, _, _, _, _, _, _, _, _, _, _ => none
  | k + 1, x0, x1, x2, x3, x4, x5, x6, x7, x17, x30 => if x30 = true then (some x17) else (ambidexterlaw21_ProfileSuperposition.l0 k x0 x1 x2 x3 x4 x5 x6 x7 x17 (mn (x3.length : Int) (x7.length : Int)) ([] : List Int) 0)
def ambidexterlaw21_ProfileSuperposition.l0 : Nat → Int → Int → Int → List Int → Int → Int → Int → List Int → Bool → Int → List Int → Int → Option (Bool)
  | 0, _, _, _, _, _, _, _, _, _, _, _, _ => none
  | k + 1, x0, x1, x2, x3, x4, x5, x6, x7, x17, x18, x19, x20 => if x20 < x18 then (if 0 ≤ x20 then (if x20 < (x3.length : Int) then (if x20 < (x7.length : Int) then (if x19.length < 17592186044416 then (ambidexterlaw21_ProfileSuperposition.l0 k x0 x1 x2 x3 x4 x5 x6 x7 x17 x18 (x19 ++ [wrap64 ((rd x3 x20) + (rd x7 x20))]) (wrap64 (x20 + 1))) else (none)) else (none)) else (none)) else (none)) else ((ambidexterlaw21_Motion.f x0 x1 x2).bind fun bt256 => (if 0 ≤ x18 then (if x18 ≤ (x3.length : Int) then ((profile_Final.f bt256.1 bt256.2.1 bt256.2.2 (x3.take (x18 : Int).toNat)).bind fun bt260 => ((ambidexterlaw21_Motion.f x4 x5 x6).bind fun bt264 => (if x18 ≤ (x7.length : Int) then ((profile_Final.f bt264.1 bt264.2.1 bt264.2.2 (x7.take (x18 : Int).toNat)).bind fun bt268 => ((profile_Final.f (wrap64 ((wrap64 (x0)) + (wrap64 (x4)))) (wrap64 ((wrap64 (x1)) + (wrap64 (x5)))) (wrap64 ((wrap64 (x2)) + (wrap64 (x6)))) x19).bind fun bt272 => (if x17 = true then (if bt272.1 = (wrap64 (bt260.1 + bt268.1)) then (if bt272.2.1 = (wrap64 (bt260.2.1 + bt268.2.1)) then (some (bt272.2.2 == (wrap64 (bt260.2.2 + bt268.2.2)))) else (some false)) else (some false)) else (some false)))) else (none)))) else (none)) else (none)))
end
def ambidexterlaw21_ProfileSuperposition.f (k : Nat) (a0 : Int) (a1 : Int) (a2 : Int) (l3 : List Int) (a4 : Int) (a5 : Int) (a6 : Int) (l7 : List Int) : Option (Bool) := (ambidexterlaw21_head.f k).bind fun t248 => ((ambidexterlaw21_Great.f k l3).bind fun t249 => (if t249 = true then (ambidexterlaw21_ProfileSuperposition.j0 k a0 a1 a2 l3 a4 a5 a6 l7 t248 true) else ((ambidexterlaw21_Great.f k l7).bind fun t250 => (ambidexterlaw21_ProfileSuperposition.j0 k a0 a1 a2 l3 a4 a5 a6 l7 t248 t250))))
theorem ambidexterlaw21_ProfileSuperposition.mono_l : ∀ k, (∀ y0 y1 y2 y3 y4 y5 y6 y7 y8 y9, LeO (ambidexterlaw21_ProfileSuperposition.j0 k y0 y1 y2 y3 y4 y5 y6 y7 y8 y9) (ambidexterlaw21_ProfileSuperposition.j0 (k + 1) y0 y1 y2 y3 y4 y5 y6 y7 y8 y9)) ∧ (∀ y0 y1 y2 y3 y4 y5 y6 y7 y8 y9 y10 y11, LeO (ambidexterlaw21_ProfileSuperposition.l0 k y0 y1 y2 y3 y4 y5 y6 y7 y8 y9 y10 y11) (ambidexterlaw21_ProfileSuperposition.l0 (k + 1) y0 y1 y2 y3 y4 y5 y6 y7 y8 y9 y10 y11))
  | 0 => ⟨fun _ _ _ _ _ _ _ _ _ _ r h => by simp [ambidexterlaw21_ProfileSuperposition.j0] at h, fun _ _ _ _ _ _ _ _ _ _ _ _ r h => by simp [ambidexterlaw21_ProfileSuperposition.l0] at h⟩
  | k + 1 => by
    obtain ⟨ih0, ih1⟩ := ambidexterlaw21_ProfileSuperposition.mono_l k
    refine ⟨?_, ?_⟩
    · intro y0 y1 y2 y3 y4 y5 y6 y7 y8 y9
      unfold ambidexterlaw21_ProfileSuperposition.j0
      repeat' first
      | (with_reducible exact ih0 _ _ _ _ _ _ _ _ _ _)
      | (with_reducible exact ih1 _ _ _ _ _ _ _ _ _ _ _ _)
      | (with_reducible exact ambidexterlaw21_Great.mono _ _)
      | (with_reducible exact ambidexterlaw21_head.mono _)
      | (with_reducible exact LeO.refl _)
      | (with_reducible exact LeO.none _)
      | (with_reducible refine LeO.ite ?_ ?_)
      | (with_reducible refine LeO.bind ?_ (fun _ => ?_))
      | exact ih0 _ _ _ _ _ _ _ _ _ _
      | exact ih1 _ _ _ _ _ _ _ _ _ _ _ _
      | exact ambidexterlaw21_Great.mono _ _
      | exact ambidexterlaw21_head.mono _
      | exact LeO.none _
      | refine LeO.ite ?_ ?_
      | refine LeO.bind ?_ (fun _ => ?_)
    · intro y0 y1 y2 y3 y4 y5 y6 y7 y8 y9 y10 y11
      unfold ambidexterlaw21_ProfileSuperposition.l0
      repeat' first
      | (with_reducible exact ih0 _ _ _ _ _ _ _ _ _ _)
      | (with_reducible exact ih1 _ _ _ _ _ _ _ _ _ _ _ _)
      | (with_reducible exact ambidexterlaw21_Great.mono _ _)
      | (with_reducible exact ambidexterlaw21_head.mono _)
      | (with_reducible exact LeO.refl _)
      | (with_reducible exact LeO.none _)
      | (with_reducible refine LeO.ite ?_ ?_)
      | (with_reducible refine LeO.bind ?_ (fun _ => ?_))
      | exact ih0 _ _ _ _ _ _ _ _ _ _
      | exact ih1 _ _ _ _ _ _ _ _ _ _ _ _
      | exact ambidexterlaw21_Great.mono _ _
      | exact ambidexterlaw21_head.mono _
      | exact LeO.none _
      | refine LeO.ite ?_ ?_
      | refine LeO.bind ?_ (fun _ => ?_)
theorem ambidexterlaw21_ProfileSuperposition.mono : ∀ a0 a1 a2 a3 a4 a5 a6 a7 k, LeO (ambidexterlaw21_ProfileSuperposition.f k a0 a1 a2 a3 a4 a5 a6 a7) (ambidexterlaw21_ProfileSuperposition.f (k + 1) a0 a1 a2 a3 a4 a5 a6 a7) := by
  intro a0 a1 a2 a3 a4 a5 a6 a7 k
  obtain ⟨ih0, ih1⟩ := ambidexterlaw21_ProfileSuperposition.mono_l k
  unfold ambidexterlaw21_ProfileSuperposition.f
  repeat' first
      | (with_reducible exact ih0 _ _ _ _ _ _ _ _ _ _)
      | (with_reducible exact ih1 _ _ _ _ _ _ _ _ _ _ _ _)
      | (with_reducible exact ambidexterlaw21_Great.mono _ _)
      | (with_reducible exact ambidexterlaw21_head.mono _)
      | (with_reducible exact LeO.refl _)
      | (with_reducible exact LeO.none _)
      | (with_reducible refine LeO.ite ?_ ?_)
      | (with_reducible refine LeO.bind ?_ (fun _ => ?_))
      | exact ih0 _ _ _ _ _ _ _ _ _ _
      | exact ih1 _ _ _ _ _ _ _ _ _ _ _ _
      | exact ambidexterlaw21_Great.mono _ _
      | exact ambidexterlaw21_head.mono _
      | exact LeO.none _
      | refine LeO.ite ?_ ?_
      | refine LeO.bind ?_ (fun _ => ?_)
def ambidexterlaw21_ProfileSuperposition.T9 : Bool × List (List Nat × List Nat) := (true, [([], []), ([], []), ([], []), ([1, 2], [1, 2]), ([3], [3]), ([], []), ([], []), ([5, 6], [5, 6]), ([7], [7]), ([4, 8], [4, 8]), ([9], [9]), ([0, 10], [0, 10]), ([11, 11, 0, 1, 2, 3, 4, 5, 6, 7, 8, 9, 10, 11], [0, 11])])
def ambidexterlaw21_ProfileSuperposition.B9 : List Nat := [0, 0, 0, 6, 14, 0, 0, 96, 224, 510, 1022, 2047, 4095]
theorem ambidexterlaw21_ProfileSuperposition.tab9 : rtab .any (opsOf Try.f5 9) = ambidexterlaw21_ProfileSuperposition.T9 := by kernel_rfl
theorem ambidexterlaw21_ProfileSuperposition.bits9 : waitsOk ambidexterlaw21_ProfileSuperposition.T9.2 ambidexterlaw21_ProfileSuperposition.B9 = true := by kernel_rfl
def ambidexterlaw21_ProfileSuperposition.T10 : Bool × List (List Nat × List Nat) := (true, [([], []), ([], []), ([], []), ([0, 1, 2], [0, 1, 2]), ([], []), ([], []), ([4, 5], [4, 5]), ([3, 6, 3], [3, 6]), ([], []), ([8, 7, 7, 0, 1, 2, 3, 4, 5, 6, 7, 8], [7, 8])])
def ambidexterlaw21_ProfileSuperposition.B10 : List Nat := [0, 0, 0, 7, 0, 0, 48, 127, 0, 511]
theorem ambidexterlaw21_ProfileSuperposition.tab10 : rtab .any (opsOf Try.f5 10) = ambidexterlaw21_ProfileSuperposition.T10 := by kernel_rfl
theorem ambidexterlaw21_ProfileSuperposition.bits10 : waitsOk ambidexterlaw21_ProfileSuperposition.T10.2 ambidexterlaw21_ProfileSuperposition.B10 = true := by kernel_rfl
def ambidexterlaw21_ProfileSuperposition.T11 : Bool × List (List Nat × List Nat) := (true, [([], []), ([], []), ([], []), ([0, 1, 2], [0, 1, 2]), ([], []), ([], []), ([4, 5], [4, 5]), ([3, 6, 3], [3, 6]), ([], []), ([8, 7, 7, 0, 1, 2, 3, 4, 5, 6, 7, 8], [7, 8])])
def ambidexterlaw21_ProfileSuperposition.B11 : List Nat := [0, 0, 0, 7, 0, 0, 48, 127, 0, 511]
theorem ambidexterlaw21_ProfileSuperposition.tab11 : rtab .any (opsOf Try.f5 11) = ambidexterlaw21_ProfileSuperposition.T11 := by kernel_rfl
theorem ambidexterlaw21_ProfileSuperposition.bits11 : waitsOk ambidexterlaw21_ProfileSuperposition.T11.2 ambidexterlaw21_ProfileSuperposition.B11 = true := by kernel_rfl
set_option maxHeartbeats 8000000 in
set_option maxRecDepth 100000 in
theorem ambidexterlaw21_ProfileSuperposition.calls0 (k : Nat) (a0 : Int) (a1 : Int) (a2 : Int) (A3 : Option Addr) (c3 : Nat) (l3 : List Int) (a4 : Int) (a5 : Int) (a6 : Int) (A7 : Option Addr) (c7 : Nat) (l7 : List Int) (r : Bool) (w : World) (hr3 : Kd.C (Kd.int .i64) w A3 l3.length l3) (hc3 : l3.length ≤ c3) (hr7 : Kd.C (Kd.int .i64) w A7 l7.length l7) (hc7 : l7.length ≤ c7) (h : ambidexterlaw21_ProfileSuperposition.f k a0 a1 a2 l3 a4 a5 a6 l7 = some r) (hT : r = true) :
    Calls Try.prog 5 #[.int .i16 a0, .int .i16 a1, .int .i16 a2, .slice A3 l3.length c3, .int .i16 a4, .int .i16 a5, .int .i16 a6, .slice A7 l7.length c7] w fun e w' => e = .returned (.bool r) ∧ Below w.heap.size w w' := by
  have hu29 := Try.underlying29
  have HR3 := Aside0.mk hr3
  have HC3 := Aside0.mk hc3
  clear hr3 hc3
  have HR7 := Aside0.mk hr7
  have HC7 := Aside0.mk hc7
  clear hr7 hc7
  have HB := Aside0.mk (Below.refl w.heap.size w)
  have H : ((ambidexterlaw21_head.f k).bind fun t248 => ((ambidexterlaw21_Great.f k l3).bind fun t249 => (if t249 = true then (ambidexterlaw21_ProfileSuperposition.j0 k a0 a1 a2 l3 a4 a5 a6 l7 t248 true) else ((ambidexterlaw21_Great.f k l7).bind fun t250 => (ambidexterlaw21_ProfileSuperposition.j0 k a0 a1 a2 l3 a4 a5 a6 l7 t248 t250))))) = some r := h
  clear h
  have HT := Aside0.mk hT
  clear hT
  replace H := Option.bind_eq_some_iff.mp H
  obtain ⟨t248, A90, H⟩ := H
  obtain rfl := ambidexterlaw21_head.is_true k A90
  replace H : ((ambidexterlaw21_Great.f k l3).bind fun t249 => (if t249 = true then (ambidexterlaw21_ProfileSuperposition.j0 k a0 a1 a2 l3 a4 a5 a6 l7 true true) else ((ambidexterlaw21_Great.f k l7).bind fun t250 => (ambidexterlaw21_ProfileSuperposition.j0 k a0 a1 a2 l3 a4 a5 a6 l7 true t250)))) = some r := H
  have A9 := Aside0.mk A90
  clear A90
  have HC10 := Aside0.mk H
  clear H
  go_enter Try.func5, Try.ntmps5
  go_upto_region 2 with (first | ((with_reducible refine gate_callee (f := 15) rfl ?_); refine goesL_ (some 24) rfl rfl Try.func15 (by kernel_rfl) rfl #[] rfl (by (try simp only [List.map_toArray, List.map_cons, List.map_nil]); first | done | rfl | (simp only [List.length_drop, List.length_take]; rfl)) ?_; (with_reducible refine (ambidexterlaw21_head.calls k  true _ A9.out).mono ?_); rintro e w11 ⟨rfl, hb⟩; refine ⟨_, rfl, ?_⟩; have n0_ := Aside0.mk (below_step (by repeat (first | (with_reducible first | exact HB.out | apply below_alloc | apply pw_below_drewN | apply below_drew1) | exact HB.out)) hb); clear HB; have HB := n0_; clear n0_; (try clear hb); (try clear hb2); (try clear hk); (try clear hi)))
  (try simp only [Act.put, List.setIfInBounds_toArray, List.set_cons_zero, List.set_cons_succ])
  go_cut [30] (fun v30 wc => ∃ (kq : Nat) (x30_9 : Bool), v30 = .bool x30_9 ∧ Aside0 (ambidexterlaw21_ProfileSuperposition.j0 kq a0 a1 a2 l3 a4 a5 a6 l7 true x30_9 = some r) ∧ Aside0 (kq ≤ k) ∧ Aside0 (Below w.heap.size w wc))
  case first =>
    have H := HC10.out
    clear HC10
    replace H := Option.bind_eq_some_iff.mp H
    obtain ⟨t249, A120, H⟩ := H
    replace H : (if t249 = true then (ambidexterlaw21_ProfileSuperposition.j0 k a0 a1 a2 l3 a4 a5 a6 l7 true true) else ((ambidexterlaw21_Great.f k l7).bind fun t250 => (ambidexterlaw21_ProfileSuperposition.j0 k a0 a1 a2 l3 a4 a5 a6 l7 true t250))) = some r := H
    have A12 := Aside0.mk A120
    clear A120
    by_cases c13 : t249 = true
    · subst c13
      have H1 : (ambidexterlaw21_ProfileSuperposition.j0 k a0 a1 a2 l3 a4 a5 a6 l7 true true) = some r := by rw [if_pos rfl] at H; exact H
      clear H
      have H := H1
      clear H1
      have H' := Aside0.mk H
      clear H
      go_wp2_with (first | ((with_reducible refine gate_callee (f := 16) rfl ?_); refine goesL_ (some 26) rfl rfl Try.func16 (by kernel_rfl) rfl #[.slice A3 l3.length c3] rfl (by (try simp only [List.map_toArray, List.map_cons, List.map_nil]); first | done | rfl | (simp only [List.length_drop, List.length_take]; rfl)) ?_; (with_reducible refine (ambidexterlaw21_Great.calls k _ _ l3 true _ ?side1 ?side2 A12.out).mono ?_); (case side1 => repeat (first | exact (Kd.C_below HR3.out HB.out) | (with_reducible refine Kd.C_alloc ?_ _) | (with_reducible refine Kd.C_drewN ?_ _) | (with_reducible refine Kd.C_drew ?_))); (case side2 => exact HC3.out); rintro e w' ⟨rfl, ⟨nd, rfl⟩⟩; refine ⟨_, rfl, ?_⟩))
      go_meet
      case rel => exact ⟨_, (true), (by first | rfl | (simp; done) | (simp [*]; done)), H', ⟨by first | omega | exact Nat.le_refl _⟩, ⟨by repeat (first | (with_reducible first | exact HB.out | apply below_alloc | apply pw_below_drewN | apply below_drew1) | exact HB.out)⟩⟩
    · replace c13 := Bool.eq_false_iff.mpr c13
      subst c13
      have H1 : ((ambidexterlaw21_Great.f k l7).bind fun t250 => (ambidexterlaw21_ProfileSuperposition.j0 k a0 a1 a2 l3 a4 a5 a6 l7 true t250)) = some r := by rw [if_neg (show ¬ (false = true) by decide)] at H; exact H
      clear H
      have H := H1
      clear H1
      replace H := Option.bind_eq_some_iff.mp H
      obtain ⟨t250, A140, H⟩ := H
      replace H : (ambidexterlaw21_ProfileSuperposition.j0 k a0 a1 a2 l3 a4 a5 a6 l7 true t250) = some r := H
      have A14 := Aside0.mk A140
      clear A140
      have H' := Aside0.mk H
      clear H
      go_wp2_with (first | ((with_reducible refine gate_callee (f := 16) rfl ?_); refine goesL_ (some 26) rfl rfl Try.func16 (by kernel_rfl) rfl #[.slice A3 l3.length c3] rfl (by (try simp only [List.map_toArray, List.map_cons, List.map_nil]); first | done | rfl | (simp only [List.length_drop, List.length_take]; rfl)) ?_; (with_reducible refine (ambidexterlaw21_Great.calls k _ _ l3 false _ ?side1 ?side2 A12.out).mono ?_); (case side1 => repeat (first | exact (Kd.C_below HR3.out HB.out) | (with_reducible refine Kd.C_alloc ?_ _) | (with_reducible refine Kd.C_drewN ?_ _) | (with_reducible refine Kd.C_drew ?_))); (case side2 => exact HC3.out); rintro e w' ⟨rfl, ⟨nd, rfl⟩⟩; refine ⟨_, rfl, ?_⟩) | (go_at_call 16; (with_reducible refine (ambidexterlaw21_Great.calls k _ _ l7 t250 _ ?side1 ?side2 A14.out).mono ?_); (case side1 => repeat (first | exact (Kd.C_below HR7.out (by repeat (first | (with_reducible first | exact HB.out | apply below_alloc | apply pw_below_drewN | apply below_drew1) | exact HB.out))) | (with_reducible refine Kd.C_alloc ?_ _) | (with_reducible refine Kd.C_drewN ?_ _) | (with_reducible refine Kd.C_drew ?_))); (case side2 => exact HC7.out); rintro e w' ⟨rfl, ⟨nd, rfl⟩⟩))
      go_meet
      case rel => exact ⟨_, (t250), (by first | rfl | (simp; done) | (simp [*]; done)), H', ⟨by first | omega | exact Nat.le_refl _⟩, ⟨by repeat (first | (with_reducible first | exact HB.out | apply below_alloc | apply pw_below_drewN | apply below_drew1) | exact HB.out)⟩⟩
  case rest =>
    clear HC10
    try clear c1
    try clear p2
    try clear c3
    try clear c5
    try clear c7
    try clear c13
    obtain ⟨kq, x30_9, rfl, HA, HJ9, HB⟩ := hcut
    cases kq with
    | zero => exact absurd HA.out (by simp [ambidexterlaw21_ProfileSuperposition.j0])
    | succ kj9 =>
      have H := HA.out
      clear HA
      simp only [ambidexterlaw21_ProfileSuperposition.j0] at H
      by_cases c15 : x30_9 = true
      · subst c15
        have H1 : (some true) = some r := by rw [if_pos rfl] at H; exact H
        clear H
        have H := H1
        clear H1
        obtain rfl := Option.some.inj H
        go_wp2
        go_ret
        exact ⟨by first | rfl | (simp [errW_none, errW_some] <;> rfl) | (simp [*, errW_none, errW_some] <;> rfl), by repeat (first | (with_reducible first | exact HB.out | apply below_alloc | apply pw_below_drewN | apply below_drew1) | exact HB.out)⟩
      · replace c15 := Bool.eq_false_iff.mpr c15
        subst c15
        have H1 : (ambidexterlaw21_ProfileSuperposition.l0 kj9 a0 a1 a2 l3 a4 a5 a6 l7 true (mn (l3.length : Int) (l7.length : Int)) ([] : List Int) 0) = some r := by rw [if_neg (show ¬ (false = true) by decide)] at H; exact H
        clear H
        have H := H1
        clear H1
        obtain ⟨ji16, hji16⟩ : ∃ j_ : Int, (mn (l3.length : Int) (l7.length : Int)) = j_ := ⟨_, rfl⟩
        replace H : (ambidexterlaw21_ProfileSuperposition.l0 kj9 a0 a1 a2 l3 a4 a5 a6 l7 true ji16 ([] : List Int) 0) = some r := by first | (rw [hji16] at H; exact H) | (simp only [hji16] at H ⊢; exact H)
        have hji16_ : (if (l7.length : Int) < (l3.length : Int) then (l7.length : Int) else (l3.length : Int)) = ji16 := hji16
        have hji16_n := hji16_
        simp only [Int.ofNat_lt] at hji16_n
        have H' := Aside0.mk H
        clear H
        go_wp2
        go_loopg [19, 20] kj9 (fun kq v19 v20 w' => ∃ (x19_2 : List Int) (x20_2 : Int), v20 = .int .i64 x20_2 ∧ Aside0 (ambidexterlaw21_ProfileSuperposition.l0 kq a0 a1 a2 l3 a4 a5 a6 l7 true ji16 x19_2 x20_2 = some r) ∧ Aside0 (kq ≤ kj9) ∧ Aside0 (Kd.R (Kd.int .i64) 3 w' w.heap.size (fun _ => True) v19 x19_2) ∧ Aside0 (Below w.heap.size w w'))
        case atStart => exact ⟨(([] : List Int)), (0), (by first | rfl | (simp; done) | (simp [*]; done)), H', ⟨Nat.le_refl _⟩, ⟨by first | exact Kd.R_nil _ _ _ _ _ | exact Kd.N_nil _ _ _ _ _ | exact Kd.V_nil _ _ _ _ _ | exact Kd.Q_nil _ _ _ _ _ | exact Kd.S_nil _ _ _ _ _⟩, ⟨by repeat (first | (with_reducible first | exact HB.out | apply below_alloc | apply pw_below_drewN | apply below_drew1) | exact HB.out)⟩⟩
        case round =>
          clear H'
          try clear c1
          try clear p2
          try clear c3
          try clear c5
          try clear c7
          try clear c13
          try clear c15
          try clear c16
          try clear p2
          obtain ⟨x19_2, x20_2, rfl, HA, HK2, HO_19, HB⟩ := hrel
          cases gk with
          | zero => exact absurd HA.out (by simp [ambidexterlaw21_ProfileSuperposition.l0])
          | succ k2 =>
            have H := HA.out
            clear HA
            simp only [ambidexterlaw21_ProfileSuperposition.l0] at H
            by_cases c17 : x20_2 < ji16
            · rw [if_pos c17] at H
              have c17b0 : decide (x20_2 < ji16) = true := decide_eq_true c17
              clear c17
              by_cases c18 : 0 ≤ x20_2
              · rw [if_pos c18] at H
                have c18b0 : decide (0 ≤ x20_2) = true := decide_eq_true c18
                clear c18
                by_cases c19 : x20_2 < (l3.length : Int)
                · rw [if_pos c19] at H
                  have c19b0 : decide (x20_2 < (l3.length : Int)) = true := decide_eq_true c19
                  clear c19
                  by_cases c20 : x20_2 < (l7.length : Int)
                  · rw [if_pos c20] at H
                    have c20b0 : decide (x20_2 < (l7.length : Int)) = true := decide_eq_true c20
                    clear c20
                    by_cases c21 : x19_2.length < 17592186044416
                    · rw [if_pos c21] at H
                      have LMc21 := Aside0.mk c21
                      clear c21
                      obtain ⟨y253, hy253⟩ : ∃ y_ : List Int, y_ = (x19_2 ++ [wrap64 ((rd l3 x20_2) + (rd l7 x20_2))]) := ⟨_, rfl⟩
                      replace H : (ambidexterlaw21_ProfileSuperposition.l0 k2 a0 a1 a2 l3 a4 a5 a6 l7 true ji16 y253 (wrap64 (x20_2 + 1))) = some r := by first | (rw [hy253]; with_reducible exact H) | (have H2_ := (Option.bind_some _ _).symm.trans H; rw [hy253]; with_reducible exact H2_) | (have H2_ := (Option.bind_some _ _).symm.trans H; with_reducible exact H2_) | with_reducible exact H | (rw [hy253]; exact H) | exact H
                      have Ny253 := Aside0.mk hy253
                      clear hy253
                      have H' := Aside0.mk H
                      clear H
                      try go_wp2
                      have n0_ := Aside0.mk (Kd.R_drew HO_19.out)
                      have n1_ := Aside0.mk (below_drew1 HB.out)
                      clear HO_19
                      clear HB
                      have HO_19 := n0_
                      have HB := n1_
                      clear n0_ n1_
                      have p251 : 0 ≤ (x20_2 : Int) := of_decide_eq_true (by first | (with_reducible assumption) | assumption)
                      have q251 : x20_2 < (l3.length : Int) := of_decide_eq_true (by first | (with_reducible assumption) | assumption)
                      obtain ⟨ad251, e251, hx251_0⟩ := Kd.at_int HR3.out x20_2 p251 q251
                      have hw251_0 := hx251_0
                      cases e251
                      replace hx251_0 := (HB.out.cell (World.block_lt_of_cell? w _ hx251_0)).trans hx251_0
                      replace p251 := eq_true p251
                      replace q251 := eq_true q251
                      have p252 : 0 ≤ (x20_2 : Int) := of_decide_eq_true (by first | (with_reducible assumption) | assumption)
                      have q252 : x20_2 < (l7.length : Int) := of_decide_eq_true (by first | (with_reducible assumption) | assumption)
                      obtain ⟨ad252, e252, hx252_0⟩ := Kd.at_int HR7.out x20_2 p252 q252
                      have hw252_0 := hx252_0
                      cases e252
                      replace hx252_0 := (HB.out.cell (World.block_lt_of_cell? w _ hx252_0)).trans hx252_0
                      replace p252 := eq_true p252
                      replace q252 := eq_true q252
                      refine start_ (n := 13) (S := fun w' => w'.cell? (ad251.add (x20_2).toNat) = some (.int .i64 (rd l3 x20_2)) ∧ w'.cell? (ad252.add (x20_2).toNat) = some (.int .i64 (rd l7 x20_2))) (ds := []) #[false, false, false, false, false, false, false, false, false, false, false, false, false] (by kernel_rfl) rfl rfl ⟨((HB.out.cell (World.block_lt_of_cell? w _ hw251_0)).trans hw251_0), ((HB.out.cell (World.block_lt_of_cell? w _ hw252_0)).trans hw252_0)⟩ (fun hHeld => ?_); refine with_tabW ambidexterlaw21_ProfileSuperposition.tab9 ambidexterlaw21_ProfileSuperposition.bits9 (fun HT_ HW_ => ?_)
                      generalize wr.drew = w22 at HO_19 HB hx251_0 hx252_0 hHeld ⊢
                      refine pure_ (i := 0) (N := some 42) (v := ?_) (a' := ?_) #[true, false, false, false, false, false, false, false, false, false, false, false, false] rfl rfl (any_of HT_.out (by kernel_rfl)) (fun _ _ _ h => h) (Or.inl ⟨by rfl, ?_⟩) ?_ ?_
                      rotate_left
                      · intro w'
                        go_simp
                        with_reducible rfl
                      rotate_left
                      · simp only [Act.put, List.setIfInBounds_toArray, List.set_cons_zero, List.set_cons_succ, i64_w, i32_w]
                        rfl
                      refine pure_ (i := 1) (N := some 43) (v := ?_) (a' := ?_) #[true, true, false, false, false, false, false, false, false, false, false, false, false] rfl rfl (any_of HT_.out (by kernel_rfl)) (fun _ _ _ h => h) (Or.inl ⟨by rfl, ?_⟩) ?_ ?_
                      rotate_left
                      · intro w'
                        go_simp
                        with_reducible rfl
                      rotate_left
                      · simp only [Act.put, List.setIfInBounds_toArray, List.set_cons_zero, List.set_cons_succ, i64_w, i32_w]
                        rfl
                      refine pure_ (i := 2) (N := some 44) (v := ?_) (a' := ?_) #[true, true, true, false, false, false, false, false, false, false, false, false, false] rfl rfl (any_of HT_.out (by kernel_rfl)) (fun _ _ _ h => h) (Or.inl ⟨by rfl, ?_⟩) ?_ ?_
                      rotate_left
                      · intro w'
                        go_simp
                        with_reducible rfl
                      rotate_left
                      · simp only [Act.put, List.setIfInBounds_toArray, List.set_cons_zero, List.set_cons_succ, i64_w, i32_w]
                        rfl
                      refine pure_ (i := 3) (N := some 45) (v := ?_) (a' := ?_) #[true, true, true, true, false, false, false, false, false, false, false, false, false] rfl rfl (any_of HT_.out (by kernel_rfl)) (fun _ _ _ h => h) (Or.inl ⟨by rfl, ?_⟩) ?_ ?_
                      rotate_left
                      · intro w'
                        go_simp
                        with_reducible rfl
                      rotate_left
                      · simp only [Act.put, List.setIfInBounds_toArray, List.set_cons_zero, List.set_cons_succ, i64_w, i32_w]
                        rfl
                      refine pure_ (i := 5) (N := some 47) (v := ?_) (a' := ?_) #[true, true, true, true, false, true, false, false, false, false, false, false, false] rfl rfl (any_of HT_.out (by kernel_rfl)) (fun _ _ _ h => h) (Or.inl ⟨by rfl, ?_⟩) ?_ ?_
                      rotate_left
                      · intro w'
                        go_simp
                        with_reducible rfl
                      rotate_left
                      · simp only [Act.put, List.setIfInBounds_toArray, List.set_cons_zero, List.set_cons_succ, i64_w, i32_w]
                        rfl
                      refine pure_ (i := 6) (N := some 48) (v := ?_) (a' := ?_) #[true, true, true, true, false, true, true, false, false, false, false, false, false] rfl rfl (any_of HT_.out (by kernel_rfl)) (fun _ _ _ h => h) (Or.inl ⟨by rfl, ?_⟩) ?_ ?_
                      rotate_left
                      · intro w'
                        go_simp
                        with_reducible rfl
                      rotate_left
                      · simp only [Act.put, List.setIfInBounds_toArray, List.set_cons_zero, List.set_cons_succ, i64_w, i32_w]
                        rfl
                      refine pure_ (i := 7) (N := some 49) (v := ?_) (a' := ?_) #[true, true, true, true, false, true, true, true, false, false, false, false, false] rfl rfl (any_of HT_.out (by kernel_rfl)) (fun _ _ _ h => h) (Or.inl ⟨by rfl, ?_⟩) ?_ ?_
                      rotate_left
                      · intro w'
                        go_simp
                        with_reducible rfl
                      rotate_left
                      · simp only [Act.put, List.setIfInBounds_toArray, List.set_cons_zero, List.set_cons_succ, i64_w, i32_w]
                        rfl
                      refine take_ (i := 4) (N := some 46) (v := ?_) (a' := ?_) #[true, true, true, true, true, true, true, true, false, false, false, false, false] rfl rfl (take_ofW HT_.out HW_.out (by kernel_rfl)) (fun _ _ _ h => h) (Or.inl ⟨by rfl, ?_⟩) hHeld ?_ ?_
                      rotate_left
                      · rintro w' ⟨s0, s1⟩
                        go_simp
                        with_reducible rfl
                      rotate_left
                      · simp only [Act.put, List.setIfInBounds_toArray, List.set_cons_zero, List.set_cons_succ, i64_w, i32_w]
                        rfl
                      refine take_ (i := 8) (N := some 50) (v := ?_) (a' := ?_) #[true, true, true, true, true, true, true, true, true, false, false, false, false] rfl rfl (take_ofW HT_.out HW_.out (by kernel_rfl)) (fun _ _ _ h => h) (Or.inl ⟨by rfl, ?_⟩) hHeld ?_ ?_
                      rotate_left
                      · rintro w' ⟨s0, s1⟩
                        go_simp
                        with_reducible rfl
                      rotate_left
                      · simp only [Act.put, List.setIfInBounds_toArray, List.set_cons_zero, List.set_cons_succ, i64_w, i32_w]
                        rfl
                      refine pure_ (i := 9) (N := some 51) (v := ?_) (a' := ?_) #[true, true, true, true, true, true, true, true, true, true, false, false, false] rfl rfl (any_of HT_.out (by kernel_rfl)) (fun _ _ _ h => h) (Or.inl ⟨by rfl, ?_⟩) ?_ ?_
                      rotate_left
                      · intro w'
                        go_simp
                        with_reducible rfl
                      rotate_left
                      · simp only [Act.put, List.setIfInBounds_toArray, List.set_cons_zero, List.set_cons_succ, i64_w, i32_w]
                        rfl
                      refine one_ (i := 10) (N := some 52) #[true, true, true, true, true, true, true, true, true, true, true, false, false] rfl rfl (one_of HT_.out (by kernel_rfl)) (by decide) (fun K hK => ?_)
                      refine value_ (w1 := ?_) (v := ?_) (by rfl) rfl ?_ ?_
                      rotate_left 2
                      · go_simp
                        constructor
                        · rfl
                        · rfl
                      refine hK.out _ _ ⟨(World.cell?_alloc_lt _ _ _ (World.block_lt_of_cell? _ _ (((HB.out.cell (World.block_lt_of_cell? w _ hw251_0)).trans hw251_0)))).trans (((HB.out.cell (World.block_lt_of_cell? w _ hw251_0)).trans hw251_0)), (World.cell?_alloc_lt _ _ _ (World.block_lt_of_cell? _ _ (((HB.out.cell (World.block_lt_of_cell? w _ hw252_0)).trans hw252_0)))).trans (((HB.out.cell (World.block_lt_of_cell? w _ hw252_0)).trans hw252_0))⟩ (fun hHeld => ?_)
                      clear hK K
                      refine norm_ (a' := ?_) ?_ ?_
                      rotate_left
                      · show Act.put _ (some 52) _ = _
                        simp only [Act.put, List.setIfInBounds_toArray, List.set_cons_zero, List.set_cons_succ, i64_w, i32_w]
                        rfl
                      refine one_ (i := 11) (N := some 53) #[true, true, true, true, true, true, true, true, true, true, true, true, false] rfl rfl (one_of HT_.out (by kernel_rfl)) (by decide) (fun K hK => ?_)
                      refine Kd.R_append_step (Kd.int .i64) (w0 := w) w.heap.size (by rfl) (.tmp 42) (.tmp 52) 25 3 (.int .i64 0) 8 rfl Try.underlying25 info3 rfl (by decide) (by omega) u19 x19_2 (wrap64 ((rd l3 x20_2) + (rd l7 x20_2))) [.int .i64 (wrap64 ((rd l3 x20_2) + (rd l7 x20_2)))] (fun _ => True) (fun _ => False) rfl rfl ?aP (fun _ hk => hk.elim) ?aF ?aO ?aB ?aS ?aL ?_
                      (case aP => exact rfl)
                      (case aB => exact (by repeat (first | (with_reducible first | exact HB.out | apply below_alloc | apply pw_below_drewN | apply below_drew1) | exact HB.out)))
                      (case aF => exact (fun _ _ => trivial))
                      (case aO => exact (by (with_reducible repeat (first | apply Kd.R_alloc | apply Kd.R_drewN | apply Kd.R_drew)); exact HO_19.out))
                      (case aS => exact (below_size (by repeat (first | (with_reducible first | exact HB.out | apply below_alloc | apply pw_below_drewN | apply below_drew1) | exact HB.out))))
                      (case aL => have := LMc21.out; omega)
                      intro v254 w23 ho hb hg hat
                      rw [← Ny253.out] at ho
                      have n0_ := Aside0.mk (hb)
                      have n1_ := Aside0.mk (ho)
                      clear HB
                      clear HO_19
                      have HB := n0_
                      have HO255 := n1_
                      clear n0_ n1_
                      clear ho hb hg hat
                      refine hK.out _ _ ⟨((HB.out.cell (World.block_lt_of_cell? w _ hw251_0)).trans hw251_0), ((HB.out.cell (World.block_lt_of_cell? w _ hw252_0)).trans hw252_0)⟩ (fun hHeld => ?_)
                      clear hK K
                      refine norm_ (a' := ?_) ?_ ?_
                      rotate_left
                      · show Act.put _ (some 53) _ = _
                        simp only [Act.put, List.setIfInBounds_toArray, List.set_cons_zero, List.set_cons_succ, i64_w, i32_w]
                        rfl
                      refine pure_ (i := 12) (N := some 19) (v := ?_) (a' := ?_) #[true, true, true, true, true, true, true, true, true, true, true, true, true] rfl rfl (any_of HT_.out (by kernel_rfl)) (fun _ _ _ h => h) (Or.inl ⟨by rfl, ?_⟩) ?_ ?_
                      rotate_left
                      · intro w'
                        go_simp
                        with_reducible rfl
                      rotate_left
                      · simp only [Act.put, List.setIfInBounds_toArray, List.set_cons_zero, List.set_cons_succ, i64_w, i32_w]
                        rfl
                      refine done_ (done_of HT_.out (by kernel_rfl)) ?_
                      try go_wp2
                      go_roundg k2
                      case measure => have := HJ9.out; have := HK2.out; omega
                      case rel => exact ⟨(y253), (wrap64 (x20_2 + 1)), (by first | rfl | (simp; done) | (simp [*]; done)), H', ⟨by have := HJ9.out; have := HK2.out; omega⟩, ⟨by (with_reducible repeat (first | apply Kd.R_alloc | apply Kd.R_drewN | apply Kd.R_drew)); exact HO255.out⟩, ⟨by repeat (first | (with_reducible first | exact HB.out | apply below_alloc | apply pw_below_drewN | apply below_drew1) | exact HB.out)⟩⟩
                    · rw [if_neg c21] at H
                      exact absurd H (by simp)
                  · rw [if_neg c20] at H
                    exact absurd H (by simp)
                · rw [if_neg c19] at H
                  exact absurd H (by simp)
              · rw [if_neg c18] at H
                exact absurd H (by simp)
            · rw [if_neg c17] at H
              have c17b0 : decide (x20_2 < ji16) = false := decide_eq_false c17
              clear c17
              replace H := Option.bind_eq_some_iff.mp H
              obtain ⟨⟨t256, t257, t258⟩, A240, H⟩ := H
              replace H : (if 0 ≤ ji16 then (if ji16 ≤ (l3.length : Int) then ((profile_Final.f t256 t257 t258 (l3.take (ji16 : Int).toNat)).bind fun bt260 => ((ambidexterlaw21_Motion.f a4 a5 a6).bind fun bt264 => (if ji16 ≤ (l7.length : Int) then ((profile_Final.f bt264.1 bt264.2.1 bt264.2.2 (l7.take (ji16 : Int).toNat)).bind fun bt268 => ((profile_Final.f (wrap64 ((wrap64 (a0)) + (wrap64 (a4)))) (wrap64 ((wrap64 (a1)) + (wrap64 (a5)))) (wrap64 ((wrap64 (a2)) + (wrap64 (a6)))) x19_2).bind fun bt272 => (if true = true then (if bt272.1 = (wrap64 (bt260.1 + bt268.1)) then (if bt272.2.1 = (wrap64 (bt260.2.1 + bt268.2.1)) then (some (bt272.2.2 == (wrap64 (bt260.2.2 + bt268.2.2)))) else (some false)) else (some false)) else (some false)))) else (none)))) else (none)) else (none)) = some r := H
              have A24 := Aside0.mk A240
              clear A240
              by_cases c25 : 0 ≤ ji16
              · rw [if_pos c25] at H
                have c25b0 := eq_true c25
                have c25b1 : decide (0 ≤ ji16) = true := decide_eq_true c25
                clear c25
                by_cases c26 : ji16 ≤ (l3.length : Int)
                · rw [if_pos c26] at H
                  have c26b0 := eq_true c26
                  have c26b1 : decide (ji16 ≤ (l3.length : Int)) = true := decide_eq_true c26
                  clear c26
                  replace H := Option.bind_eq_some_iff.mp H
                  obtain ⟨⟨t260, t261, t262⟩, A270, H⟩ := H
                  replace H : ((ambidexterlaw21_Motion.f a4 a5 a6).bind fun bt264 => (if ji16 ≤ (l7.length : Int) then ((profile_Final.f bt264.1 bt264.2.1 bt264.2.2 (l7.take (ji16 : Int).toNat)).bind fun bt268 => ((profile_Final.f (wrap64 ((wrap64 (a0)) + (wrap64 (a4)))) (wrap64 ((wrap64 (a1)) + (wrap64 (a5)))) (wrap64 ((wrap64 (a2)) + (wrap64 (a6)))) x19_2).bind fun bt272 => (if true = true then (if bt272.1 = (wrap64 (t260 + bt268.1)) then (if bt272.2.1 = (wrap64 (t261 + bt268.2.1)) then (some (bt272.2.2 == (wrap64 (t262 + bt268.2.2)))) else (some false)) else (some false)) else (some false)))) else (none))) = some r := H
                  have A27 := Aside0.mk A270
                  clear A270
                  replace H := Option.bind_eq_some_iff.mp H
                  obtain ⟨⟨t264, t265, t266⟩, A280, H⟩ := H
                  replace H : (if ji16 ≤ (l7.length : Int) then ((profile_Final.f t264 t265 t266 (l7.take (ji16 : Int).toNat)).bind fun bt268 => ((profile_Final.f (wrap64 ((wrap64 (a0)) + (wrap64 (a4)))) (wrap64 ((wrap64 (a1)) + (wrap64 (a5)))) (wrap64 ((wrap64 (a2)) + (wrap64 (a6)))) x19_2).bind fun bt272 => (if true = true then (if bt272.1 = (wrap64 (t260 + bt268.1)) then (if bt272.2.1 = (wrap64 (t261 + bt268.2.1)) then (some (bt272.2.2 == (wrap64 (t262 + bt268.2.2)))) else (some false)) else (some false)) else (some false)))) else (none)) = some r := H
                  have A28 := Aside0.mk A280
                  clear A280
                  have c29b0 := eq_true (of_decide_eq_true (by first | (with_reducible assumption) | assumption) : 0 ≤ ji16)
                  by_cases c30 : ji16 ≤ (l7.length : Int)
                  · rw [if_pos c30] at H
                    have c30b0 := eq_true c30
                    have c30b1 : decide (ji16 ≤ (l7.length : Int)) = true := decide_eq_true c30
                    clear c30
                    replace H := Option.bind_eq_some_iff.mp H
                    obtain ⟨⟨t268, t269, t270⟩, A310, H⟩ := H
                    replace H : ((profile_Final.f (wrap64 ((wrap64 (a0)) + (wrap64 (a4)))) (wrap64 ((wrap64 (a1)) + (wrap64 (a5)))) (wrap64 ((wrap64 (a2)) + (wrap64 (a6)))) x19_2).bind fun bt272 => (if true = true then (if bt272.1 = (wrap64 (t260 + t268)) then (if bt272.2.1 = (wrap64 (t261 + t269)) then (some (bt272.2.2 == (wrap64 (t262 + t270)))) else (some false)) else (some false)) else (some false))) = some r := H
                    have A31 := Aside0.mk A310
                    clear A310
                    replace H := Option.bind_eq_some_iff.mp H
                    obtain ⟨⟨t272, t273, t274⟩, A320, H⟩ := H
                    replace H : (if true = true then (if t272 = (wrap64 (t260 + t268)) then (if t273 = (wrap64 (t261 + t269)) then (some (t274 == (wrap64 (t262 + t270)))) else (some false)) else (some false)) else (some false)) = some r := H
                    have A32 := Aside0.mk A320
                    clear A320
                    have H1 : (if t272 = (wrap64 (t260 + t268)) then (if t273 = (wrap64 (t261 + t269)) then (some (t274 == (wrap64 (t262 + t270)))) else (some false)) else (some false)) = some r := by first | (rw [if_pos rfl] at H; exact H) | (rw [if_pos True.intro] at H; exact H)
                    clear H
                    have H := H1
                    clear H1
                    by_cases c33 : t272 = (wrap64 (t260 + t268))
                    · rw [if_pos c33] at H
                      have c33b0 : (t272 == (wrap64 (t260 + t268))) = true := beq_iff_eq.mpr c33
                      have c33b1 : (t272 != (wrap64 (t260 + t268))) = false := bne_eq_false_iff_eq.mpr c33
                      clear c33
                      by_cases c34 : t273 = (wrap64 (t261 + t269))
                      · rw [if_pos c34] at H
                        have c34b0 : (t273 == (wrap64 (t261 + t269))) = true := beq_iff_eq.mpr c34
                        have c34b1 : (t273 != (wrap64 (t261 + t269))) = false := bne_eq_false_iff_eq.mpr c34
                        clear c34
                        obtain rfl := Option.some.inj H
                        try go_wp2
                        have n0_ := Aside0.mk (Kd.R_drew HO_19.out)
                        have n1_ := Aside0.mk (below_drew1 HB.out)
                        clear HO_19
                        clear HB
                        have HO_19 := n0_
                        have HB := n1_
                        clear n0_ n1_
                        obtain ⟨i036, hi036, _, hsz36, _⟩ := info_parts info3
                        obtain ⟨hcut36, hA36, hC36⟩ := print_take_of (P := Try.prog) (Value.int .i64) 0 25 3 .i64 Try.underlying25 hi036 hsz36 A3 c3 l3 ji16 (of_decide_eq_true (by first | (with_reducible assumption) | assumption)) (of_decide_eq_true (by first | (with_reducible assumption) | assumption)) HC3.out
                        have HR259 := Aside0.mk (Kd.C_of_reads (h1 := fun _ => rfl) (hA36 _ (Kd.reads_of_C HR3.out)))
                        have HC259 := Aside0.mk hC36
                        clear hA36 hC36 hi036 hsz36
                        refine start_ (n := 10) (S := fun w' => True) (ds := []) #[false, false, false, false, false, false, false, false, false, false] (by kernel_rfl) rfl rfl trivial (fun hHeld => ?_); refine with_tabW ambidexterlaw21_ProfileSuperposition.tab10 ambidexterlaw21_ProfileSuperposition.bits10 (fun HT_ HW_ => ?_)
                        generalize wr.drew = w35 at HO_19 HB HR259 hHeld ⊢
                        refine pure_ (i := 0) (N := some 54) (v := ?_) (a' := ?_) #[true, false, false, false, false, false, false, false, false, false] rfl rfl (any_of HT_.out (by kernel_rfl)) (fun _ _ _ h => h) (Or.inl ⟨by rfl, ?_⟩) ?_ ?_
                        rotate_left
                        · intro w'
                          go_simp
                          with_reducible rfl
                        rotate_left
                        · simp only [Act.put, List.setIfInBounds_toArray, List.set_cons_zero, List.set_cons_succ, i64_w, i32_w]
                          rfl
                        refine pure_ (i := 1) (N := some 55) (v := ?_) (a' := ?_) #[true, true, false, false, false, false, false, false, false, false] rfl rfl (any_of HT_.out (by kernel_rfl)) (fun _ _ _ h => h) (Or.inl ⟨by rfl, ?_⟩) ?_ ?_
                        rotate_left
                        · intro w'
                          go_simp
                          with_reducible rfl
                        rotate_left
                        · simp only [Act.put, List.setIfInBounds_toArray, List.set_cons_zero, List.set_cons_succ, i64_w, i32_w]
                          rfl
                        refine pure_ (i := 2) (N := some 56) (v := ?_) (a' := ?_) #[true, true, true, false, false, false, false, false, false, false] rfl rfl (any_of HT_.out (by kernel_rfl)) (fun _ _ _ h => h) (Or.inl ⟨by rfl, ?_⟩) ?_ ?_
                        rotate_left
                        · intro w'
                          go_simp
                          with_reducible rfl
                        rotate_left
                        · simp only [Act.put, List.setIfInBounds_toArray, List.set_cons_zero, List.set_cons_succ, i64_w, i32_w]
                          rfl
                        refine pure_ (i := 4) (N := some 58) (v := ?_) (a' := ?_) #[true, true, true, false, true, false, false, false, false, false] rfl rfl (any_of HT_.out (by kernel_rfl)) (fun _ _ _ h => h) (Or.inl ⟨by rfl, ?_⟩) ?_ ?_
                        rotate_left
                        · intro w'
                          go_simp
                          with_reducible rfl
                        rotate_left
                        · simp only [Act.put, List.setIfInBounds_toArray, List.set_cons_zero, List.set_cons_succ, i64_w, i32_w]
                          rfl
                        refine pure_ (i := 5) (N := some 59) (v := ?_) (a' := ?_) #[true, true, true, false, true, true, false, false, false, false] rfl rfl (any_of HT_.out (by kernel_rfl)) (fun _ _ _ h => h) (Or.inl ⟨by rfl, ?_⟩) ?_ ?_
                        rotate_left
                        · intro w'
                          go_simp
                          with_reducible rfl
                        rotate_left
                        · simp only [Act.put, List.setIfInBounds_toArray, List.set_cons_zero, List.set_cons_succ, i64_w, i32_w]
                          rfl
                        refine pure_ (i := 6) (N := some 60) (v := ?_) (a' := ?_) #[true, true, true, false, true, true, true, false, false, false] rfl rfl (any_of HT_.out (by kernel_rfl)) (fun _ _ _ h => h) (Or.inl ⟨by rfl, ?_⟩) ?_ ?_
                        rotate_left
                        · intro w'
                          go_simp
                          with_reducible rfl
                        rotate_left
                        · simp only [Act.put, List.setIfInBounds_toArray, List.set_cons_zero, List.set_cons_succ, i64_w, i32_w]
                          rfl
                        refine join_ (σ := Nat) 1 #[true, true, true, true, true, true, true, true, true, false] (fun s_ => [(57, .agg #[.int .i64 t256, .int .i64 t257, .int .i64 t258]), (61, .agg #[.int .i64 t260, .int .i64 t261, .int .i64 t262]), (21, .pointer (some ⟨s_, 0, none⟩))]) (fun s_ w' => (Kd.R (Kd.int .i64) 3 w' w.heap.size (fun _ => True) u19 x19_2) ∧ (w'.heap[s_]? = some (.cells #[.int .i64 0, .int .i64 0, .int .i64 0] 29 (0, 0))) ∧ (w.heap.size ≤ s_) ∧ (w.heap.size ≤ s_) ∧ (Below w.heap.size w w')) ?_ ?_
                        rotate_left
                        · intro hCont
                          refine two_ (i := 3) (j := 8) (Ni := some 57) (Nj := some 21) #[true, true, true, true, true, true, true, false, false, false] #[true, true, true, false, true, true, true, false, true, false] rfl rfl rfl rfl (two_of HT_.out (by kernel_rfl)) (by decide) (by decide) (fun K hK => ?_) (fun K hK => ?_)
                          · skip
                            refine goes_ Try.func17 (by kernel_rfl) rfl #[.int .i16 a0, .int .i16 a1, .int .i16 a2] (by rfl) rfl rfl (by (try simp only [List.map_toArray, List.map_cons, List.map_nil]); first | done | rfl | (simp only [List.length_drop, List.length_take]; rfl)) ?_
                            with_reducible refine (ambidexterlaw21_Motion.calls a0 a1 a2 t256 t257 t258 _ A24.out).mono ?_
                            rintro e w37 ⟨rfl, hb⟩
                            refine ⟨_, rfl, ?_⟩
                            have n0_ := Aside0.mk (Kd.R_below (by (with_reducible repeat (first | apply Kd.R_alloc | apply Kd.R_drewN | apply Kd.R_drew)); exact HO_19.out) hb)
                            have n1_ := Aside0.mk (below_step (by repeat (first | (with_reducible first | exact HB.out | apply below_alloc | apply pw_below_drewN | apply below_drew1) | exact HB.out)) hb)
                            clear HO_19
                            clear HB
                            have HO_19 := n0_
                            have HB := n1_
                            clear n0_ n1_
                            (try clear hb)
                            (try clear hb2)
                            (try clear hk)
                            (try clear hi)
                            refine hK.out _ _ trivial (fun hHeld => ?_)
                            clear hK K
                            refine norm_ (a' := ?_) ?_ ?_
                            rotate_left
                            · show Act.put _ (some 57) _ = _
                              simp only [Act.put, List.setIfInBounds_toArray, List.set_cons_zero, List.set_cons_succ, i64_w, i32_w]
                              rfl
                            refine two_ (i := 7) (j := 8) (Ni := some 61) (Nj := some 21) #[true, true, true, true, true, true, true, true, false, false] #[true, true, true, true, true, true, true, false, true, false] rfl rfl rfl rfl (two_of HT_.out (by kernel_rfl)) (by decide) (by decide) (fun K hK => ?_) (fun K hK => ?_)
                            · skip
                              refine goes_ Try.func24 (by kernel_rfl) rfl #[.agg #[.int .i64 t256, .int .i64 t257, .int .i64 t258], .slice A3 (l3.take (ji16 : Int).toNat).length c3] (by rfl) rfl rfl (by (try simp only [List.map_toArray, List.map_cons, List.map_nil]); first | done | (rw [show (l3.take (ji16 : Int).toNat).length = ji16.toNat from (by rw [List.length_take]; have h_ : (ji16 : Int) ≤ (l3.length : Int) := of_decide_eq_true (by first | (with_reducible assumption) | assumption); omega)] <;> rfl) | (simp only [hji16]; rfl) | rfl | (simp only [List.length_drop, List.length_take]; rfl)) ?_
                              with_reducible refine (profile_Final.calls t256 t257 t258 _ _ (l3.take (ji16 : Int).toNat) t260 t261 t262 _ ?side1 ?side2 A27.out).mono ?_
                              (case side1 => repeat (first | exact (Kd.C_below HR259.out HB.out) | (with_reducible refine Kd.C_alloc ?_ _) | (with_reducible refine Kd.C_drewN ?_ _) | (with_reducible refine Kd.C_drew ?_)))
                              (case side2 => exact HC259.out)
                              rintro e w38 ⟨rfl, hb⟩
                              refine ⟨_, rfl, ?_⟩
                              have n0_ := Aside0.mk (Kd.R_below (by (with_reducible repeat (first | apply Kd.R_alloc | apply Kd.R_drewN | apply Kd.R_drew)); exact HO_19.out) hb)
                              have n1_ := Aside0.mk (below_step (by repeat (first | (with_reducible first | exact HB.out | apply below_alloc | apply pw_below_drewN | apply below_drew1) | exact HB.out)) hb)
                              clear HO_19
                              clear HB
                              have HO_19 := n0_
                              have HB := n1_
                              clear n0_ n1_
                              (try clear hb)
                              (try clear hb2)
                              (try clear hk)
                              (try clear hi)
                              refine hK.out _ _ trivial (fun hHeld => ?_)
                              clear hK K
                              refine norm_ (a' := ?_) ?_ ?_
                              rotate_left
                              · show Act.put _ (some 61) _ = _
                                simp only [Act.put, List.setIfInBounds_toArray, List.set_cons_zero, List.set_cons_succ, i64_w, i32_w]
                                rfl
                              refine one_ (i := 8) (N := some 21) #[true, true, true, true, true, true, true, true, true, false] rfl rfl (one_of HT_.out (by kernel_rfl)) (by decide) (fun K hK => ?_)
                              refine box_step ?hg (N := 21) ?hd (cs := #[.int .i64 0, .int .i64 0, .int .i64 0]) (t := 29) ?hr ?_; (case hd => rfl); (case hg => rfl); (case hr => first | (go_simp; done) | (go_simp; rfl))
                              intro gb263 hg w39 hbox hb
                              have n0_ := Aside0.mk (Kd.R_below (by (with_reducible repeat (first | apply Kd.R_alloc | apply Kd.R_drewN | apply Kd.R_drew)); exact HO_19.out) hb)
                              have n1_ := Aside0.mk (below_step (by repeat (first | (with_reducible first | exact HB.out | apply below_alloc | apply pw_below_drewN | apply below_drew1) | exact HB.out)) hb)
                              have n2_ := Aside0.mk (hbox)
                              have n3_ := Aside0.mk ((by rw [hg]; exact (below_size (by repeat (first | (with_reducible first | exact HB.out | apply below_alloc | apply pw_below_drewN | apply below_drew1) | exact HB.out))) : w.heap.size ≤ gb263))
                              have n4_ := Aside0.mk ((by rw [hg]; exact (below_size (by repeat (first | (with_reducible first | exact HB.out | apply below_alloc | apply pw_below_drewN | apply below_drew1) | exact HB.out))) : w.heap.size ≤ gb263))
                              clear HO_19
                              clear HB
                              have HO_19 := n0_
                              have HB := n1_
                              have BK263 := n2_
                              have GW263 := n3_
                              have GE263 := n4_
                              clear n0_ n1_ n2_ n3_ n4_
                              clear hb hbox hg
                              refine hK.out _ _ trivial (fun hHeld => ?_)
                              clear hK K
                              refine norm_ (a' := ?_) ?_ ?_
                              rotate_left
                              · show Act.put _ (some 21) _ = _
                                simp only [Act.put, List.setIfInBounds_toArray, List.set_cons_zero, List.set_cons_succ, i64_w, i32_w]
                                rfl
                              exact norm_ (by simp only [putAll, Act.put, List.setIfInBounds_toArray, List.set_cons_zero, List.set_cons_succ]) (hCont (gb263) _ ⟨(by (with_reducible repeat (first | apply Kd.R_alloc | apply Kd.R_drewN | apply Kd.R_drew)); exact HO_19.out), (by (with_reducible repeat (first | refine blk_drewN ?_ _ | refine blk_drew ?_ | refine blk_alloc ?_ _)); exact BK263.out), GW263.out, GE263.out, (by repeat (first | (with_reducible first | exact HB.out | apply below_alloc | apply pw_below_drewN | apply below_drew1 | refine below_set ?_ GE263.out) | exact HB.out))⟩)
                            · skip
                              refine box_step ?hg (N := 21) ?hd (cs := #[.int .i64 0, .int .i64 0, .int .i64 0]) (t := 29) ?hr ?_; (case hd => rfl); (case hg => rfl); (case hr => first | (go_simp; done) | (go_simp; rfl))
                              intro gb263 hg w38 hbox hb
                              have n0_ := Aside0.mk (Kd.R_below (by (with_reducible repeat (first | apply Kd.R_alloc | apply Kd.R_drewN | apply Kd.R_drew)); exact HO_19.out) hb)
                              have n1_ := Aside0.mk (below_step (by repeat (first | (with_reducible first | exact HB.out | apply below_alloc | apply pw_below_drewN | apply below_drew1) | exact HB.out)) hb)
                              have n2_ := Aside0.mk (hbox)
                              have n3_ := Aside0.mk ((by rw [hg]; exact (below_size (by repeat (first | (with_reducible first | exact HB.out | apply below_alloc | apply pw_below_drewN | apply below_drew1) | exact HB.out))) : w.heap.size ≤ gb263))
                              have n4_ := Aside0.mk ((by rw [hg]; exact (below_size (by repeat (first | (with_reducible first | exact HB.out | apply below_alloc | apply pw_below_drewN | apply below_drew1) | exact HB.out))) : w.heap.size ≤ gb263))
                              clear HO_19
                              clear HB
                              have HO_19 := n0_
                              have HB := n1_
                              have BK263 := n2_
                              have GW263 := n3_
                              have GE263 := n4_
                              clear n0_ n1_ n2_ n3_ n4_
                              clear hb hbox hg
                              refine hK.out _ _ trivial (fun hHeld => ?_)
                              clear hK K
                              refine norm_ (a' := ?_) ?_ ?_
                              rotate_left
                              · show Act.put _ (some 21) _ = _
                                simp only [Act.put, List.setIfInBounds_toArray, List.set_cons_zero, List.set_cons_succ, i64_w, i32_w]
                                rfl
                              refine one_ (i := 7) (N := some 61) #[true, true, true, true, true, true, true, true, true, false] rfl rfl (one_of HT_.out (by kernel_rfl)) (by decide) (fun K hK => ?_)
                              refine goes_ Try.func24 (by kernel_rfl) rfl #[.agg #[.int .i64 t256, .int .i64 t257, .int .i64 t258], .slice A3 (l3.take (ji16 : Int).toNat).length c3] (by rfl) rfl rfl (by (try simp only [List.map_toArray, List.map_cons, List.map_nil]); first | done | (rw [show (l3.take (ji16 : Int).toNat).length = ji16.toNat from (by rw [List.length_take]; have h_ : (ji16 : Int) ≤ (l3.length : Int) := of_decide_eq_true (by first | (with_reducible assumption) | assumption); omega)] <;> rfl) | (simp only [hji16]; rfl) | rfl | (simp only [List.length_drop, List.length_take]; rfl)) ?_
                              with_reducible refine (profile_Final.calls t256 t257 t258 _ _ (l3.take (ji16 : Int).toNat) t260 t261 t262 _ ?side1 ?side2 A27.out).mono ?_
                              (case side1 => repeat (first | exact (Kd.C_below HR259.out HB.out) | (with_reducible refine Kd.C_alloc ?_ _) | (with_reducible refine Kd.C_drewN ?_ _) | (with_reducible refine Kd.C_drew ?_)))
                              (case side2 => exact HC259.out)
                              rintro e w39 ⟨rfl, hb⟩
                              refine ⟨_, rfl, ?_⟩
                              have n0_ := Aside0.mk (Kd.R_below (by (with_reducible repeat (first | apply Kd.R_alloc | apply Kd.R_drewN | apply Kd.R_drew)); exact HO_19.out) hb)
                              have n1_ := Aside0.mk (blk_below (g := gb263) (o := .cells #[.int .i64 0, .int .i64 0, .int .i64 0] 29 (0, 0)) (by (with_reducible repeat (first | refine blk_drewN ?_ _ | refine blk_drew ?_ | refine blk_alloc ?_ _)); exact BK263.out) hb)
                              have n2_ := Aside0.mk (below_step (by repeat (first | (with_reducible first | exact HB.out | apply below_alloc | apply pw_below_drewN | apply below_drew1 | refine below_set ?_ GE263.out) | exact HB.out)) hb)
                              clear HO_19
                              clear BK263
                              clear HB
                              have HO_19 := n0_
                              have BK263 := n1_
                              have HB := n2_
                              clear n0_ n1_ n2_
                              (try clear hb)
                              (try clear hb2)
                              (try clear hk)
                              (try clear hi)
                              refine hK.out _ _ trivial (fun hHeld => ?_)
                              clear hK K
                              refine norm_ (a' := ?_) ?_ ?_
                              rotate_left
                              · show Act.put _ (some 61) _ = _
                                simp only [Act.put, List.setIfInBounds_toArray, List.set_cons_zero, List.set_cons_succ, i64_w, i32_w]
                                rfl
                              exact norm_ (by simp only [putAll, Act.put, List.setIfInBounds_toArray, List.set_cons_zero, List.set_cons_succ]) (hCont (gb263) _ ⟨(by (with_reducible repeat (first | apply Kd.R_alloc | apply Kd.R_drewN | apply Kd.R_drew)); exact HO_19.out), (by (with_reducible repeat (first | refine blk_drewN ?_ _ | refine blk_drew ?_ | refine blk_alloc ?_ _)); exact BK263.out), GW263.out, GE263.out, (by repeat (first | (with_reducible first | exact HB.out | apply below_alloc | apply pw_below_drewN | apply below_drew1 | refine below_set ?_ GE263.out) | exact HB.out))⟩)
                          · skip
                            refine box_step ?hg (N := 21) ?hd (cs := #[.int .i64 0, .int .i64 0, .int .i64 0]) (t := 29) ?hr ?_; (case hd => rfl); (case hg => rfl); (case hr => first | (go_simp; done) | (go_simp; rfl))
                            intro gb263 hg w37 hbox hb
                            have n0_ := Aside0.mk (Kd.R_below (by (with_reducible repeat (first | apply Kd.R_alloc | apply Kd.R_drewN | apply Kd.R_drew)); exact HO_19.out) hb)
                            have n1_ := Aside0.mk (below_step (by repeat (first | (with_reducible first | exact HB.out | apply below_alloc | apply pw_below_drewN | apply below_drew1) | exact HB.out)) hb)
                            have n2_ := Aside0.mk (hbox)
                            have n3_ := Aside0.mk ((by rw [hg]; exact (below_size (by repeat (first | (with_reducible first | exact HB.out | apply below_alloc | apply pw_below_drewN | apply below_drew1) | exact HB.out))) : w.heap.size ≤ gb263))
                            have n4_ := Aside0.mk ((by rw [hg]; exact (below_size (by repeat (first | (with_reducible first | exact HB.out | apply below_alloc | apply pw_below_drewN | apply below_drew1) | exact HB.out))) : w.heap.size ≤ gb263))
                            clear HO_19
                            clear HB
                            have HO_19 := n0_
                            have HB := n1_
                            have BK263 := n2_
                            have GW263 := n3_
                            have GE263 := n4_
                            clear n0_ n1_ n2_ n3_ n4_
                            clear hb hbox hg
                            refine hK.out _ _ trivial (fun hHeld => ?_)
                            clear hK K
                            refine norm_ (a' := ?_) ?_ ?_
                            rotate_left
                            · show Act.put _ (some 21) _ = _
                              simp only [Act.put, List.setIfInBounds_toArray, List.set_cons_zero, List.set_cons_succ, i64_w, i32_w]
                              rfl
                            refine one_ (i := 3) (N := some 57) #[true, true, true, true, true, true, true, false, true, false] rfl rfl (one_of HT_.out (by kernel_rfl)) (by decide) (fun K hK => ?_)
                            refine goes_ Try.func17 (by kernel_rfl) rfl #[.int .i16 a0, .int .i16 a1, .int .i16 a2] (by rfl) rfl rfl (by (try simp only [List.map_toArray, List.map_cons, List.map_nil]); first | done | rfl | (simp only [List.length_drop, List.length_take]; rfl)) ?_
                            with_reducible refine (ambidexterlaw21_Motion.calls a0 a1 a2 t256 t257 t258 _ A24.out).mono ?_
                            rintro e w38 ⟨rfl, hb⟩
                            refine ⟨_, rfl, ?_⟩
                            have n0_ := Aside0.mk (Kd.R_below (by (with_reducible repeat (first | apply Kd.R_alloc | apply Kd.R_drewN | apply Kd.R_drew)); exact HO_19.out) hb)
                            have n1_ := Aside0.mk (blk_below (g := gb263) (o := .cells #[.int .i64 0, .int .i64 0, .int .i64 0] 29 (0, 0)) (by (with_reducible repeat (first | refine blk_drewN ?_ _ | refine blk_drew ?_ | refine blk_alloc ?_ _)); exact BK263.out) hb)
                            have n2_ := Aside0.mk (below_step (by repeat (first | (with_reducible first | exact HB.out | apply below_alloc | apply pw_below_drewN | apply below_drew1 | refine below_set ?_ GE263.out) | exact HB.out)) hb)
                            clear HO_19
                            clear BK263
                            clear HB
                            have HO_19 := n0_
                            have BK263 := n1_
                            have HB := n2_
                            clear n0_ n1_ n2_
                            (try clear hb)
                            (try clear hb2)
                            (try clear hk)
                            (try clear hi)
                            refine hK.out _ _ trivial (fun hHeld => ?_)
                            clear hK K
                            refine norm_ (a' := ?_) ?_ ?_
                            rotate_left
                            · show Act.put _ (some 57) _ = _
                              simp only [Act.put, List.setIfInBounds_toArray, List.set_cons_zero, List.set_cons_succ, i64_w, i32_w]
                              rfl
                            refine one_ (i := 7) (N := some 61) #[true, true, true, true, true, true, true, true, true, false] rfl rfl (one_of HT_.out (by kernel_rfl)) (by decide) (fun K hK => ?_)
                            refine goes_ Try.func24 (by kernel_rfl) rfl #[.agg #[.int .i64 t256, .int .i64 t257, .int .i64 t258], .slice A3 (l3.take (ji16 : Int).toNat).length c3] (by rfl) rfl rfl (by (try simp only [List.map_toArray, List.map_cons, List.map_nil]); first | done | (rw [show (l3.take (ji16 : Int).toNat).length = ji16.toNat from (by rw [List.length_take]; have h_ : (ji16 : Int) ≤ (l3.length : Int) := of_decide_eq_true (by first | (with_reducible assumption) | assumption); omega)] <;> rfl) | (simp only [hji16]; rfl) | rfl | (simp only [List.length_drop, List.length_take]; rfl)) ?_
                            with_reducible refine (profile_Final.calls t256 t257 t258 _ _ (l3.take (ji16 : Int).toNat) t260 t261 t262 _ ?side1 ?side2 A27.out).mono ?_
                            (case side1 => repeat (first | exact (Kd.C_below HR259.out HB.out) | (with_reducible refine Kd.C_alloc ?_ _) | (with_reducible refine Kd.C_drewN ?_ _) | (with_reducible refine Kd.C_drew ?_)))
                            (case side2 => exact HC259.out)
                            rintro e w39 ⟨rfl, hb⟩
                            refine ⟨_, rfl, ?_⟩
                            have n0_ := Aside0.mk (Kd.R_below (by (with_reducible repeat (first | apply Kd.R_alloc | apply Kd.R_drewN | apply Kd.R_drew)); exact HO_19.out) hb)
                            have n1_ := Aside0.mk (blk_below (g := gb263) (o := .cells #[.int .i64 0, .int .i64 0, .int .i64 0] 29 (0, 0)) (by (with_reducible repeat (first | refine blk_drewN ?_ _ | refine blk_drew ?_ | refine blk_alloc ?_ _)); exact BK263.out) hb)
                            have n2_ := Aside0.mk (below_step (by repeat (first | (with_reducible first | exact HB.out | apply below_alloc | apply pw_below_drewN | apply below_drew1 | refine below_set ?_ GE263.out) | exact HB.out)) hb)
                            clear HO_19
                            clear BK263
                            clear HB
                            have HO_19 := n0_
                            have BK263 := n1_
                            have HB := n2_
                            clear n0_ n1_ n2_
                            (try clear hb)
                            (try clear hb2)
                            (try clear hk)
                            (try clear hi)
                            refine hK.out _ _ trivial (fun hHeld => ?_)
                            clear hK K
                            refine norm_ (a' := ?_) ?_ ?_
                            rotate_left
                            · show Act.put _ (some 61) _ = _
                              simp only [Act.put, List.setIfInBounds_toArray, List.set_cons_zero, List.set_cons_succ, i64_w, i32_w]
                              rfl
                            exact norm_ (by simp only [putAll, Act.put, List.setIfInBounds_toArray, List.set_cons_zero, List.set_cons_succ]) (hCont (gb263) _ ⟨(by (with_reducible repeat (first | apply Kd.R_alloc | apply Kd.R_drewN | apply Kd.R_drew)); exact HO_19.out), (by (with_reducible repeat (first | refine blk_drewN ?_ _ | refine blk_drew ?_ | refine blk_alloc ?_ _)); exact BK263.out), GW263.out, GE263.out, (by repeat (first | (with_reducible first | exact HB.out | apply below_alloc | apply pw_below_drewN | apply below_drew1 | refine below_set ?_ GE263.out) | exact HB.out))⟩)
                        rintro gb263 w40 ⟨h0_, h1_, h2_, h3_, h4_⟩
                        have n0_ : Aside0 (Kd.R (Kd.int .i64) 3 w40 w.heap.size (fun _ => True) u19 x19_2) := ⟨h0_⟩
                        have n1_ : Aside0 (w40.heap[gb263]? = some (.cells #[.int .i64 0, .int .i64 0, .int .i64 0] 29 (0, 0))) := ⟨h1_⟩
                        have n2_ : Aside0 (w.heap.size ≤ gb263) := ⟨h2_⟩
                        have n3_ : Aside0 (w.heap.size ≤ gb263) := ⟨h3_⟩
                        have n4_ : Aside0 (Below w.heap.size w w40) := ⟨h4_⟩
                        clear HO_19
                        clear HB
                        clear h0_ h1_ h2_ h3_ h4_
                        have HO_19 := n0_
                        have BK263 := n1_
                        have GW263 := n2_
                        have GE263 := n3_
                        have HB := n4_
                        clear n0_ n1_ n2_ n3_ n4_
                        have hHeld := trivial
                        refine norm_ (a' := ?_) ?_ ?_
                        rotate_left
                        · simp only [putAll, Act.put, List.setIfInBounds_toArray, List.set_cons_zero, List.set_cons_succ]
                          rfl
                        refine one_ (i := 9) (N := none) #[true, true, true, true, true, true, true, true, true, true] rfl rfl (one_of HT_.out (by kernel_rfl)) (by decide) (fun K hK => ?_)
                        have hs41 : w40.cell? ⟨gb263, 0, none⟩ = some (.int .i64 0) := (blk_cell BK263.out 0).trans rfl
                        have hfs41 := blk_frozen BK263.out 0
                        have hs42 : w40.cell? ⟨gb263, 1, none⟩ = some (.int .i64 0) := (blk_cell BK263.out 1).trans rfl
                        have hfs42 := blk_frozen BK263.out 1
                        have hs43 : w40.cell? ⟨gb263, 2, none⟩ = some (.int .i64 0) := (blk_cell BK263.out 2).trans rfl
                        have hfs43 := blk_frozen BK263.out 2
                        refine skip_ (w1 := ?_) (by rfl) rfl ?_ ?_
                        rotate_left
                        · go_simp
                          rfl
                        refine hK.out _ _ trivial (fun hHeld => ?_)
                        clear hK K
                        refine done_ (done_of HT_.out (by kernel_rfl)) ?_
                        try go_wp2
                        have n0_ : Aside0 (Kd.R (Kd.int .i64) 3 (((w40.setCell ⟨gb263, 0, none⟩ (.int .i64 t260)).setCell ⟨gb263, 1, none⟩ (.int .i64 t261)).setCell ⟨gb263, 2, none⟩ (.int .i64 t262)) w.heap.size (fun _ => True) u19 x19_2) := ⟨by (with_reducible repeat (first | apply Kd.R_alloc | apply Kd.R_drewN | apply Kd.R_drew)); exact Kd.R_mono (Kd.R_far (p := ⟨gb263, 2, none⟩) (Kd.R_far (p := ⟨gb263, 1, none⟩) (Kd.R_far (p := ⟨gb263, 0, none⟩) (Kd.R_types HO_19.out BK263.out (by decide)) (fun _ hk => hk.2) (.int .i64 t260)) (fun _ hk => hk.2) (.int .i64 t261)) (fun _ hk => hk.2) (.int .i64 t262)) (fun _ hk => trivial)⟩
                        have n1_ : Aside0 ((((w40.setCell ⟨gb263, 0, none⟩ (.int .i64 t260)).setCell ⟨gb263, 1, none⟩ (.int .i64 t261)).setCell ⟨gb263, 2, none⟩ (.int .i64 t262)).heap[gb263]? = some (.cells #[.int .i64 t260, .int .i64 t261, .int .i64 t262] 29 (0, 0))) := ⟨by (with_reducible repeat (first | refine blk_drewN ?_ _ | refine blk_drew ?_ | refine blk_alloc ?_ _)); refine blk_put (cs := #[.int .i64 t260, .int .i64 t261, .int .i64 0]) ?_ 2 _ rfl; (with_reducible repeat (first | refine blk_drewN ?_ _ | refine blk_drew ?_ | refine blk_alloc ?_ _)); refine blk_put (cs := #[.int .i64 t260, .int .i64 0, .int .i64 0]) ?_ 1 _ rfl; (with_reducible repeat (first | refine blk_drewN ?_ _ | refine blk_drew ?_ | refine blk_alloc ?_ _)); refine blk_put (cs := #[.int .i64 0, .int .i64 0, .int .i64 0]) ?_ 0 _ rfl; (with_reducible repeat (first | refine blk_drewN ?_ _ | refine blk_drew ?_ | refine blk_alloc ?_ _)); exact BK263.out⟩
                        have n2_ : Aside0 (Below w.heap.size w (((w40.setCell ⟨gb263, 0, none⟩ (.int .i64 t260)).setCell ⟨gb263, 1, none⟩ (.int .i64 t261)).setCell ⟨gb263, 2, none⟩ (.int .i64 t262))) := ⟨by repeat (first | (with_reducible first | exact HB.out | apply below_alloc | apply pw_below_drewN | apply below_drew1 | refine below_set ?_ GE263.out) | exact HB.out)⟩
                        (try clear HO_19)
                        (try clear BK263)
                        (try clear HB)
                        generalize (((w40.setCell ⟨gb263, 0, none⟩ (.int .i64 t260)).setCell ⟨gb263, 1, none⟩ (.int .i64 t261)).setCell ⟨gb263, 2, none⟩ (.int .i64 t262)) = w44 at n0_ n1_ n2_ ⊢
                        have HO_19 := n0_
                        have BK263 := n1_
                        have HB := n2_
                        clear n0_ n1_ n2_
                        have n0_ := Aside0.mk (Kd.R_drew HO_19.out)
                        have n1_ := Aside0.mk (blk_drew BK263.out)
                        have n2_ := Aside0.mk (below_drew1 HB.out)
                        clear HO_19
                        clear BK263
                        clear HB
                        have HO_19 := n0_
                        have BK263 := n1_
                        have HB := n2_
                        clear n0_ n1_ n2_
                        obtain ⟨i046, hi046, _, hsz46, _⟩ := info_parts info3
                        obtain ⟨hcut46, hA46, hC46⟩ := print_take_of (P := Try.prog) (Value.int .i64) 0 25 3 .i64 Try.underlying25 hi046 hsz46 A7 c7 l7 ji16 (of_decide_eq_true (by first | (with_reducible assumption) | assumption)) (of_decide_eq_true (by first | (with_reducible assumption) | assumption)) HC7.out
                        have HR267 := Aside0.mk (Kd.C_of_reads (h1 := fun _ => rfl) (hA46 _ (Kd.reads_of_C HR7.out)))
                        have HC267 := Aside0.mk hC46
                        clear hA46 hC46 hi046 hsz46
                        refine start_ (n := 10) (S := fun w' => True) (ds := []) #[false, false, false, false, false, false, false, false, false, false] (by kernel_rfl) rfl rfl trivial (fun hHeld => ?_); refine with_tabW ambidexterlaw21_ProfileSuperposition.tab11 ambidexterlaw21_ProfileSuperposition.bits11 (fun HT_ HW_ => ?_)
                        generalize w44.drew = w45 at HO_19 BK263 HB HR267 hHeld ⊢
                        refine pure_ (i := 0) (N := some 62) (v := ?_) (a' := ?_) #[true, false, false, false, false, false, false, false, false, false] rfl rfl (any_of HT_.out (by kernel_rfl)) (fun _ _ _ h => h) (Or.inl ⟨by rfl, ?_⟩) ?_ ?_
                        rotate_left
                        · intro w'
                          go_simp
                          with_reducible rfl
                        rotate_left
                        · simp only [Act.put, List.setIfInBounds_toArray, List.set_cons_zero, List.set_cons_succ, i64_w, i32_w]
                          rfl
                        refine pure_ (i := 1) (N := some 63) (v := ?_) (a' := ?_) #[true, true, false, false, false, false, false, false, false, false] rfl rfl (any_of HT_.out (by kernel_rfl)) (fun _ _ _ h => h) (Or.inl ⟨by rfl, ?_⟩) ?_ ?_
                        rotate_left
                        · intro w'
                          go_simp
                          with_reducible rfl
                        rotate_left
                        · simp only [Act.put, List.setIfInBounds_toArray, List.set_cons_zero, List.set_cons_succ, i64_w, i32_w]
                          rfl
                        refine pure_ (i := 2) (N := some 64) (v := ?_) (a' := ?_) #[true, true, true, false, false, false, false, false, false, false] rfl rfl (any_of HT_.out (by kernel_rfl)) (fun _ _ _ h => h) (Or.inl ⟨by rfl, ?_⟩) ?_ ?_
                        rotate_left
                        · intro w'
                          go_simp
                          with_reducible rfl
                        rotate_left
                        · simp only [Act.put, List.setIfInBounds_toArray, List.set_cons_zero, List.set_cons_succ, i64_w, i32_w]
                          rfl
                        refine pure_ (i := 4) (N := some 66) (v := ?_) (a' := ?_) #[true, true, true, false, true, false, false, false, false, false] rfl rfl (any_of HT_.out (by kernel_rfl)) (fun _ _ _ h => h) (Or.inl ⟨by rfl, ?_⟩) ?_ ?_
                        rotate_left
                        · intro w'
                          go_simp
                          with_reducible rfl
                        rotate_left
                        · simp only [Act.put, List.setIfInBounds_toArray, List.set_cons_zero, List.set_cons_succ, i64_w, i32_w]
                          rfl
                        refine pure_ (i := 5) (N := some 67) (v := ?_) (a' := ?_) #[true, true, true, false, true, true, false, false, false, false] rfl rfl (any_of HT_.out (by kernel_rfl)) (fun _ _ _ h => h) (Or.inl ⟨by rfl, ?_⟩) ?_ ?_
                        rotate_left
                        · intro w'
                          go_simp
                          with_reducible rfl
                        rotate_left
                        · simp only [Act.put, List.setIfInBounds_toArray, List.set_cons_zero, List.set_cons_succ, i64_w, i32_w]
                          rfl
                        refine pure_ (i := 6) (N := some 68) (v := ?_) (a' := ?_) #[true, true, true, false, true, true, true, false, false, false] rfl rfl (any_of HT_.out (by kernel_rfl)) (fun _ _ _ h => h) (Or.inl ⟨by rfl, ?_⟩) ?_ ?_
                        rotate_left
                        · intro w'
                          go_simp
                          with_reducible rfl
                        rotate_left
                        · simp only [Act.put, List.setIfInBounds_toArray, List.set_cons_zero, List.set_cons_succ, i64_w, i32_w]
                          rfl
                        refine join_ (σ := Nat) 1 #[true, true, true, true, true, true, true, true, true, false] (fun s_ => [(65, .agg #[.int .i64 t264, .int .i64 t265, .int .i64 t266]), (69, .agg #[.int .i64 t268, .int .i64 t269, .int .i64 t270]), (22, .pointer (some ⟨s_, 0, none⟩))]) (fun s_ w' => (Kd.R (Kd.int .i64) 3 w' w.heap.size (fun _ => True) u19 x19_2) ∧ (w'.heap[gb263]? = some (.cells #[.int .i64 t260, .int .i64 t261, .int .i64 t262] 29 (0, 0))) ∧ (w'.heap[s_]? = some (.cells #[.int .i64 0, .int .i64 0, .int .i64 0] 29 (0, 0))) ∧ (w.heap.size ≤ s_) ∧ (w.heap.size ≤ s_) ∧ (gb263 ≠ s_) ∧ (s_ ≠ gb263) ∧ (Below w.heap.size w w')) ?_ ?_
                        rotate_left
                        · intro hCont
                          refine two_ (i := 3) (j := 8) (Ni := some 65) (Nj := some 22) #[true, true, true, true, true, true, true, false, false, false] #[true, true, true, false, true, true, true, false, true, false] rfl rfl rfl rfl (two_of HT_.out (by kernel_rfl)) (by decide) (by decide) (fun K hK => ?_) (fun K hK => ?_)
                          · skip
                            refine goes_ Try.func17 (by kernel_rfl) rfl #[.int .i16 a4, .int .i16 a5, .int .i16 a6] (by rfl) rfl rfl (by (try simp only [List.map_toArray, List.map_cons, List.map_nil]); first | done | rfl | (simp only [List.length_drop, List.length_take]; rfl)) ?_
                            with_reducible refine (ambidexterlaw21_Motion.calls a4 a5 a6 t264 t265 t266 _ A28.out).mono ?_
                            rintro e w47 ⟨rfl, hb⟩
                            refine ⟨_, rfl, ?_⟩
                            have n0_ := Aside0.mk (Kd.R_below (by (with_reducible repeat (first | apply Kd.R_alloc | apply Kd.R_drewN | apply Kd.R_drew)); exact HO_19.out) hb)
                            have n1_ := Aside0.mk (blk_below (g := gb263) (o := .cells #[.int .i64 t260, .int .i64 t261, .int .i64 t262] 29 (0, 0)) (by (with_reducible repeat (first | refine blk_drewN ?_ _ | refine blk_drew ?_ | refine blk_alloc ?_ _)); exact BK263.out) hb)
                            have n2_ := Aside0.mk (below_step (by repeat (first | (with_reducible first | exact HB.out | apply below_alloc | apply pw_below_drewN | apply below_drew1 | refine below_set ?_ GE263.out) | exact HB.out)) hb)
                            clear HO_19
                            clear BK263
                            clear HB
                            have HO_19 := n0_
                            have BK263 := n1_
                            have HB := n2_
                            clear n0_ n1_ n2_
                            (try clear hb)
                            (try clear hb2)
                            (try clear hk)
                            (try clear hi)
                            refine hK.out _ _ trivial (fun hHeld => ?_)
                            clear hK K
                            refine norm_ (a' := ?_) ?_ ?_
                            rotate_left
                            · show Act.put _ (some 65) _ = _
                              simp only [Act.put, List.setIfInBounds_toArray, List.set_cons_zero, List.set_cons_succ, i64_w, i32_w]
                              rfl
                            refine two_ (i := 7) (j := 8) (Ni := some 69) (Nj := some 22) #[true, true, true, true, true, true, true, true, false, false] #[true, true, true, true, true, true, true, false, true, false] rfl rfl rfl rfl (two_of HT_.out (by kernel_rfl)) (by decide) (by decide) (fun K hK => ?_) (fun K hK => ?_)
                            · skip
                              refine goes_ Try.func24 (by kernel_rfl) rfl #[.agg #[.int .i64 t264, .int .i64 t265, .int .i64 t266], .slice A7 (l7.take (ji16 : Int).toNat).length c7] (by rfl) rfl rfl (by (try simp only [List.map_toArray, List.map_cons, List.map_nil]); first | done | (rw [show (l7.take (ji16 : Int).toNat).length = ji16.toNat from (by rw [List.length_take]; have h_ : (ji16 : Int) ≤ (l7.length : Int) := of_decide_eq_true (by first | (with_reducible assumption) | assumption); omega)] <;> rfl) | (simp only [hji16]; rfl) | rfl | (simp only [List.length_drop, List.length_take]; rfl)) ?_
                              with_reducible refine (profile_Final.calls t264 t265 t266 _ _ (l7.take (ji16 : Int).toNat) t268 t269 t270 _ ?side1 ?side2 A31.out).mono ?_
                              (case side1 => repeat (first | exact (Kd.C_below HR267.out HB.out) | (with_reducible refine Kd.C_alloc ?_ _) | (with_reducible refine Kd.C_drewN ?_ _) | (with_reducible refine Kd.C_drew ?_)))
                              (case side2 => exact HC267.out)
                              rintro e w48 ⟨rfl, hb⟩
                              refine ⟨_, rfl, ?_⟩
                              have n0_ := Aside0.mk (Kd.R_below (by (with_reducible repeat (first | apply Kd.R_alloc | apply Kd.R_drewN | apply Kd.R_drew)); exact HO_19.out) hb)
                              have n1_ := Aside0.mk (blk_below (g := gb263) (o := .cells #[.int .i64 t260, .int .i64 t261, .int .i64 t262] 29 (0, 0)) (by (with_reducible repeat (first | refine blk_drewN ?_ _ | refine blk_drew ?_ | refine blk_alloc ?_ _)); exact BK263.out) hb)
                              have n2_ := Aside0.mk (below_step (by repeat (first | (with_reducible first | exact HB.out | apply below_alloc | apply pw_below_drewN | apply below_drew1 | refine below_set ?_ GE263.out) | exact HB.out)) hb)
                              clear HO_19
                              clear BK263
                              clear HB
                              have HO_19 := n0_
                              have BK263 := n1_
                              have HB := n2_
                              clear n0_ n1_ n2_
                              (try clear hb)
                              (try clear hb2)
                              (try clear hk)
                              (try clear hi)
                              refine hK.out _ _ trivial (fun hHeld => ?_)
                              clear hK K
                              refine norm_ (a' := ?_) ?_ ?_
                              rotate_left
                              · show Act.put _ (some 69) _ = _
                                simp only [Act.put, List.setIfInBounds_toArray, List.set_cons_zero, List.set_cons_succ, i64_w, i32_w]
                                rfl
                              refine one_ (i := 8) (N := some 22) #[true, true, true, true, true, true, true, true, true, false] rfl rfl (one_of HT_.out (by kernel_rfl)) (by decide) (fun K hK => ?_)
                              refine box_step ?hg (N := 22) ?hd (cs := #[.int .i64 0, .int .i64 0, .int .i64 0]) (t := 29) ?hr ?_; (case hd => rfl); (case hg => rfl); (case hr => first | (go_simp; done) | (go_simp; rfl))
                              intro gb271 hg w49 hbox hb
                              have n0_ := Aside0.mk (Kd.R_below (by (with_reducible repeat (first | apply Kd.R_alloc | apply Kd.R_drewN | apply Kd.R_drew)); exact HO_19.out) hb)
                              have n1_ := Aside0.mk (blk_below (g := gb263) (o := .cells #[.int .i64 t260, .int .i64 t261, .int .i64 t262] 29 (0, 0)) (by (with_reducible repeat (first | refine blk_drewN ?_ _ | refine blk_drew ?_ | refine blk_alloc ?_ _)); exact BK263.out) hb)
                              have n2_ := Aside0.mk (below_step (by repeat (first | (with_reducible first | exact HB.out | apply below_alloc | apply pw_below_drewN | apply below_drew1 | refine below_set ?_ GE263.out) | exact HB.out)) hb)
                              have n3_ := Aside0.mk (hbox)
                              have n4_ := Aside0.mk ((by rw [hg]; exact (below_size (by repeat (first | (with_reducible first | exact HB.out | apply below_alloc | apply pw_below_drewN | apply below_drew1 | refine below_set ?_ GE263.out) | exact HB.out))) : w.heap.size ≤ gb271))
                              have n5_ := Aside0.mk ((by rw [hg]; exact (below_size (by repeat (first | (with_reducible first | exact HB.out | apply below_alloc | apply pw_below_drewN | apply below_drew1 | refine below_set ?_ GE263.out) | exact HB.out))) : w.heap.size ≤ gb271))
                              have n6_ := Aside0.mk ((by rw [hg]; exact Nat.ne_of_lt (blk_lt (g := gb263) (o := .cells #[.int .i64 t260, .int .i64 t261, .int .i64 t262] 29 (0, 0)) (by (with_reducible repeat (first | refine blk_drewN ?_ _ | refine blk_drew ?_ | refine blk_alloc ?_ _)); exact BK263.out)) : gb263 ≠ gb271))
                              have n7_ := Aside0.mk ((by rw [hg]; exact Nat.ne_of_gt (blk_lt (g := gb263) (o := .cells #[.int .i64 t260, .int .i64 t261, .int .i64 t262] 29 (0, 0)) (by (with_reducible repeat (first | refine blk_drewN ?_ _ | refine blk_drew ?_ | refine blk_alloc ?_ _)); exact BK263.out)) : gb271 ≠ gb263))
                              clear HO_19
                              clear BK263
                              clear HB
                              have HO_19 := n0_
                              have BK263 := n1_
                              have HB := n2_
                              have BK271 := n3_
                              have GW271 := n4_
                              have GE271 := n5_
                              have NB263_271 := n6_
                              have NB271_263 := n7_
                              clear n0_ n1_ n2_ n3_ n4_ n5_ n6_ n7_
                              clear hb hbox hg
                              refine hK.out _ _ trivial (fun hHeld => ?_)
                              clear hK K
                              refine norm_ (a' := ?_) ?_ ?_
                              rotate_left
                              · show Act.put _ (some 22) _ = _
                                simp only [Act.put, List.setIfInBounds_toArray, List.set_cons_zero, List.set_cons_succ, i64_w, i32_w]
                                rfl
                              exact norm_ (by simp only [putAll, Act.put, List.setIfInBounds_toArray, List.set_cons_zero, List.set_cons_succ]) (hCont (gb271) _ ⟨(by (with_reducible repeat (first | apply Kd.R_alloc | apply Kd.R_drewN | apply Kd.R_drew)); exact HO_19.out), (by (with_reducible repeat (first | refine blk_drewN ?_ _ | refine blk_drew ?_ | refine blk_alloc ?_ _)); exact BK263.out), (by (with_reducible repeat (first | refine blk_drewN ?_ _ | refine blk_drew ?_ | refine blk_alloc ?_ _)); exact BK271.out), GW271.out, GE271.out, NB263_271.out, NB271_263.out, (by repeat (first | (with_reducible first | exact HB.out | apply below_alloc | apply pw_below_drewN | apply below_drew1 | refine below_set ?_ GE263.out | refine below_set ?_ GE271.out) | exact HB.out))⟩)
                            · skip
                              refine box_step ?hg (N := 22) ?hd (cs := #[.int .i64 0, .int .i64 0, .int .i64 0]) (t := 29) ?hr ?_; (case hd => rfl); (case hg => rfl); (case hr => first | (go_simp; done) | (go_simp; rfl))
                              intro gb271 hg w48 hbox hb
                              have n0_ := Aside0.mk (Kd.R_below (by (with_reducible repeat (first | apply Kd.R_alloc | apply Kd.R_drewN | apply Kd.R_drew)); exact HO_19.out) hb)
                              have n1_ := Aside0.mk (blk_below (g := gb263) (o := .cells #[.int .i64 t260, .int .i64 t261, .int .i64 t262] 29 (0, 0)) (by (with_reducible repeat (first | refine blk_drewN ?_ _ | refine blk_drew ?_ | refine blk_alloc ?_ _)); exact BK263.out) hb)
                              have n2_ := Aside0.mk (below_step (by repeat (first | (with_reducible first | exact HB.out | apply below_alloc | apply pw_below_drewN | apply below_drew1 | refine below_set ?_ GE263.out) | exact HB.out)) hb)
                              have n3_ := Aside0.mk (hbox)
                              have n4_ := Aside0.mk ((by rw [hg]; exact (below_size (by repeat (first | (with_reducible first | exact HB.out | apply below_alloc | apply pw_below_drewN | apply below_drew1 | refine below_set ?_ GE263.out) | exact HB.out))) : w.heap.size ≤ gb271))
                              have n5_ := Aside0.mk ((by rw [hg]; exact (below_size (by repeat (first | (with_reducible first | exact HB.out | apply below_alloc | apply pw_below_drewN | apply below_drew1 | refine below_set ?_ GE263.out) | exact HB.out))) : w.heap.size ≤ gb271))
                              have n6_ := Aside0.mk ((by rw [hg]; exact Nat.ne_of_lt (blk_lt (g := gb263) (o := .cells #[.int .i64 t260, .int .i64 t261, .int .i64 t262] 29 (0, 0)) (by (with_reducible repeat (first | refine blk_drewN ?_ _ | refine blk_drew ?_ | refine blk_alloc ?_ _)); exact BK263.out)) : gb263 ≠ gb271))
                              have n7_ := Aside0.mk ((by rw [hg]; exact Nat.ne_of_gt (blk_lt (g := gb263) (o := .cells #[.int .i64 t260, .int .i64 t261, .int .i64 t262] 29 (0, 0)) (by (with_reducible repeat (first | refine blk_drewN ?_ _ | refine blk_drew ?_ | refine blk_alloc ?_ _)); exact BK263.out)) : gb271 ≠ gb263))
                              clear HO_19
                              clear BK263
                              clear HB
                              have HO_19 := n0_
                              have BK263 := n1_
                              have HB := n2_
                              have BK271 := n3_
                              have GW271 := n4_
                              have GE271 := n5_
                              have NB263_271 := n6_
                              have NB271_263 := n7_
                              clear n0_ n1_ n2_ n3_ n4_ n5_ n6_ n7_
                              clear hb hbox hg
                              refine hK.out _ _ trivial (fun hHeld => ?_)
                              clear hK K
                              refine norm_ (a' := ?_) ?_ ?_
                              rotate_left
                              · show Act.put _ (some 22) _ = _
                                simp only [Act.put, List.setIfInBounds_toArray, List.set_cons_zero, List.set_cons_succ, i64_w, i32_w]
                                rfl
                              refine one_ (i := 7) (N := some 69) #[true, true, true, true, true, true, true, true, true, false] rfl rfl (one_of HT_.out (by kernel_rfl)) (by decide) (fun K hK => ?_)
                              refine goes_ Try.func24 (by kernel_rfl) rfl #[.agg #[.int .i64 t264, .int .i64 t265, .int .i64 t266], .slice A7 (l7.take (ji16 : Int).toNat).length c7] (by rfl) rfl rfl (by (try simp only [List.map_toArray, List.map_cons, List.map_nil]); first | done | (rw [show (l7.take (ji16 : Int).toNat).length = ji16.toNat from (by rw [List.length_take]; have h_ : (ji16 : Int) ≤ (l7.length : Int) := of_decide_eq_true (by first | (with_reducible assumption) | assumption); omega)] <;> rfl) | (simp only [hji16]; rfl) | rfl | (simp only [List.length_drop, List.length_take]; rfl)) ?_
                              with_reducible refine (profile_Final.calls t264 t265 t266 _ _ (l7.take (ji16 : Int).toNat) t268 t269 t270 _ ?side1 ?side2 A31.out).mono ?_
                              (case side1 => repeat (first | exact (Kd.C_below HR267.out HB.out) | (with_reducible refine Kd.C_alloc ?_ _) | (with_reducible refine Kd.C_drewN ?_ _) | (with_reducible refine Kd.C_drew ?_)))
                              (case side2 => exact HC267.out)
                              rintro e w49 ⟨rfl, hb⟩
                              refine ⟨_, rfl, ?_⟩
                              have n0_ := Aside0.mk (Kd.R_below (by (with_reducible repeat (first | apply Kd.R_alloc | apply Kd.R_drewN | apply Kd.R_drew)); exact HO_19.out) hb)
                              have n1_ := Aside0.mk (blk_below (g := gb263) (o := .cells #[.int .i64 t260, .int .i64 t261, .int .i64 t262] 29 (0, 0)) (by (with_reducible repeat (first | refine blk_drewN ?_ _ | refine blk_drew ?_ | refine blk_alloc ?_ _)); exact BK263.out) hb)
                              have n2_ := Aside0.mk (blk_below (g := gb271) (o := .cells #[.int .i64 0, .int .i64 0, .int .i64 0] 29 (0, 0)) (by (with_reducible repeat (first | refine blk_drewN ?_ _ | refine blk_drew ?_ | refine blk_alloc ?_ _)); exact BK271.out) hb)
                              have n3_ := Aside0.mk (below_step (by repeat (first | (with_reducible first | exact HB.out | apply below_alloc | apply pw_below_drewN | apply below_drew1 | refine below_set ?_ GE263.out | refine below_set ?_ GE271.out) | exact HB.out)) hb)
                              clear HO_19
                              clear BK263
                              clear BK271
                              clear HB
                              have HO_19 := n0_
                              have BK263 := n1_
                              have BK271 := n2_
                              have HB := n3_
                              clear n0_ n1_ n2_ n3_
                              (try clear hb)
                              (try clear hb2)
                              (try clear hk)
                              (try clear hi)
                              refine hK.out _ _ trivial (fun hHeld => ?_)
                              clear hK K
                              refine norm_ (a' := ?_) ?_ ?_
                              rotate_left
                              · show Act.put _ (some 69) _ = _
                                simp only [Act.put, List.setIfInBounds_toArray, List.set_cons_zero, List.set_cons_succ, i64_w, i32_w]
                                rfl
                              exact norm_ (by simp only [putAll, Act.put, List.setIfInBounds_toArray, List.set_cons_zero, List.set_cons_succ]) (hCont (gb271) _ ⟨(by (with_reducible repeat (first | apply Kd.R_alloc | apply Kd.R_drewN | apply Kd.R_drew)); exact HO_19.out), (by (with_reducible repeat (first | refine blk_drewN ?_ _ | refine blk_drew ?_ | refine blk_alloc ?_ _)); exact BK263.out), (by (with_reducible repeat (first | refine blk_drewN ?_ _ | refine blk_drew ?_ | refine blk_alloc ?_ _)); exact BK271.out), GW271.out, GE271.out, NB263_271.out, NB271_263.out, (by repeat (first | (with_reducible first | exact HB.out | apply below_alloc | apply pw_below_drewN | apply below_drew1 | refine below_set ?_ GE263.out | refine below_set ?_ GE271.out) | exact HB.out))⟩)
                          · skip
                            refine box_step ?hg (N := 22) ?hd (cs := #[.int .i64 0, .int .i64 0, .int .i64 0]) (t := 29) ?hr ?_; (case hd => rfl); (case hg => rfl); (case hr => first | (go_simp; done) | (go_simp; rfl))
                            intro gb271 hg w47 hbox hb
                            have n0_ := Aside0.mk (Kd.R_below (by (with_reducible repeat (first | apply Kd.R_alloc | apply Kd.R_drewN | apply Kd.R_drew)); exact HO_19.out) hb)
                            have n1_ := Aside0.mk (blk_below (g := gb263) (o := .cells #[.int .i64 t260, .int .i64 t261, .int .i64 t262] 29 (0, 0)) (by (with_reducible repeat (first | refine blk_drewN ?_ _ | refine blk_drew ?_ | refine blk_alloc ?_ _)); exact BK263.out) hb)
                            have n2_ := Aside0.mk (below_step (by repeat (first | (with_reducible first | exact HB.out | apply below_alloc | apply pw_below_drewN | apply below_drew1 | refine below_set ?_ GE263.out) | exact HB.out)) hb)
                            have n3_ := Aside0.mk (hbox)
                            have n4_ := Aside0.mk ((by rw [hg]; exact (below_size (by repeat (first | (with_reducible first | exact HB.out | apply below_alloc | apply pw_below_drewN | apply below_drew1 | refine below_set ?_ GE263.out) | exact HB.out))) : w.heap.size ≤ gb271))
                            have n5_ := Aside0.mk ((by rw [hg]; exact (below_size (by repeat (first | (with_reducible first | exact HB.out | apply below_alloc | apply pw_below_drewN | apply below_drew1 | refine below_set ?_ GE263.out) | exact HB.out))) : w.heap.size ≤ gb271))
                            have n6_ := Aside0.mk ((by rw [hg]; exact Nat.ne_of_lt (blk_lt (g := gb263) (o := .cells #[.int .i64 t260, .int .i64 t261, .int .i64 t262] 29 (0, 0)) (by (with_reducible repeat (first | refine blk_drewN ?_ _ | refine blk_drew ?_ | refine blk_alloc ?_ _)); exact BK263.out)) : gb263 ≠ gb271))
                            have n7_ := Aside0.mk ((by rw [hg]; exact Nat.ne_of_gt (blk_lt (g := gb263) (o := .cells #[.int .i64 t260, .int .i64 t261, .int .i64 t262] 29 (0, 0)) (by (with_reducible repeat (first | refine blk_drewN ?_ _ | refine blk_drew ?_ | refine blk_alloc ?_ _)); exact BK263.out)) : gb271 ≠ gb263))
                            clear HO_19
                            clear BK263
                            clear HB
                            have HO_19 := n0_
                            have BK263 := n1_
                            have HB := n2_
                            have BK271 := n3_
                            have GW271 := n4_
                            have GE271 := n5_
                            have NB263_271 := n6_
                            have NB271_263 := n7_
                            clear n0_ n1_ n2_ n3_ n4_ n5_ n6_ n7_
                            clear hb hbox hg
                            refine hK.out _ _ trivial (fun hHeld => ?_)
                            clear hK K
                            refine norm_ (a' := ?_) ?_ ?_
                            rotate_left
                            · show Act.put _ (some 22) _ = _
                              simp only [Act.put, List.setIfInBounds_toArray, List.set_cons_zero, List.set_cons_succ, i64_w, i32_w]
                              rfl
                            refine one_ (i := 3) (N := some 65) #[true, true, true, true, true, true, true, false, true, false] rfl rfl (one_of HT_.out (by kernel_rfl)) (by decide) (fun K hK => ?_)
                            refine goes_ Try.func17 (by kernel_rfl) rfl #[.int .i16 a4, .int .i16 a5, .int .i16 a6] (by rfl) rfl rfl (by (try simp only [List.map_toArray, List.map_cons, List.map_nil]); first | done | rfl | (simp only [List.length_drop, List.length_take]; rfl)) ?_
                            with_reducible refine (ambidexterlaw21_Motion.calls a4 a5 a6 t264 t265 t266 _ A28.out).mono ?_
                            rintro e w48 ⟨rfl, hb⟩
                            refine ⟨_, rfl, ?_⟩
                            have n0_ := Aside0.mk (Kd.R_below (by (with_reducible repeat (first | apply Kd.R_alloc | apply Kd.R_drewN | apply Kd.R_drew)); exact HO_19.out) hb)
                            have n1_ := Aside0.mk (blk_below (g := gb263) (o := .cells #[.int .i64 t260, .int .i64 t261, .int .i64 t262] 29 (0, 0)) (by (with_reducible repeat (first | refine blk_drewN ?_ _ | refine blk_drew ?_ | refine blk_alloc ?_ _)); exact BK263.out) hb)
                            have n2_ := Aside0.mk (blk_below (g := gb271) (o := .cells #[.int .i64 0, .int .i64 0, .int .i64 0] 29 (0, 0)) (by (with_reducible repeat (first | refine blk_drewN ?_ _ | refine blk_drew ?_ | refine blk_alloc ?_ _)); exact BK271.out) hb)
                            have n3_ := Aside0.mk (below_step (by repeat (first | (with_reducible first | exact HB.out | apply below_alloc | apply pw_below_drewN | apply below_drew1 | refine below_set ?_ GE263.out | refine below_set ?_ GE271.out) | exact HB.out)) hb)
                            clear HO_19
                            clear BK263
                            clear BK271
                            clear HB
                            have HO_19 := n0_
                            have BK263 := n1_
                            have BK271 := n2_
                            have HB := n3_
                            clear n0_ n1_ n2_ n3_
                            (try clear hb)
                            (try clear hb2)
                            (try clear hk)
                            (try clear hi)
                            refine hK.out _ _ trivial (fun hHeld => ?_)
                            clear hK K
                            refine norm_ (a' := ?_) ?_ ?_
                            rotate_left
                            · show Act.put _ (some 65) _ = _
                              simp only [Act.put, List.setIfInBounds_toArray, List.set_cons_zero, List.set_cons_succ, i64_w, i32_w]
                              rfl
                            refine one_ (i := 7) (N := some 69) #[true, true, true, true, true, true, true, true, true, false] rfl rfl (one_of HT_.out (by kernel_rfl)) (by decide) (fun K hK => ?_)
                            refine goes_ Try.func24 (by kernel_rfl) rfl #[.agg #[.int .i64 t264, .int .i64 t265, .int .i64 t266], .slice A7 (l7.take (ji16 : Int).toNat).length c7] (by rfl) rfl rfl (by (try simp only [List.map_toArray, List.map_cons, List.map_nil]); first | done | (rw [show (l7.take (ji16 : Int).toNat).length = ji16.toNat from (by rw [List.length_take]; have h_ : (ji16 : Int) ≤ (l7.length : Int) := of_decide_eq_true (by first | (with_reducible assumption) | assumption); omega)] <;> rfl) | (simp only [hji16]; rfl) | rfl | (simp only [List.length_drop, List.length_take]; rfl)) ?_
                            with_reducible refine (profile_Final.calls t264 t265 t266 _ _ (l7.take (ji16 : Int).toNat) t268 t269 t270 _ ?side1 ?side2 A31.out).mono ?_
                            (case side1 => repeat (first | exact (Kd.C_below HR267.out HB.out) | (with_reducible refine Kd.C_alloc ?_ _) | (with_reducible refine Kd.C_drewN ?_ _) | (with_reducible refine Kd.C_drew ?_)))
                            (case side2 => exact HC267.out)
                            rintro e w49 ⟨rfl, hb⟩
                            refine ⟨_, rfl, ?_⟩
                            have n0_ := Aside0.mk (Kd.R_below (by (with_reducible repeat (first | apply Kd.R_alloc | apply Kd.R_drewN | apply Kd.R_drew)); exact HO_19.out) hb)
                            have n1_ := Aside0.mk (blk_below (g := gb263) (o := .cells #[.int .i64 t260, .int .i64 t261, .int .i64 t262] 29 (0, 0)) (by (with_reducible repeat (first | refine blk_drewN ?_ _ | refine blk_drew ?_ | refine blk_alloc ?_ _)); exact BK263.out) hb)
                            have n2_ := Aside0.mk (blk_below (g := gb271) (o := .cells #[.int .i64 0, .int .i64 0, .int .i64 0] 29 (0, 0)) (by (with_reducible repeat (first | refine blk_drewN ?_ _ | refine blk_drew ?_ | refine blk_alloc ?_ _)); exact BK271.out) hb)
                            have n3_ := Aside0.mk (below_step (by repeat (first | (with_reducible first | exact HB.out | apply below_alloc | apply pw_below_drewN | apply below_drew1 | refine below_set ?_ GE263.out | refine below_set ?_ GE271.out) | exact HB.out)) hb)
                            clear HO_19
                            clear BK263
                            clear BK271
                            clear HB
                            have HO_19 := n0_
                            have BK263 := n1_
                            have BK271 := n2_
                            have HB := n3_
                            clear n0_ n1_ n2_ n3_
                            (try clear hb)
                            (try clear hb2)
                            (try clear hk)
                            (try clear hi)
                            refine hK.out _ _ trivial (fun hHeld => ?_)
                            clear hK K
                            refine norm_ (a' := ?_) ?_ ?_
                            rotate_left
                            · show Act.put _ (some 69) _ = _
                              simp only [Act.put, List.setIfInBounds_toArray, List.set_cons_zero, List.set_cons_succ, i64_w, i32_w]
                              rfl
                            exact norm_ (by simp only [putAll, Act.put, List.setIfInBounds_toArray, List.set_cons_zero, List.set_cons_succ]) (hCont (gb271) _ ⟨(by (with_reducible repeat (first | apply Kd.R_alloc | apply Kd.R_drewN | apply Kd.R_drew)); exact HO_19.out), (by (with_reducible repeat (first | refine blk_drewN ?_ _ | refine blk_drew ?_ | refine blk_alloc ?_ _)); exact BK263.out), (by (with_reducible repeat (first | refine blk_drewN ?_ _ | refine blk_drew ?_ | refine blk_alloc ?_ _)); exact BK271.out), GW271.out, GE271.out, NB263_271.out, NB271_263.out, (by repeat (first | (with_reducible first | exact HB.out | apply below_alloc | apply pw_below_drewN | apply below_drew1 | refine below_set ?_ GE263.out | refine below_set ?_ GE271.out) | exact HB.out))⟩)
                        rintro gb271 w50 ⟨h0_, h1_, h2_, h3_, h4_, h5_, h6_, h7_⟩
                        have n0_ : Aside0 (Kd.R (Kd.int .i64) 3 w50 w.heap.size (fun _ => True) u19 x19_2) := ⟨h0_⟩
                        have n1_ : Aside0 (w50.heap[gb263]? = some (.cells #[.int .i64 t260, .int .i64 t261, .int .i64 t262] 29 (0, 0))) := ⟨h1_⟩
                        have n2_ : Aside0 (w50.heap[gb271]? = some (.cells #[.int .i64 0, .int .i64 0, .int .i64 0] 29 (0, 0))) := ⟨h2_⟩
                        have n3_ : Aside0 (w.heap.size ≤ gb271) := ⟨h3_⟩
                        have n4_ : Aside0 (w.heap.size ≤ gb271) := ⟨h4_⟩
                        have n5_ : Aside0 (gb263 ≠ gb271) := ⟨h5_⟩
                        have n6_ : Aside0 (gb271 ≠ gb263) := ⟨h6_⟩
                        have n7_ : Aside0 (Below w.heap.size w w50) := ⟨h7_⟩
                        clear HO_19
                        clear BK263
                        clear HB
                        clear h0_ h1_ h2_ h3_ h4_ h5_ h6_ h7_
                        have HO_19 := n0_
                        have BK263 := n1_
                        have BK271 := n2_
                        have GW271 := n3_
                        have GE271 := n4_
                        have NB263_271 := n5_
                        have NB271_263 := n6_
                        have HB := n7_
                        clear n0_ n1_ n2_ n3_ n4_ n5_ n6_ n7_
                        have hHeld := trivial
                        refine norm_ (a' := ?_) ?_ ?_
                        rotate_left
                        · simp only [putAll, Act.put, List.setIfInBounds_toArray, List.set_cons_zero, List.set_cons_succ]
                          rfl
                        refine one_ (i := 9) (N := none) #[true, true, true, true, true, true, true, true, true, true] rfl rfl (one_of HT_.out (by kernel_rfl)) (by decide) (fun K hK => ?_)
                        have hs51 : w50.cell? ⟨gb271, 0, none⟩ = some (.int .i64 0) := (blk_cell BK271.out 0).trans rfl
                        have hfs51 := blk_frozen BK271.out 0
                        have hns51_0 := NB263_271.out
                        have hms51_0 := NB271_263.out
                        have hs52 : w50.cell? ⟨gb271, 1, none⟩ = some (.int .i64 0) := (blk_cell BK271.out 1).trans rfl
                        have hfs52 := blk_frozen BK271.out 1
                        have hns52_0 := NB263_271.out
                        have hms52_0 := NB271_263.out
                        have hs53 : w50.cell? ⟨gb271, 2, none⟩ = some (.int .i64 0) := (blk_cell BK271.out 2).trans rfl
                        have hfs53 := blk_frozen BK271.out 2
                        have hns53_0 := NB263_271.out
                        have hms53_0 := NB271_263.out
                        refine skip_ (w1 := ?_) (by rfl) rfl ?_ ?_
                        rotate_left
                        · go_simp
                          rfl
                        refine hK.out _ _ trivial (fun hHeld => ?_)
                        clear hK K
                        refine done_ (done_of HT_.out (by kernel_rfl)) ?_
                        obtain ⟨Ao54, co54, eo54⟩ := Kd.R_slice HO_19.out
                        subst eo54
                        try go_wp2_with (first | ((with_reducible refine gate_callee (f := 24) rfl ?_); refine goesL_ (some 87) rfl rfl Try.func24 (by kernel_rfl) rfl #[.agg #[.int .i64 (wrap64 ((wrap64 (a0)) + (wrap64 (a4)))), .int .i64 (wrap64 ((wrap64 (a1)) + (wrap64 (a5)))), .int .i64 (wrap64 ((wrap64 (a2)) + (wrap64 (a6))))], .slice Ao54 x19_2.length co54] rfl (by (try simp only [List.map_toArray, List.map_cons, List.map_nil]); first | done | rfl | (simp only [List.length_drop, List.length_take]; rfl)) ?_; (with_reducible refine (profile_Final.calls (wrap64 ((wrap64 (a0)) + (wrap64 (a4)))) (wrap64 ((wrap64 (a1)) + (wrap64 (a5)))) (wrap64 ((wrap64 (a2)) + (wrap64 (a6)))) _ _ x19_2 t272 t273 t274 _ ?side1 ?side2 A32.out).mono ?_); (case side1 => refine (Kd.R_reads' (e := 3) (base := w.heap.size) (ok := fun k_ => True) (n := x19_2.length) (c := co54) ?_).2.2; exact (by (with_reducible repeat (first | apply Kd.R_alloc | apply Kd.R_drewN | apply Kd.R_drew)); exact (Kd.R_mono (Kd.R_far (p := ⟨gb271, 2, none⟩) (Kd.R_far (p := ⟨gb271, 1, none⟩) (Kd.R_far (p := ⟨gb271, 0, none⟩) (Kd.R_types HO_19.out BK271.out (by decide)) (fun _ hk => hk.2) (.int .i64 t268)) (fun _ hk => hk.2) (.int .i64 t269)) (fun _ hk => hk.2) (.int .i64 t270)) (fun _ h_ => h_.1)))); (case side2 => exact (Kd.R_reads' HO_19.out).2.1); rintro e w55 ⟨rfl, hb⟩; refine ⟨_, rfl, ?_⟩; have n0_ := Aside0.mk (Kd.R_below (by (with_reducible repeat (first | apply Kd.R_alloc | apply Kd.R_drewN | apply Kd.R_drew)); exact (Kd.R_mono (Kd.R_far (p := ⟨gb271, 2, none⟩) (Kd.R_far (p := ⟨gb271, 1, none⟩) (Kd.R_far (p := ⟨gb271, 0, none⟩) (Kd.R_types HO_19.out BK271.out (by decide)) (fun _ hk => hk.2) (.int .i64 t268)) (fun _ hk => hk.2) (.int .i64 t269)) (fun _ hk => hk.2) (.int .i64 t270)) (fun _ h_ => h_.1))) hb); have n1_ := Aside0.mk (blk_below (g := gb263) (o := .cells #[.int .i64 t260, .int .i64 t261, .int .i64 t262] 29 (0, 0)) (by (with_reducible repeat (first | refine blk_drewN ?_ _ | refine blk_drew ?_ | refine blk_alloc ?_ _)); refine blk_far ?_ NB263_271.out _; (with_reducible repeat (first | refine blk_drewN ?_ _ | refine blk_drew ?_ | refine blk_alloc ?_ _)); refine blk_far ?_ NB263_271.out _; (with_reducible repeat (first | refine blk_drewN ?_ _ | refine blk_drew ?_ | refine blk_alloc ?_ _)); refine blk_far ?_ NB263_271.out _; (with_reducible repeat (first | refine blk_drewN ?_ _ | refine blk_drew ?_ | refine blk_alloc ?_ _)); exact BK263.out) hb); have n2_ := Aside0.mk (blk_below (g := gb271) (o := .cells #[.int .i64 t268, .int .i64 t269, .int .i64 t270] 29 (0, 0)) (by (with_reducible repeat (first | refine blk_drewN ?_ _ | refine blk_drew ?_ | refine blk_alloc ?_ _)); refine blk_put (cs := #[.int .i64 t268, .int .i64 t269, .int .i64 0]) ?_ 2 _ rfl; (with_reducible repeat (first | refine blk_drewN ?_ _ | refine blk_drew ?_ | refine blk_alloc ?_ _)); refine blk_put (cs := #[.int .i64 t268, .int .i64 0, .int .i64 0]) ?_ 1 _ rfl; (with_reducible repeat (first | refine blk_drewN ?_ _ | refine blk_drew ?_ | refine blk_alloc ?_ _)); refine blk_put (cs := #[.int .i64 0, .int .i64 0, .int .i64 0]) ?_ 0 _ rfl; (with_reducible repeat (first | refine blk_drewN ?_ _ | refine blk_drew ?_ | refine blk_alloc ?_ _)); exact BK271.out) hb); have n3_ := Aside0.mk (below_step (by repeat (first | (with_reducible first | exact HB.out | apply below_alloc | apply pw_below_drewN | apply below_drew1 | refine below_set ?_ GE263.out | refine below_set ?_ GE271.out) | exact HB.out)) hb); clear HO_19; clear BK263; clear BK271; clear HB; have HO_19 := n0_; have BK263 := n1_; have BK271 := n2_; have HB := n3_; clear n0_ n1_ n2_ n3_; (try clear hb); (try clear hb2); (try clear hk); (try clear hi)) | ((with_reducible refine gate_dst (N := 23) rfl ?_); refine box_event ?hg (N := 23) ?hd (cs := #[.int .i64 0, .int .i64 0, .int .i64 0]) (t := 29) ?hr ?_; (case hd => rfl); (case hg => rfl); (case hr => first | (go_simp; done) | (go_simp; rfl)); intro gb275 hg w56 hbox hb; have n0_ := Aside0.mk (Kd.R_below (by (with_reducible repeat (first | apply Kd.R_alloc | apply Kd.R_drewN | apply Kd.R_drew)); exact HO_19.out) hb); have n1_ := Aside0.mk (blk_below (g := gb263) (o := .cells #[.int .i64 t260, .int .i64 t261, .int .i64 t262] 29 (0, 0)) (by (with_reducible repeat (first | refine blk_drewN ?_ _ | refine blk_drew ?_ | refine blk_alloc ?_ _)); exact BK263.out) hb); have n2_ := Aside0.mk (blk_below (g := gb271) (o := .cells #[.int .i64 t268, .int .i64 t269, .int .i64 t270] 29 (0, 0)) (by (with_reducible repeat (first | refine blk_drewN ?_ _ | refine blk_drew ?_ | refine blk_alloc ?_ _)); exact BK271.out) hb); have n3_ := Aside0.mk (below_step (by repeat (first | (with_reducible first | exact HB.out | apply below_alloc | apply pw_below_drewN | apply below_drew1 | refine below_set ?_ GE263.out | refine below_set ?_ GE271.out) | exact HB.out)) hb); have n4_ := Aside0.mk (hbox); have n5_ := Aside0.mk ((by rw [hg]; exact (below_size (by repeat (first | (with_reducible first | exact HB.out | apply below_alloc | apply pw_below_drewN | apply below_drew1 | refine below_set ?_ GE263.out | refine below_set ?_ GE271.out) | exact HB.out))) : w.heap.size ≤ gb275)); have n6_ := Aside0.mk ((by rw [hg]; exact (below_size (by repeat (first | (with_reducible first | exact HB.out | apply below_alloc | apply pw_below_drewN | apply below_drew1 | refine below_set ?_ GE263.out | refine below_set ?_ GE271.out) | exact HB.out))) : w.heap.size ≤ gb275)); have n7_ := Aside0.mk ((by rw [hg]; exact Nat.ne_of_lt (blk_lt (g := gb263) (o := .cells #[.int .i64 t260, .int .i64 t261, .int .i64 t262] 29 (0, 0)) (by (with_reducible repeat (first | refine blk_drewN ?_ _ | refine blk_drew ?_ | refine blk_alloc ?_ _)); exact BK263.out)) : gb263 ≠ gb275)); have n8_ := Aside0.mk ((by rw [hg]; exact Nat.ne_of_gt (blk_lt (g := gb263) (o := .cells #[.int .i64 t260, .int .i64 t261, .int .i64 t262] 29 (0, 0)) (by (with_reducible repeat (first | refine blk_drewN ?_ _ | refine blk_drew ?_ | refine blk_alloc ?_ _)); exact BK263.out)) : gb275 ≠ gb263)); have n9_ := Aside0.mk ((by rw [hg]; exact Nat.ne_of_lt (blk_lt (g := gb271) (o := .cells #[.int .i64 t268, .int .i64 t269, .int .i64 t270] 29 (0, 0)) (by (with_reducible repeat (first | refine blk_drewN ?_ _ | refine blk_drew ?_ | refine blk_alloc ?_ _)); exact BK271.out)) : gb271 ≠ gb275)); have n10_ := Aside0.mk ((by rw [hg]; exact Nat.ne_of_gt (blk_lt (g := gb271) (o := .cells #[.int .i64 t268, .int .i64 t269, .int .i64 t270] 29 (0, 0)) (by (with_reducible repeat (first | refine blk_drewN ?_ _ | refine blk_drew ?_ | refine blk_alloc ?_ _)); exact BK271.out)) : gb275 ≠ gb271)); clear HO_19; clear BK263; clear BK271; clear HB; have HO_19 := n0_; have BK263 := n1_; have BK271 := n2_; have HB := n3_; have BK275 := n4_; have GW275 := n5_; have GE275 := n6_; have NB263_275 := n7_; have NB275_263 := n8_; have NB271_275 := n9_; have NB275_271 := n10_; clear n0_ n1_ n2_ n3_ n4_ n5_ n6_ n7_ n8_ n9_ n10_; clear hb hbox hg; have hnb57 := NB275_263.out; have hnc57 := NB263_275.out; have hnb58 := NB275_271.out; have hnc58 := NB271_275.out; have hcz59_0 : w56.cell? ⟨gb275, 0, none⟩ = some (.int .i64 0) := (blk_cell BK275.out 0).trans rfl; have hcz59_1 : w56.cell? ⟨gb275, 1, none⟩ = some (.int .i64 0) := (blk_cell BK275.out 1).trans rfl; have hcz59_2 : w56.cell? ⟨gb275, 2, none⟩ = some (.int .i64 0) := (blk_cell BK275.out 2).trans rfl; have hfz59_0 := blk_frozen BK275.out 0; have hfz59_1 := blk_frozen BK275.out 1; have hfz59_2 := blk_frozen BK275.out 2; have hnb60 := NB263_271.out; have hnc60 := NB271_263.out; have hcz61_0 : w56.cell? ⟨gb263, 0, none⟩ = some (.int .i64 t260) := (blk_cell BK263.out 0).trans rfl; have hcz61_1 : w56.cell? ⟨gb263, 1, none⟩ = some (.int .i64 t261) := (blk_cell BK263.out 1).trans rfl; have hcz61_2 : w56.cell? ⟨gb263, 2, none⟩ = some (.int .i64 t262) := (blk_cell BK263.out 2).trans rfl; have hfz61_0 := blk_frozen BK263.out 0; have hfz61_1 := blk_frozen BK263.out 1; have hfz61_2 := blk_frozen BK263.out 2; have hcz62_0 : w56.cell? ⟨gb271, 0, none⟩ = some (.int .i64 t268) := (blk_cell BK271.out 0).trans rfl; have hcz62_1 : w56.cell? ⟨gb271, 1, none⟩ = some (.int .i64 t269) := (blk_cell BK271.out 1).trans rfl; have hcz62_2 : w56.cell? ⟨gb271, 2, none⟩ = some (.int .i64 t270) := (blk_cell BK271.out 2).trans rfl; have hfz62_0 := blk_frozen BK271.out 0; have hfz62_1 := blk_frozen BK271.out 1; have hfz62_2 := blk_frozen BK271.out 2))
                        go_ret
                        exact ⟨by first | rfl | (simp [errW_none, errW_some] <;> rfl) | (simp only [← hji16]; first | rfl | (simp [errW_none, errW_some] <;> rfl)) | (simp [*, errW_none, errW_some] <;> rfl), by repeat (first | (with_reducible first | exact HB.out | apply below_alloc | apply pw_below_drewN | apply below_drew1 | refine below_set ?_ GE263.out | refine below_set ?_ GE271.out | refine below_set ?_ GE275.out) | exact HB.out)⟩
                      · rw [if_neg c34] at H
                        have c34b0 : (t273 == (wrap64 (t261 + t269))) = false := beq_eq_false_iff_ne.mpr c34
                        have c34b1 : (t273 != (wrap64 (t261 + t269))) = true := bne_iff_ne.mpr c34
                        exact absurd HT.out (by rw [← Option.some.inj H]; decide)
                    · rw [if_neg c33] at H
                      have c33b0 : (t272 == (wrap64 (t260 + t268))) = false := beq_eq_false_iff_ne.mpr c33
                      have c33b1 : (t272 != (wrap64 (t260 + t268))) = true := bne_iff_ne.mpr c33
                      exact absurd HT.out (by rw [← Option.some.inj H]; decide)
                  · rw [if_neg c30] at H
                    exact absurd H (by simp)
                · rw [if_neg c26] at H
                  exact absurd H (by simp)
              · rw [if_neg c25] at H
                exact absurd H (by simp)

end Go.Proofs.Ytehibiikdlgneaa.P
