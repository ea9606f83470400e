-- Written by this session's own program, for this seat. Lean checks it.
import Derived.Test.YtmmaodlngnjmlaaP0
import Derived.Test.YtmmaodlngnjmlaaP1
import Derived.Test.YtmmaodlngnjmlaaP3
import Derived.Test.YtmmaodlngnjmlaaP7
import Derived.Test.YtmmaodlngnjmlaaXShorts
namespace Go.Proofs.Ytmmaodlngnjmlaa.P
open Go.RowKit Go.Proofs.YtmmaodlngnjmlaaW.PrintWords Go.Proofs.YtmmaodlngnjmlaaW.PrintLast Go.Proofs.YtmmaodlngnjmlaaW.PrintMore
attribute [local go_sem] max2_int min2_int max_two min_two max_three min_three max_four min_four   -- for this text's walks alone
set_option linter.unusedVariables false
set_option linter.unusedSimpArgs false

attribute [local go_sem high] eqA63

/-! ### ambidexterlaw23_TimetableGroupsMoves: function 7 -/
mutual
def ambidexterlaw23_TimetableGroupsMoves.l0 : Nat → List (S63) → Bool → List (S65) → Int → Int → Option (Bool)
 | 0, _, _, _, _, _ => none
 | k + 1, x0, x3, x4, x5, x6 => if x6 < (x4.length : Int) then (if 0 ≤ x6 then (if ((rd_T65 x4 x6).f1) < 1 then (ambidexterlaw23_TimetableGroupsMoves.j1 k x0 x3 x4 x5 x6 true) else (if x6 > 0 then (if 0 ≤ (wrap64 (x6 - 1)) then (if (wrap64 (x6 - 1)) < (x4.length : Int) then (ambidexterlaw23_TimetableGroupsMoves.j1 k x0 x3 x4 x5 x6 (((rd_T65 x4 x6).f0.f0) == ((rd_T65 x4 (wrap64 (x6 - 1))).f0.f0) && (((rd_T65 x4 x6).f0.f1) == ((rd_T65 x4 (wrap64 (x6 - 1))).f0.f1) && (((rd_T65 x4 x6).f0.f2) == ((rd_T65 x4 (wrap64 (x6 - 1))).f0.f2))))) else (none)) else (none)) else (ambidexterlaw23_TimetableGroupsMoves.j1 k x0 x3 x4 x5 x6 false))) else (none)) else (if x3 = true then (some (x5 == (x0.length : Int))) else (some false))
def ambidexterlaw23_TimetableGroupsMoves.j1 : Nat → List (S63) → Bool → List (S65) → Int → Int → Bool → Option (Bool)
 | 0, _, _, _, _, _, _ => none
 | k + 1, x0, x3, x4, x5, x6, x44 => if x44 = true then (some false) else (ambidexterlaw23_TimetableGroupsMoves.l1 k x0 x3 x4 x5 x6 0)
def ambidexterlaw23_TimetableGroupsMoves.l1 : Nat → List (S63) → Bool → List (S65) → Int → Int → Int → Option (Bool)
 | 0, _, _, _, _, _, _ => none
 | k + 1, x0, x3, x4, x5, x6, x7 => if 0 ≤ x6 then (if x6 < (x4.length : Int) then (if x7 < ((rd_T65 x4 x6).f1) then (ambidexterlaw23_TimetableGroupsMoves.j3 k x0 x3 x4 x5 x6 x7 (decide (x7 ≤ 120))) else (ambidexterlaw23_TimetableGroupsMoves.j3 k x0 x3 x4 x5 x6 x7 false)) else (none)) else (none)
def ambidexterlaw23_TimetableGroupsMoves.j3 : Nat → List (S63) → Bool → List (S65) → Int → Int → Int → Bool → Option (Bool)
 | 0, _, _, _, _, _, _, _ => none
 | k + 1, x0, x3, x4, x5, x6, x7, x55 => if x55 = true then (if x5 ≥ (x0.length : Int) then (some false) else (if 0 ≤ x5 then (if x5 < (x0.length : Int) then (if 0 ≤ x6 then (if x6 < (x4.length : Int) then (if (!(((rd_T63 x0 x5).f0) == ((rd_T65 x4 x6).f0.f0)) || (!(((rd_T63 x0 x5).f1) == ((rd_T65 x4 x6).f0.f1)) || (!(((rd_T63 x0 x5).f2) == ((rd_T65 x4 x6).f0.f2))))) = true then (some false) else (ambidexterlaw23_TimetableGroupsMoves.l1 k x0 x3 x4 (wrap64 (x5 + 1)) x6 (wrap64 (x7 + 1)))) else (none)) else (none)) else (none)) else (none))) else (ambidexterlaw23_TimetableGroupsMoves.l0 k x0 x3 x4 x5 (wrap64 (x6 + 1)))
end
def ambidexterlaw23_TimetableGroupsMoves.f (k : Nat) (l0 : List (S63)) : Option (Bool) := (ambidexterlaw23_head.f k).bind fun t293 => (if (l0.length : Int) > 120 then (some t293) else ((timetable_GroupMoves.f k l0).bind fun t294 => (ambidexterlaw23_TimetableGroupsMoves.l0 k l0 t293 t294 0 0)))
theorem ambidexterlaw23_TimetableGroupsMoves.mono_l : ∀ k, (∀ y0 y1 y2 y3 y4, LeO (ambidexterlaw23_TimetableGroupsMoves.l0 k y0 y1 y2 y3 y4) (ambidexterlaw23_TimetableGroupsMoves.l0 (k + 1) y0 y1 y2 y3 y4)) ∧ (∀ y0 y1 y2 y3 y4 y5, LeO (ambidexterlaw23_TimetableGroupsMoves.j1 k y0 y1 y2 y3 y4 y5) (ambidexterlaw23_TimetableGroupsMoves.j1 (k + 1) y0 y1 y2 y3 y4 y5)) ∧ (∀ y0 y1 y2 y3 y4 y5, LeO (ambidexterlaw23_TimetableGroupsMoves.l1 k y0 y1 y2 y3 y4 y5) (ambidexterlaw23_TimetableGroupsMoves.l1 (k + 1) y0 y1 y2 y3 y4 y5)) ∧ (∀ y0 y1 y2 y3 y4 y5 y6, LeO (ambidexterlaw23_TimetableGroupsMoves.j3 k y0 y1 y2 y3 y4 y5 y6) (ambidexterlaw23_TimetableGroupsMoves.j3 (k + 1) y0 y1 y2 y3 y4 y5 y6))
 | 0 => ⟨fun _ _ _ _ _ r h => by simp [ambidexterlaw23_TimetableGroupsMoves.l0] at h, fun _ _ _ _ _ _ r h => by simp [ambidexterlaw23_TimetableGroupsMoves.j1] at h, fun _ _ _ _ _ _ r h => by simp [ambidexterlaw23_TimetableGroupsMoves.l1] at h, fun _ _ _ _ _ _ _ r h => by simp [ambidexterlaw23_TimetableGroupsMoves.j3] at h⟩
 | k + 1 => by
  obtain ⟨ih0, ih1, ih2, ih3⟩ := ambidexterlaw23_TimetableGroupsMoves.mono_l k
  refine ⟨?_, ?_, ?_, ?_⟩
  ·
   intro y0 y1 y2 y3 y4
   unfold ambidexterlaw23_TimetableGroupsMoves.l0
   repeat' first
   | (with_reducible exact ih0 _ _ _ _ _)
   | (with_reducible exact ih1 _ _ _ _ _ _)
   | (with_reducible exact ih2 _ _ _ _ _ _)
   | (with_reducible exact ih3 _ _ _ _ _ _ _)
   | (with_reducible exact ambidexterlaw23_head.mono _)
   | (with_reducible exact timetable_GroupMoves.mono _ _)
   | (with_reducible exact LeO.refl _)
   | (with_reducible exact LeO.none _)
   | (with_reducible refine LeO.ite ?_ ?_)
   | (with_reducible refine LeO.bind ?_ (fun _ => ?_))
   | exact ih0 _ _ _ _ _
   | exact ih1 _ _ _ _ _ _
   | exact ih2 _ _ _ _ _ _
   | exact ih3 _ _ _ _ _ _ _
   | exact ambidexterlaw23_head.mono _
   | exact timetable_GroupMoves.mono _ _
   | exact LeO.none _
   | refine LeO.ite ?_ ?_
   | refine LeO.bind ?_ (fun _ => ?_)
  ·
   intro y0 y1 y2 y3 y4 y5
   unfold ambidexterlaw23_TimetableGroupsMoves.j1
   repeat' first
   | (with_reducible exact ih0 _ _ _ _ _)
   | (with_reducible exact ih1 _ _ _ _ _ _)
   | (with_reducible exact ih2 _ _ _ _ _ _)
   | (with_reducible exact ih3 _ _ _ _ _ _ _)
   | (with_reducible exact ambidexterlaw23_head.mono _)
   | (with_reducible exact timetable_GroupMoves.mono _ _)
   | (with_reducible exact LeO.refl _)
   | (with_reducible exact LeO.none _)
   | (with_reducible refine LeO.ite ?_ ?_)
   | (with_reducible refine LeO.bind ?_ (fun _ => ?_))
   | exact ih0 _ _ _ _ _
   | exact ih1 _ _ _ _ _ _
   | exact ih2 _ _ _ _ _ _
   | exact ih3 _ _ _ _ _ _ _
   | exact ambidexterlaw23_head.mono _
   | exact timetable_GroupMoves.mono _ _
   | exact LeO.none _
   | refine LeO.ite ?_ ?_
   | refine LeO.bind ?_ (fun _ => ?_)
  ·
   intro y0 y1 y2 y3 y4 y5
   unfold ambidexterlaw23_TimetableGroupsMoves.l1
   repeat' first
   | (with_reducible exact ih0 _ _ _ _ _)
   | (with_reducible exact ih1 _ _ _ _ _ _)
   | (with_reducible exact ih2 _ _ _ _ _ _)
   | (with_reducible exact ih3 _ _ _ _ _ _ _)
   | (with_reducible exact ambidexterlaw23_head.mono _)
   | (with_reducible exact timetable_GroupMoves.mono _ _)
   | (with_reducible exact LeO.refl _)
   | (with_reducible exact LeO.none _)
   | (with_reducible refine LeO.ite ?_ ?_)
   | (with_reducible refine LeO.bind ?_ (fun _ => ?_))
   | exact ih0 _ _ _ _ _
   | exact ih1 _ _ _ _ _ _
   | exact ih2 _ _ _ _ _ _
   | exact ih3 _ _ _ _ _ _ _
   | exact ambidexterlaw23_head.mono _
   | exact timetable_GroupMoves.mono _ _
   | exact LeO.none _
   | refine LeO.ite ?_ ?_
   | refine LeO.bind ?_ (fun _ => ?_)
  ·
   intro y0 y1 y2 y3 y4 y5 y6
   unfold ambidexterlaw23_TimetableGroupsMoves.j3
   repeat' first
   | (with_reducible exact ih0 _ _ _ _ _)
   | (with_reducible exact ih1 _ _ _ _ _ _)
   | (with_reducible exact ih2 _ _ _ _ _ _)
   | (with_reducible exact ih3 _ _ _ _ _ _ _)
   | (with_reducible exact ambidexterlaw23_head.mono _)
   | (with_reducible exact timetable_GroupMoves.mono _ _)
   | (with_reducible exact LeO.refl _)
   | (with_reducible exact LeO.none _)
   | (with_reducible refine LeO.ite ?_ ?_)
   | (with_reducible refine LeO.bind ?_ (fun _ => ?_))
   | exact ih0 _ _ _ _ _
   | exact ih1 _ _ _ _ _ _
   | exact ih2 _ _ _ _ _ _
   | exact ih3 _ _ _ _ _ _ _
   | exact ambidexterlaw23_head.mono _
   | exact timetable_GroupMoves.mono _ _
   | exact LeO.none _
   | refine LeO.ite ?_ ?_
   | refine LeO.bind ?_ (fun _ => ?_)
theorem ambidexterlaw23_TimetableGroupsMoves.mono : ∀ a0 k, LeO (ambidexterlaw23_TimetableGroupsMoves.f k a0) (ambidexterlaw23_TimetableGroupsMoves.f (k + 1) a0) := by
 intro a0 k
 obtain ⟨ih0, ih1, ih2, ih3⟩ := ambidexterlaw23_TimetableGroupsMoves.mono_l k
 unfold ambidexterlaw23_TimetableGroupsMoves.f
 repeat' first
   | (with_reducible exact ih0 _ _ _ _ _)
   | (with_reducible exact ih1 _ _ _ _ _ _)
   | (with_reducible exact ih2 _ _ _ _ _ _)
   | (with_reducible exact ih3 _ _ _ _ _ _ _)
   | (with_reducible exact ambidexterlaw23_head.mono _)
   | (with_reducible exact timetable_GroupMoves.mono _ _)
   | (with_reducible exact LeO.refl _)
   | (with_reducible exact LeO.none _)
   | (with_reducible refine LeO.ite ?_ ?_)
   | (with_reducible refine LeO.bind ?_ (fun _ => ?_))
   | exact ih0 _ _ _ _ _
   | exact ih1 _ _ _ _ _ _
   | exact ih2 _ _ _ _ _ _
   | exact ih3 _ _ _ _ _ _ _
   | exact ambidexterlaw23_head.mono _
   | exact timetable_GroupMoves.mono _ _
   | exact LeO.none _
   | refine LeO.ite ?_ ?_
   | refine LeO.bind ?_ (fun _ => ?_)
set_option maxHeartbeats 8000000 in
set_option maxRecDepth 100000 in
theorem ambidexterlaw23_TimetableGroupsMoves.calls0 (k : Nat) (A0 : Option Addr) (c0 : Nat) (l0 : List (S63)) (r : Bool) (w : World) (hr0 : Kd.C k63 w A0 l0.length l0) (hc0 : l0.length ≤ c0) (h : ambidexterlaw23_TimetableGroupsMoves.f k l0 = some r) (hT : r = true) :
  Calls Try.prog 7 #[.slice A0 l0.length c0] w fun e w' => e = .returned (.bool r) ∧ Below w.heap.size w w' := by
 have hu63 := Try.underlying63
 have HR0 := Aside0.mk hr0
 have HC0 := Aside0.mk hc0
 clear hr0 hc0
 have HB := Aside0.mk (Below.refl w.heap.size w)
 have H : ((ambidexterlaw23_head.f k).bind fun t293 => (if (l0.length : Int) > 120 then (some t293) else ((timetable_GroupMoves.f k l0).bind fun t294 => (ambidexterlaw23_TimetableGroupsMoves.l0 k l0 t293 t294 0 0)))) = some r := h
 clear h
 have HT := Aside0.mk hT
 clear hT
 replace H := Option.bind_eq_some_iff.mp H
 obtain ⟨t293, A20, H⟩ := H
 obtain rfl := ambidexterlaw23_head.is_true k A20
 replace H : (if (l0.length : Int) > 120 then (some true) else ((timetable_GroupMoves.f k l0).bind fun t294 => (ambidexterlaw23_TimetableGroupsMoves.l0 k l0 true t294 0 0))) = some r := H
 have A2 := Aside0.mk A20
 clear A20
 by_cases c3 : (l0.length : Int) > 120
 ·
  rw [if_pos c3] at H
  have c3b0 : decide (120 < (l0.length : Int)) = true := decide_eq_true c3
  have c3b1 : decide (120 < l0.length) = true := decide_eq_true (by omega)
  clear c3
  obtain rfl := Option.some.inj H
  go_enter Try.func7, Try.ntmps7
  go_wp2_with (first | (go_at_call 31; (with_reducible refine (ambidexterlaw23_head.calls k  true _ A2.out).mono ?_); rintro e w4 ⟨rfl, hb⟩; have n0_ := Aside0.mk (below_step hb_ hb); clear HB; have HB := n0_; clear n0_; (try clear hb); (try clear hb2); (try clear hk); (try clear hi)))
  repeat (go_quiet (first | (go_at_call 31; (with_reducible refine (ambidexterlaw23_head.calls k  true _ A2.out).mono ?_); rintro e w4 ⟨rfl, hb⟩; have n0_ := Aside0.mk (below_step hb_ hb); clear HB; have HB := n0_; clear n0_; (try clear hb); (try clear hb2); (try clear hk); (try clear hi); (try clear A2))); try go_wp2_with (first | (go_at_call 31; (with_reducible refine (ambidexterlaw23_head.calls k  true _ A2.out).mono ?_); rintro e w4 ⟨rfl, hb⟩; have n0_ := Aside0.mk (below_step hb_ hb); clear HB; have HB := n0_; clear n0_; (try clear hb); (try clear hb2); (try clear hk); (try clear hi))))
  go_ret
  exact ⟨by first | rfl | (simp [errW_none, errW_some] <;> rfl) | (simp [*, errW_none, errW_some] <;> rfl), by repeat (first | (with_reducible first | exact HB.out | apply below_alloc | apply pw_below_drewN | apply below_drew1) | exact HB.out)⟩
 ·
  rw [if_neg c3] at H
  have c3b0 : decide (120 < (l0.length : Int)) = false := decide_eq_false c3
  have c3b1 : decide (120 < l0.length) = false := decide_eq_false (by omega)
  clear c3
  replace H := Option.bind_eq_some_iff.mp H
  obtain ⟨t294, A50, H⟩ := H
  replace H : (ambidexterlaw23_TimetableGroupsMoves.l0 k l0 true t294 0 0) = some r := H
  have A5 := Aside0.mk A50
  clear A50
  have H' := Aside0.mk H
  clear H
  go_enter Try.func7, Try.ntmps7
  go_wp2_with (first | (go_at_call 31; (with_reducible refine (ambidexterlaw23_head.calls k  true _ A2.out).mono ?_); rintro e w6 ⟨rfl, hb⟩; have n0_ := Aside0.mk (below_step hb_ hb); clear HB; have HB := n0_; clear n0_; (try clear hb); (try clear hb2); (try clear hk); (try clear hi)) | (go_at_call 37; (with_reducible refine (timetable_GroupMoves.calls k _ _ l0 t294 _ ?side1 ?side2 A5.out).mono ?_); (case side1 => repeat (first | exact (Kd.C_below HR0.out HB.out) | (with_reducible refine Kd.C_alloc ?_ _) | (with_reducible refine Kd.C_drewN ?_ _) | (with_reducible refine Kd.C_drew ?_))); (case side2 => exact HC0.out); rintro e w7 ⟨v295, rfl, ho0, hb⟩; have n0_ := Aside0.mk (Kd.R_lower ho0 (below_size hb_)); have n1_ := Aside0.mk (below_step hb_ hb); clear HB; have HO296 := n0_; have HB := n1_; clear n0_ n1_; (try clear hb); (try clear hb2); (try clear hk); (try clear hi); (try clear ho0)))
  repeat (go_quiet (first | (go_at_call 31; (with_reducible refine (ambidexterlaw23_head.calls k  true _ A2.out).mono ?_); rintro e w6 ⟨rfl, hb⟩; have n0_ := Aside0.mk (below_step hb_ hb); clear HB; have HB := n0_; clear n0_; (try clear hb); (try clear hb2); (try clear hk); (try clear hi); (try clear A2)) | (go_at_call 37; (with_reducible refine (timetable_GroupMoves.calls k _ _ l0 t294 _ ?side1 ?side2 A5.out).mono ?_); (case side1 => repeat (first | exact (Kd.C_below HR0.out HB.out) | (with_reducible refine Kd.C_alloc ?_ _) | (with_reducible refine Kd.C_drewN ?_ _) | (with_reducible refine Kd.C_drew ?_))); (case side2 => exact HC0.out); rintro e w7 ⟨v295, rfl, ho0, hb⟩; have n0_ := Aside0.mk (Kd.R_lower ho0 (below_size hb_)); have n1_ := Aside0.mk (below_step hb_ hb); clear HB; have HO296 := n0_; have HB := n1_; clear n0_ n1_; (try clear hb); (try clear hb2); (try clear hk); (try clear hi); (try clear ho0))); try go_wp2_with (first | (go_at_call 31; (with_reducible refine (ambidexterlaw23_head.calls k  true _ A2.out).mono ?_); rintro e w6 ⟨rfl, hb⟩; have n0_ := Aside0.mk (below_step hb_ hb); clear HB; have HB := n0_; clear n0_; (try clear hb); (try clear hb2); (try clear hk); (try clear hi)) | (go_at_call 37; (with_reducible refine (timetable_GroupMoves.calls k _ _ l0 t294 _ ?side1 ?side2 A5.out).mono ?_); (case side1 => repeat (first | exact (Kd.C_below HR0.out HB.out) | (with_reducible refine Kd.C_alloc ?_ _) | (with_reducible refine Kd.C_drewN ?_ _) | (with_reducible refine Kd.C_drew ?_))); (case side2 => exact HC0.out); rintro e w7 ⟨v295, rfl, ho0, hb⟩; have n0_ := Aside0.mk (Kd.R_lower ho0 (below_size hb_)); have n1_ := Aside0.mk (below_step hb_ hb); clear HB; have HO296 := n0_; have HB := n1_; clear n0_ n1_; (try clear hb); (try clear hb2); (try clear hk); (try clear hi); (try clear ho0))))
  go_loopg [5, 6] k (fun kq v5 v6 w' => ∃ (x5_1 : Int) (x6_1 : Int), v5 = .int .i64 x5_1 ∧ v6 = .int .i64 x6_1 ∧ Aside0 (ambidexterlaw23_TimetableGroupsMoves.l0 kq l0 true t294 x5_1 x6_1 = some r) ∧ Aside0 (kq ≤ k) ∧ Aside0 (Kd.R k65 65 w' w.heap.size (fun _ => True) v295 t294) ∧ Aside0 (Below w.heap.size w w'))
  case atStart => exact ⟨(0), (0), (by first | rfl | (simp; done) | (simp [*]; done)), (by first | rfl | (simp; done) | (simp [*]; done)), H', ⟨Nat.le_refl _⟩, ⟨by (with_reducible repeat (first | apply Kd.R_alloc | apply Kd.R_drewN | apply Kd.R_drew)); exact HO296.out⟩, ⟨by repeat (first | (with_reducible first | exact HB.out | apply below_alloc | apply pw_below_drewN | apply below_drew1) | exact HB.out)⟩⟩
  case round =>
   clear H'
   try clear p2
   try clear c3
   try clear c3b0
   try clear c3b1
   try clear c7
   obtain ⟨x5_1, x6_1, rfl, rfl, HA, HK1, HO_4, HB⟩ := hrel
   cases gk with
   | zero => exact absurd HA.out (by simp [ambidexterlaw23_TimetableGroupsMoves.l0])
   | succ k1 =>
    have H := HA.out
    clear HA
    simp only [ambidexterlaw23_TimetableGroupsMoves.l0] at H
    by_cases c8 : x6_1 < (t294.length : Int)
    ·
     rw [if_pos c8] at H
     have c8b0 : decide (x6_1 < (t294.length : Int)) = true := decide_eq_true c8
     clear c8
     have HC9 := Aside0.mk H
     clear H
     obtain ⟨Ao10, co10, eo10⟩ := Kd.R_slice HO_4.out
     subst eo10
     go_upto_region 9 with (fail)
     repeat (go_quiet (fail); go_upto_region 9 with (fail))
     go_cut [44] (fun v44 wc => ∃ (kq : Nat) (x44_8 : Bool), v44 = .bool x44_8 ∧ Aside0 (ambidexterlaw23_TimetableGroupsMoves.j1 kq l0 true t294 x5_1 x6_1 x44_8 = some r) ∧ Aside0 (kq ≤ k1) ∧ Aside0 (Kd.R k65 65 wc w.heap.size (fun _ => True) (.slice Ao10 t294.length co10) t294) ∧ Aside0 (Below w.heap.size w wc))
     case first =>
      have H := HC9.out
      clear HC9
      by_cases c11 : 0 ≤ x6_1
      ·
       rw [if_pos c11] at H
       have c11b0 : decide (0 ≤ x6_1) = true := decide_eq_true c11
       clear c11
       (first | rw [c11b0] | (simp only [i64_w, i32_w]; rw [c11b0]) | skip)
       by_cases c12 : ((rd_T65 t294 x6_1).f1) < 1
       ·
        rw [if_pos c12] at H
        have c12b0 : decide (((rd_T65 t294 x6_1).f1) < 1) = true := decide_eq_true c12
        clear c12
        have H' := Aside0.mk H
        clear H
        have p297 : 0 ≤ (x6_1 : Int) := od_
        have q297 : x6_1 < (t294.length : Int) := od_
        obtain ⟨ad297, e297, hx297_0, hx297_1, hx297_2, hx297_3⟩ := at_T65 (Kd.R_reads' HO_4.out).2.2 x6_1 p297 q297
        cases e297
        replace p297 := eq_true p297
        replace q297 := eq_true q297
        go_wp2
        repeat (go_quiet (fail); try go_wp2)
        go_meet
        case rel => exact ⟨_, (true), (by first | rfl | (simp; done) | (simp [*]; done)), H', ⟨by have := HK1.out; first | omega | exact Nat.le_refl _⟩, ⟨by (with_reducible repeat (first | apply Kd.R_alloc | apply Kd.R_drewN | apply Kd.R_drew)); exact HO_4.out⟩, ⟨by repeat (first | (with_reducible first | exact HB.out | apply below_alloc | apply pw_below_drewN | apply below_drew1) | exact HB.out)⟩⟩
       ·
        rw [if_neg c12] at H
        have c12b0 : decide (((rd_T65 t294 x6_1).f1) < 1) = false := decide_eq_false c12
        clear c12
        by_cases c13 : x6_1 > 0
        ·
         rw [if_pos c13] at H
         have c13b0 : decide (0 < x6_1) = true := decide_eq_true c13
         clear c13
         obtain ⟨ji14, hji14⟩ : ∃ j_ : Int, (wrap64 (x6_1 - 1)) = j_ := ⟨_, rfl⟩
         replace H : (if 0 ≤ (ji14) then (if (ji14) < (t294.length : Int) then (ambidexterlaw23_TimetableGroupsMoves.j1 k1 l0 true t294 x5_1 x6_1 (((rd_T65 t294 x6_1).f0.f0) == ((rd_T65 t294 (ji14)).f0.f0) && (((rd_T65 t294 x6_1).f0.f1) == ((rd_T65 t294 (ji14)).f0.f1) && (((rd_T65 t294 x6_1).f0.f2) == ((rd_T65 t294 (ji14)).f0.f2))))) else (none)) else (none)) = some r := by first | (rw [hji14] at H; exact H) | (simp only [hji14] at H ⊢; exact H)
         have hji14w : (IntKind.i64.wrap (x6_1 - 1)) = ji14 := (i64_w _).trans hji14
         by_cases c15 : 0 ≤ (ji14)
         ·
          rw [if_pos c15] at H
          have c15b0 : decide (0 ≤ (ji14)) = true := decide_eq_true c15
          clear c15
          by_cases c16 : (ji14) < (t294.length : Int)
          ·
           rw [if_pos c16] at H
           have c16b0 : decide ((ji14) < (t294.length : Int)) = true := decide_eq_true c16
           clear c16
           have H' := Aside0.mk H
           clear H
           have p297 : 0 ≤ (x6_1 : Int) := od_
           have q297 : x6_1 < (t294.length : Int) := od_
           obtain ⟨ad297, e297, hx297_0, hx297_1, hx297_2, hx297_3⟩ := at_T65 (Kd.R_reads' HO_4.out).2.2 x6_1 p297 q297
           cases e297
           replace p297 := eq_true p297
           replace q297 := eq_true q297
           have p298 : 0 ≤ (x6_1 : Int) := od_
           have q298 : x6_1 < (t294.length : Int) := od_
           obtain ⟨ad298, e298, hx298_0, hx298_1, hx298_2, hx298_3⟩ := at_T65 (Kd.R_reads' HO_4.out).2.2 x6_1 p298 q298
           obtain rfl : ad297 = ad298 := (by injection e298)
           replace p298 := eq_true p298
           replace q298 := eq_true q298
           have p299 : 0 ≤ ((ji14) : Int) := od_
           have q299 : (ji14) < (t294.length : Int) := od_
           obtain ⟨ad299, e299, hx299_0, hx299_1, hx299_2, hx299_3⟩ := at_T65 (Kd.R_reads' HO_4.out).2.2 (ji14) p299 q299
           obtain rfl : ad297 = ad299 := (by injection e299)
           replace p299 := eq_true p299
           replace q299 := eq_true q299
           go_wp2
           repeat (go_quiet (fail); try go_wp2)
           go_meet
           case rel => exact ⟨_, ((((rd_T65 t294 x6_1).f0.f0) == ((rd_T65 t294 (ji14)).f0.f0) && (((rd_T65 t294 x6_1).f0.f1) == ((rd_T65 t294 (ji14)).f0.f1) && (((rd_T65 t294 x6_1).f0.f2) == ((rd_T65 t294 (ji14)).f0.f2))))), (by first | rfl | (simp; done) | (simp only [← hji14] <;> (first | rfl | simp)) | (simp [*]; done)), H', ⟨by have := HK1.out; first | omega | exact Nat.le_refl _⟩, ⟨by (with_reducible repeat (first | apply Kd.R_alloc | apply Kd.R_drewN | apply Kd.R_drew)); exact HO_4.out⟩, ⟨by repeat (first | (with_reducible first | exact HB.out | apply below_alloc | apply pw_below_drewN | apply below_drew1) | exact HB.out)⟩⟩
          ·
           rw [if_neg c16] at H
           exact absurd H (by simp)
         ·
          rw [if_neg c15] at H
          exact absurd H (by simp)
        ·
         rw [if_neg c13] at H
         have c13b0 : decide (0 < x6_1) = false := decide_eq_false c13
         clear c13
         have H' := Aside0.mk H
         clear H
         have p297 : 0 ≤ (x6_1 : Int) := od_
         have q297 : x6_1 < (t294.length : Int) := od_
         obtain ⟨ad297, e297, hx297_0, hx297_1, hx297_2, hx297_3⟩ := at_T65 (Kd.R_reads' HO_4.out).2.2 x6_1 p297 q297
         cases e297
         replace p297 := eq_true p297
         replace q297 := eq_true q297
         go_wp2
         repeat (go_quiet (fail); try go_wp2)
         go_meet
         case rel => exact ⟨_, (false), (by first | rfl | (simp; done) | (simp [*]; done)), H', ⟨by have := HK1.out; first | omega | exact Nat.le_refl _⟩, ⟨by (with_reducible repeat (first | apply Kd.R_alloc | apply Kd.R_drewN | apply Kd.R_drew)); exact HO_4.out⟩, ⟨by repeat (first | (with_reducible first | exact HB.out | apply below_alloc | apply pw_below_drewN | apply below_drew1) | exact HB.out)⟩⟩
      ·
       rw [if_neg c11] at H
       exact absurd H (by simp)
     case rest =>
      clear HC9
      try clear c1
      try clear p2
      try clear q2
      try clear hx2
      try clear c3
      try clear c3b0
      try clear c3b1
      try clear p6
      try clear c7
      try clear c8
      try clear c8b0
      try clear c11
      try clear c11b0
      try clear c12
      try clear c12b0
      try clear c13
      try clear c13b0
      try clear c15
      try clear c15b0
      try clear c16
      try clear c16b0
      try clear hx297_0
      try clear hx297_1
      try clear hx297_2
      try clear hx297_3
      try clear hx298_0
      try clear hx298_1
      try clear hx298_2
      try clear hx298_3
      try clear hx299_0
      try clear hx299_1
      try clear hx299_2
      try clear hx299_3
      try clear p2
      try clear p297
      try clear p298
      try clear p299
      try clear q297
      try clear q298
      try clear q299
      obtain ⟨kq, x44_8, rfl, HA, HJ8, HO_4, HB⟩ := hcut
      cases kq with
      | zero => exact absurd HA.out (by simp [ambidexterlaw23_TimetableGroupsMoves.j1])
      | succ kj8 =>
       have H := HA.out
       clear HA
       simp only [ambidexterlaw23_TimetableGroupsMoves.j1] at H
       by_cases c17 : x44_8 = true
       ·
        subst c17
        have H1 : (some false) = some r := by rw [if_pos rfl] at H; exact H
        clear H
        have H := H1
        clear H1
        exact absurd HT.out (by rw [← Option.some.inj H]; decide)
       ·
        replace c17 := Bool.eq_false_iff.mpr c17
        subst c17
        have H1 : (ambidexterlaw23_TimetableGroupsMoves.l1 kj8 l0 true t294 x5_1 x6_1 0) = some r := by rw [if_neg (show ¬ (false = true) by decide)] at H; exact H
        clear H
        have H := H1
        clear H1
        have H' := Aside0.mk H
        clear H
        go_wp2
        repeat (go_quiet (fail); try go_wp2)
        go_loopg [5, 7] kj8 (fun kq v5 v7 w' => ∃ (x5_3 : Int) (x7_3 : Int), v5 = .int .i64 x5_3 ∧ v7 = .int .i64 x7_3 ∧ Aside0 (ambidexterlaw23_TimetableGroupsMoves.l1 kq l0 true t294 x5_3 x6_1 x7_3 = some r) ∧ Aside0 (kq ≤ kj8) ∧ Aside0 (Kd.R k65 65 w' w.heap.size (fun _ => True) (.slice Ao10 t294.length co10) t294) ∧ Aside0 (Below w.heap.size w w'))
        case atStart => exact ⟨(x5_1), (0), (by first | rfl | (simp; done) | (simp [*]; done)), (by first | rfl | (simp; done) | (simp [*]; done)), H', ⟨Nat.le_refl _⟩, ⟨by (with_reducible repeat (first | apply Kd.R_alloc | apply Kd.R_drewN | apply Kd.R_drew)); exact HO_4.out⟩, ⟨by repeat (first | (with_reducible first | exact HB.out | apply below_alloc | apply pw_below_drewN | apply below_drew1) | exact HB.out)⟩⟩
        case round =>
         clear H'
         try clear c1
         try clear p2
         try clear q2
         try clear hx2
         try clear c3
         try clear c3b0
         try clear c3b1
         try clear p6
         try clear c7
         try clear c8
         try clear c8b0
         try clear c11
         try clear c11b0
         try clear c12
         try clear c12b0
         try clear c13
         try clear c13b0
         try clear c15
         try clear c15b0
         try clear c16
         try clear c16b0
         try clear c17
         try clear hx297_0
         try clear hx297_1
         try clear hx297_2
         try clear hx297_3
         try clear hx298_0
         try clear hx298_1
         try clear hx298_2
         try clear hx298_3
         try clear hx299_0
         try clear hx299_1
         try clear hx299_2
         try clear hx299_3
         try clear p2
         try clear p297
         try clear p298
         try clear p299
         try clear p6
         try clear q2
         try clear q297
         try clear q298
         try clear q299
         obtain ⟨x5_3, x7_3, rfl, rfl, HA, HK3, HO_4, HB⟩ := hrel
         cases gk with
         | zero => exact absurd HA.out (by simp [ambidexterlaw23_TimetableGroupsMoves.l1])
         | succ k3 =>
          have H := HA.out
          clear HA
          simp only [ambidexterlaw23_TimetableGroupsMoves.l1] at H
          have HC18 := Aside0.mk H
          clear H
          go_upto_region 12 with (fail)
          repeat (go_quiet (fail); go_upto_region 12 with (fail))
          go_cut [55] (fun v55 wc => ∃ (kq : Nat) (x55_17 : Bool), v55 = .bool x55_17 ∧ Aside0 (ambidexterlaw23_TimetableGroupsMoves.j3 kq l0 true t294 x5_3 x6_1 x7_3 x55_17 = some r) ∧ Aside0 (kq ≤ k3) ∧ Aside0 (Kd.R k65 65 wc w.heap.size (fun _ => True) (.slice Ao10 t294.length co10) t294) ∧ Aside0 (Below w.heap.size w wc))
          case first =>
           have H := HC18.out
           clear HC18
           by_cases c19 : 0 ≤ x6_1
           ·
            rw [if_pos c19] at H
            have c19b0 : decide (0 ≤ x6_1) = true := decide_eq_true c19
            clear c19
            (first | rw [c19b0] | (simp only [i64_w, i32_w]; rw [c19b0]) | skip)
            by_cases c20 : x6_1 < (t294.length : Int)
            ·
             rw [if_pos c20] at H
             have c20b0 : decide (x6_1 < (t294.length : Int)) = true := decide_eq_true c20
             clear c20
             by_cases c21 : x7_3 < ((rd_T65 t294 x6_1).f1)
             ·
              rw [if_pos c21] at H
              have c21b0 : decide (x7_3 < ((rd_T65 t294 x6_1).f1)) = true := decide_eq_true c21
              clear c21
              have H' := Aside0.mk H
              clear H
              have p300 : 0 ≤ (x6_1 : Int) := od_
              have q300 : x6_1 < (t294.length : Int) := od_
              obtain ⟨ad300, e300, hx300_0, hx300_1, hx300_2, hx300_3⟩ := at_T65 (Kd.R_reads' HO_4.out).2.2 x6_1 p300 q300
              cases e300
              replace p300 := eq_true p300
              replace q300 := eq_true q300
              go_wp2
              repeat (go_quiet (fail); try go_wp2)
              go_meet
              case rel => exact ⟨_, (decide (x7_3 ≤ 120)), (by first | rfl | (simp; done) | (simp [*]; done)), H', ⟨by have := HK1.out; have := HJ8.out; have := HK3.out; first | omega | exact Nat.le_refl _⟩, ⟨by (with_reducible repeat (first | apply Kd.R_alloc | apply Kd.R_drewN | apply Kd.R_drew)); exact HO_4.out⟩, ⟨by repeat (first | (with_reducible first | exact HB.out | apply below_alloc | apply pw_below_drewN | apply below_drew1) | exact HB.out)⟩⟩
             ·
              rw [if_neg c21] at H
              have c21b0 : decide (x7_3 < ((rd_T65 t294 x6_1).f1)) = false := decide_eq_false c21
              clear c21
              have H' := Aside0.mk H
              clear H
              have p300 : 0 ≤ (x6_1 : Int) := od_
              have q300 : x6_1 < (t294.length : Int) := od_
              obtain ⟨ad300, e300, hx300_0, hx300_1, hx300_2, hx300_3⟩ := at_T65 (Kd.R_reads' HO_4.out).2.2 x6_1 p300 q300
              cases e300
              replace p300 := eq_true p300
              replace q300 := eq_true q300
              go_wp2
              repeat (go_quiet (fail); try go_wp2)
              go_meet
              case rel => exact ⟨_, (false), (by first | rfl | (simp; done) | (simp [*]; done)), H', ⟨by have := HK1.out; have := HJ8.out; have := HK3.out; first | omega | exact Nat.le_refl _⟩, ⟨by (with_reducible repeat (first | apply Kd.R_alloc | apply Kd.R_drewN | apply Kd.R_drew)); exact HO_4.out⟩, ⟨by repeat (first | (with_reducible first | exact HB.out | apply below_alloc | apply pw_below_drewN | apply below_drew1) | exact HB.out)⟩⟩
            ·
             rw [if_neg c20] at H
             exact absurd H (by simp)
           ·
            rw [if_neg c19] at H
            exact absurd H (by simp)
          case rest =>
           clear HC18
           try clear c1
           try clear c2
           try clear p2
           try clear q2
           try clear hx2
           try clear c3
           try clear c3b0
           try clear c3b1
           try clear p3
           try clear q3
           try clear hx3
           try clear p6
           try clear c7
           try clear c8
           try clear c8b0
           try clear c11
           try clear c11b0
           try clear c12
           try clear c12b0
           try clear c13
           try clear c13b0
           try clear c15
           try clear c15b0
           try clear c16
           try clear c16b0
           try clear c17
           try clear c19
           try clear c19b0
           try clear c20
           try clear c20b0
           try clear c21
           try clear c21b0
           try clear hx297_0
           try clear hx297_1
           try clear hx297_2
           try clear hx297_3
           try clear hx298_0
           try clear hx298_1
           try clear hx298_2
           try clear hx298_3
           try clear hx299_0
           try clear hx299_1
           try clear hx299_2
           try clear hx299_3
           try clear hx300_0
           try clear hx300_1
           try clear hx300_2
           try clear hx300_3
           try clear p2
           try clear p297
           try clear p298
           try clear p299
           try clear p300
           try clear p6
           try clear q2
           try clear q297
           try clear q298
           try clear q299
           try clear q300
           obtain ⟨kq, x55_17, rfl, HA, HJ17, HO_4, HB⟩ := hcut
           cases kq with
           | zero => exact absurd HA.out (by simp [ambidexterlaw23_TimetableGroupsMoves.j3])
           | succ kj17 =>
            have H := HA.out
            clear HA
            simp only [ambidexterlaw23_TimetableGroupsMoves.j3] at H
            by_cases c22 : x55_17 = true
            ·
             subst c22
             have H1 : (if x5_3 ≥ (l0.length : Int) then (some false) else (if 0 ≤ x5_3 then (if x5_3 < (l0.length : Int) then (if 0 ≤ x6_1 then (if x6_1 < (t294.length : Int) then (if (!(((rd_T63 l0 x5_3).f0) == ((rd_T65 t294 x6_1).f0.f0)) || (!(((rd_T63 l0 x5_3).f1) == ((rd_T65 t294 x6_1).f0.f1)) || (!(((rd_T63 l0 x5_3).f2) == ((rd_T65 t294 x6_1).f0.f2))))) = true then (some false) else (ambidexterlaw23_TimetableGroupsMoves.l1 kj17 l0 true t294 (wrap64 (x5_3 + 1)) x6_1 (wrap64 (x7_3 + 1)))) else (none)) else (none)) else (none)) else (none))) = some r := by rw [if_pos rfl] at H; exact H
             clear H
             have H := H1
             clear H1
             by_cases c23 : x5_3 ≥ (l0.length : Int)
             ·
              rw [if_pos c23] at H
              have c23b0 : decide ((l0.length : Int) ≤ x5_3) = true := decide_eq_true c23
              clear c23
              exact absurd HT.out (by rw [← Option.some.inj H]; decide)
             ·
              rw [if_neg c23] at H
              have c23b0 : decide ((l0.length : Int) ≤ x5_3) = false := decide_eq_false c23
              clear c23
              by_cases c24 : 0 ≤ x5_3
              ·
               rw [if_pos c24] at H
               have c24b0 : decide (0 ≤ x5_3) = true := decide_eq_true c24
               clear c24
               by_cases c25 : x5_3 < (l0.length : Int)
               ·
                rw [if_pos c25] at H
                have c25b0 : decide (x5_3 < (l0.length : Int)) = true := decide_eq_true c25
                clear c25
                by_cases c26 : 0 ≤ x6_1
                ·
                 rw [if_pos c26] at H
                 have c26b0 : decide (0 ≤ x6_1) = true := decide_eq_true c26
                 clear c26
                 by_cases c27 : x6_1 < (t294.length : Int)
                 ·
                  rw [if_pos c27] at H
                  have c27b0 : decide (x6_1 < (t294.length : Int)) = true := decide_eq_true c27
                  clear c27
                  by_cases c28 : (!(((rd_T63 l0 x5_3).f0) == ((rd_T65 t294 x6_1).f0.f0)) || (!(((rd_T63 l0 x5_3).f1) == ((rd_T65 t294 x6_1).f0.f1)) || (!(((rd_T63 l0 x5_3).f2) == ((rd_T65 t294 x6_1).f0.f2))))) = true
                  ·
                   rw [if_pos c28] at H
                   have c28b0 : (!(((rd_T63 l0 x5_3).f0) == ((rd_T65 t294 x6_1).f0.f0)) || (!(((rd_T63 l0 x5_3).f1) == ((rd_T65 t294 x6_1).f0.f1)) || (!(((rd_T63 l0 x5_3).f2) == ((rd_T65 t294 x6_1).f0.f2))))) = true := c28
                   clear c28
                   exact absurd HT.out (by rw [← Option.some.inj H]; decide)
                  ·
                   rw [if_neg c28] at H
                   have c28b0 : (!(((rd_T63 l0 x5_3).f0) == ((rd_T65 t294 x6_1).f0.f0)) || (!(((rd_T63 l0 x5_3).f1) == ((rd_T65 t294 x6_1).f0.f1)) || (!(((rd_T63 l0 x5_3).f2) == ((rd_T65 t294 x6_1).f0.f2))))) = false := by simpa using c28
                   clear c28
                   have H' := Aside0.mk H
                   clear H
                   have p301 : 0 ≤ (x5_3 : Int) := od_
                   have q301 : x5_3 < (l0.length : Int) := od_
                   obtain ⟨ad301, e301, hx301_0, hx301_1, hx301_2⟩ := at_T63 HR0.out x5_3 p301 q301
                   cases e301
                   replace hx301_0 := (HB.out.cell (World.block_lt_of_cell? w _ hx301_0)).trans hx301_0
                   replace hx301_1 := (HB.out.cell (World.block_lt_of_cell? w _ hx301_1)).trans hx301_1
                   replace hx301_2 := (HB.out.cell (World.block_lt_of_cell? w _ hx301_2)).trans hx301_2
                   replace p301 := eq_true p301
                   replace q301 := eq_true q301
                   have p302 : 0 ≤ (x6_1 : Int) := od_
                   have q302 : x6_1 < (t294.length : Int) := od_
                   obtain ⟨ad302, e302, hx302_0, hx302_1, hx302_2, hx302_3⟩ := at_T65 (Kd.R_reads' HO_4.out).2.2 x6_1 p302 q302
                   cases e302
                   replace p302 := eq_true p302
                   replace q302 := eq_true q302
                   go_wp2
                   repeat (go_quiet (fail); try go_wp2)
                   go_roundg kj17
                   case measure => have := HK1.out; have := HJ8.out; have := HK3.out; have := HJ17.out; omega
                   case rel => exact ⟨(wrap64 (x5_3 + 1)), (wrap64 (x7_3 + 1)), (by first | rfl | (simp; done) | (simp [*]; done)), (by first | rfl | (simp; done) | (simp [*]; done)), H', ⟨by have := HK1.out; have := HJ8.out; have := HK3.out; have := HJ17.out; omega⟩, ⟨by (with_reducible repeat (first | apply Kd.R_alloc | apply Kd.R_drewN | apply Kd.R_drew)); exact HO_4.out⟩, ⟨by repeat (first | (with_reducible first | exact HB.out | apply below_alloc | apply pw_below_drewN | apply below_drew1) | exact HB.out)⟩⟩
                 ·
                  rw [if_neg c27] at H
                  exact absurd H (by simp)
                ·
                 rw [if_neg c26] at H
                 exact absurd H (by simp)
               ·
                rw [if_neg c25] at H
                exact absurd H (by simp)
              ·
               rw [if_neg c24] at H
               exact absurd H (by simp)
            ·
             replace c22 := Bool.eq_false_iff.mpr c22
             subst c22
             have H1 : (ambidexterlaw23_TimetableGroupsMoves.l0 kj17 l0 true t294 x5_3 (wrap64 (x6_1 + 1))) = some r := by rw [if_neg (show ¬ (false = true) by decide)] at H; exact H
             clear H
             have H := H1
             clear H1
             have H' := Aside0.mk H
             clear H
             go_wp2
             repeat (go_quiet (fail); try go_wp2)
             go_roundg kj17
             case measure => have := HK1.out; have := HJ8.out; have := HK3.out; have := HJ17.out; omega
             case rel => exact ⟨(x5_3), (wrap64 (x6_1 + 1)), (by first | rfl | (simp; done) | (simp [*]; done)), (by first | rfl | (simp; done) | (simp [*]; done)), H', ⟨by have := HK1.out; have := HJ8.out; have := HK3.out; have := HJ17.out; omega⟩, ⟨by (with_reducible repeat (first | apply Kd.R_alloc | apply Kd.R_drewN | apply Kd.R_drew)); exact HO_4.out⟩, ⟨by repeat (first | (with_reducible first | exact HB.out | apply below_alloc | apply pw_below_drewN | apply below_drew1) | exact HB.out)⟩⟩
    ·
     rw [if_neg c8] at H
     have c8b0 : decide (x6_1 < (t294.length : Int)) = false := decide_eq_false c8
     clear c8
     have H1 : (some (x5_1 == (l0.length : Int))) = some r := by first | (rw [if_pos rfl] at H; exact H) | (rw [if_pos True.intro] at H; exact H)
     clear H
     have H := H1
     clear H1
     obtain rfl := Option.some.inj H
     obtain ⟨Ao29, co29, eo29⟩ := Kd.R_slice HO_4.out
     subst eo29
     go_wp2
     repeat (go_quiet (fail); try go_wp2)
     go_ret
     exact ⟨by first | rfl | (simp [errW_none, errW_some] <;> rfl) | (simp [*, errW_none, errW_some] <;> rfl), by repeat (first | (with_reducible first | exact HB.out | apply below_alloc | apply pw_below_drewN | apply below_drew1) | exact HB.out)⟩

end Go.Proofs.Ytmmaodlngnjmlaa.P
