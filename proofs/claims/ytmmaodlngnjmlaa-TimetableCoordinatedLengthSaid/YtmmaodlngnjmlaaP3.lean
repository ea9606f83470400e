-- Written by this session's own program, for this seat. Lean checks it.
import Derived.Test.YtmmaodlngnjmlaaP0
import Derived.Test.YtmmaodlngnjmlaaP1
import Derived.Test.YtmmaodlngnjmlaaP2
import Derived.Test.YtmmaodlngnjmlaaXFar2
import Derived.Test.YtmmaodlngnjmlaaXShorts2
namespace Go.Proofs.Ytmmaodlngnjmlaa.P
open Go.RowKit Go.Proofs.YtmmaodlngnjmlaaW.PrintWords Go.Proofs.YtmmaodlngnjmlaaW.PrintLast Go.Proofs.YtmmaodlngnjmlaaW.PrintMore
attribute [local go_sem] max2_int min2_int max_two min_two max_three min_three max_four min_four   -- for this text's walks alone
set_option linter.unusedVariables false
set_option linter.unusedSimpArgs false

/-! ### mintime_Profile: function 16 -/
mutual
def mintime_Profile.j0 : Nat → Int → Bool → Int → Int → Int → Option (List Int × Bool)
 | 0, _, _, _, _, _ => none
 | k + 1, x1, x26, x150000, x150001, x150002 => if x26 = true then (some (([] : List Int), false)) else ((mintime_space_left.f k x150000 x150001 x150002 x1).bind fun t152 => ((mintime_space_of.f x150000 x150001 x150002 x1 0 0 0).bind fun bt156 => (if 0 ≤ bt156.1 then (if bt156.1 < (t152.length : Int) then (if (rd t152 bt156.1) = 0 then (some (([] : List Int), false)) else (mintime_Profile.l0 k t152 bt156.1 ([] : List Int) x150000 x150001 x150002 x150000 x150001 x150002 x1 0 0 0)) else (none)) else (none))))
def mintime_Profile.l0 : Nat → List Int → Int → List Int → Int → Int → Int → Int → Int → Int → Int → Int → Int → Int → Option (List Int × Bool)
 | 0, _, _, _, _, _, _, _, _, _, _, _, _, _ => none
 | k + 1, x7, x9, x11, x150000, x150001, x150002, x152000, x152001, x152002, x152003, x156000, x156001, x156002 => if 0 ≤ x9 then (if x9 < (x7.length : Int) then (if (rd x7 x9) > 1 then (mintime_Profile.l1 k x7 x9 x11 (wrap64 (-x150002)) x150000 x150001 x150002 x152000 x152001 x152002 x152003 x156000 x156001 x156002) else (some (x11, true))) else (none)) else (none)
def mintime_Profile.l1 : Nat → List Int → Int → List Int → Int → Int → Int → Int → Int → Int → Int → Int → Int → Int → Int → Option (List Int × Bool)
 | 0, _, _, _, _, _, _, _, _, _, _, _, _, _, _ => none
 | k + 1, x7, x9, x11, x12, x150000, x150001, x150002, x152000, x152001, x152002, x152003, x156000, x156001, x156002 => if x12 ≤ x150002 then ((profile_Final.f x156000 x156001 x156002 (([x12] : List Int))).bind fun bt163 => ((mintime_space_of.f x152000 x152001 x152002 x152003 bt163.1 bt163.2.1 bt163.2.2).bind fun bt167 => (if bt167.2 = true then (if 0 ≤ bt167.1 then (if bt167.1 < (x7.length : Int) then (if 0 ≤ x9 then (if x9 < (x7.length : Int) then (if (rd x7 bt167.1) = (wrap64 ((rd x7 x9) - 1)) then (if x11.length < 17592186044416 then (mintime_Profile.l0 k x7 bt167.1 (x11 ++ [x12]) x150000 x150001 x150002 x152000 x152001 x152002 x152003 bt163.1 bt163.2.1 bt163.2.2) else (none)) else (mintime_Profile.l1 k x7 x9 x11 (wrap64 (x12 + 1)) x150000 x150001 x150002 x152000 x152001 x152002 x152003 x156000 x156001 x156002)) else (none)) else (none)) else (none)) else (none)) else (mintime_Profile.l1 k x7 x9 x11 (wrap64 (x12 + 1)) x150000 x150001 x150002 x152000 x152001 x152002 x152003 x156000 x156001 x156002)))) else (mintime_Profile.l0 k x7 x9 x11 x150000 x150001 x150002 x152000 x152001 x152002 x152003 x156000 x156001 x156002)
end
def mintime_Profile.f (k : Nat) (a0_0 : Int) (a0_1 : Int) (a0_2 : Int) (a1 : Int) : Option (List Int × Bool) := (profile_ValidLimits.f a0_0 a0_1 a0_2).bind fun t150 => (if t150 = true then (if a1 < 0 then (mintime_Profile.j0 k a1 true a0_0 a0_1 a0_2) else (mintime_Profile.j0 k a1 (decide (a1 > 420)) a0_0 a0_1 a0_2)) else (mintime_Profile.j0 k a1 true a0_0 a0_1 a0_2))
theorem mintime_Profile.mono_l : ∀ k, (∀ y0 y1 y2 y3 y4, LeO (mintime_Profile.j0 k y0 y1 y2 y3 y4) (mintime_Profile.j0 (k + 1) y0 y1 y2 y3 y4)) ∧ (∀ y0 y1 y2 y3 y4 y5 y6 y7 y8 y9 y10 y11 y12, LeO (mintime_Profile.l0 k y0 y1 y2 y3 y4 y5 y6 y7 y8 y9 y10 y11 y12) (mintime_Profile.l0 (k + 1) y0 y1 y2 y3 y4 y5 y6 y7 y8 y9 y10 y11 y12)) ∧ (∀ y0 y1 y2 y3 y4 y5 y6 y7 y8 y9 y10 y11 y12 y13, LeO (mintime_Profile.l1 k y0 y1 y2 y3 y4 y5 y6 y7 y8 y9 y10 y11 y12 y13) (mintime_Profile.l1 (k + 1) y0 y1 y2 y3 y4 y5 y6 y7 y8 y9 y10 y11 y12 y13))
 | 0 => ⟨fun _ _ _ _ _ r h => by simp [mintime_Profile.j0] at h, fun _ _ _ _ _ _ _ _ _ _ _ _ _ r h => by simp [mintime_Profile.l0] at h, fun _ _ _ _ _ _ _ _ _ _ _ _ _ _ r h => by simp [mintime_Profile.l1] at h⟩
 | k + 1 => by
  obtain ⟨ih0, ih1, ih2⟩ := mintime_Profile.mono_l k
  refine ⟨?_, ?_, ?_⟩
  ·
   intro y0 y1 y2 y3 y4
   unfold mintime_Profile.j0
   repeat' first
   | (with_reducible exact ih0 _ _ _ _ _)
   | (with_reducible exact ih1 _ _ _ _ _ _ _ _ _ _ _ _ _)
   | (with_reducible exact ih2 _ _ _ _ _ _ _ _ _ _ _ _ _ _)
   | (with_reducible exact mintime_space_left.mono _ _ _ _ _)
   | (with_reducible exact LeO.refl _)
   | (with_reducible exact LeO.none _)
   | (with_reducible refine LeO.ite ?_ ?_)
   | (with_reducible refine LeO.bind ?_ (fun _ => ?_))
   | exact ih0 _ _ _ _ _
   | exact ih1 _ _ _ _ _ _ _ _ _ _ _ _ _
   | exact ih2 _ _ _ _ _ _ _ _ _ _ _ _ _ _
   | exact mintime_space_left.mono _ _ _ _ _
   | exact LeO.none _
   | refine LeO.ite ?_ ?_
   | refine LeO.bind ?_ (fun _ => ?_)
  ·
   intro y0 y1 y2 y3 y4 y5 y6 y7 y8 y9 y10 y11 y12
   unfold mintime_Profile.l0
   repeat' first
   | (with_reducible exact ih0 _ _ _ _ _)
   | (with_reducible exact ih1 _ _ _ _ _ _ _ _ _ _ _ _ _)
   | (with_reducible exact ih2 _ _ _ _ _ _ _ _ _ _ _ _ _ _)
   | (with_reducible exact mintime_space_left.mono _ _ _ _ _)
   | (with_reducible exact LeO.refl _)
   | (with_reducible exact LeO.none _)
   | (with_reducible refine LeO.ite ?_ ?_)
   | (with_reducible refine LeO.bind ?_ (fun _ => ?_))
   | exact ih0 _ _ _ _ _
   | exact ih1 _ _ _ _ _ _ _ _ _ _ _ _ _
   | exact ih2 _ _ _ _ _ _ _ _ _ _ _ _ _ _
   | exact mintime_space_left.mono _ _ _ _ _
   | exact LeO.none _
   | refine LeO.ite ?_ ?_
   | refine LeO.bind ?_ (fun _ => ?_)
  ·
   intro y0 y1 y2 y3 y4 y5 y6 y7 y8 y9 y10 y11 y12 y13
   unfold mintime_Profile.l1
   repeat' first
   | (with_reducible exact ih0 _ _ _ _ _)
   | (with_reducible exact ih1 _ _ _ _ _ _ _ _ _ _ _ _ _)
   | (with_reducible exact ih2 _ _ _ _ _ _ _ _ _ _ _ _ _ _)
   | (with_reducible exact mintime_space_left.mono _ _ _ _ _)
   | (with_reducible exact LeO.refl _)
   | (with_reducible exact LeO.none _)
   | (with_reducible refine LeO.ite ?_ ?_)
   | (with_reducible refine LeO.bind ?_ (fun _ => ?_))
   | exact ih0 _ _ _ _ _
   | exact ih1 _ _ _ _ _ _ _ _ _ _ _ _ _
   | exact ih2 _ _ _ _ _ _ _ _ _ _ _ _ _ _
   | exact mintime_space_left.mono _ _ _ _ _
   | exact LeO.none _
   | refine LeO.ite ?_ ?_
   | refine LeO.bind ?_ (fun _ => ?_)
theorem mintime_Profile.mono : ∀ a0 a1 a2 a3 k, LeO (mintime_Profile.f k a0 a1 a2 a3) (mintime_Profile.f (k + 1) a0 a1 a2 a3) := by
 intro a0 a1 a2 a3 k
 obtain ⟨ih0, ih1, ih2⟩ := mintime_Profile.mono_l k
 unfold mintime_Profile.f
 repeat' first
   | (with_reducible exact ih0 _ _ _ _ _)
   | (with_reducible exact ih1 _ _ _ _ _ _ _ _ _ _ _ _ _)
   | (with_reducible exact ih2 _ _ _ _ _ _ _ _ _ _ _ _ _ _)
   | (with_reducible exact mintime_space_left.mono _ _ _ _ _)
   | (with_reducible exact LeO.refl _)
   | (with_reducible exact LeO.none _)
   | (with_reducible refine LeO.ite ?_ ?_)
   | (with_reducible refine LeO.bind ?_ (fun _ => ?_))
   | exact ih0 _ _ _ _ _
   | exact ih1 _ _ _ _ _ _ _ _ _ _ _ _ _
   | exact ih2 _ _ _ _ _ _ _ _ _ _ _ _ _ _
   | exact mintime_space_left.mono _ _ _ _ _
   | exact LeO.none _
   | refine LeO.ite ?_ ?_
   | refine LeO.bind ?_ (fun _ => ?_)
set_option maxHeartbeats 8000000 in
set_option maxRecDepth 100000 in
theorem mintime_Profile.calls (k : Nat) (a0_0 : Int) (a0_1 : Int) (a0_2 : Int) (a1 : Int) (r1 : List Int) (r2 : Bool) (w : World) (h : mintime_Profile.f k a0_0 a0_1 a0_2 a1 = some (r1, r2)) :
  Calls Try.prog 16 #[.agg #[.int .i64 a0_0, .int .i64 a0_1, .int .i64 a0_2], .int .i64 a1] w fun e w' => ∃ v0_ : Value, e = .returned (.tuple #[v0_, .bool r2]) ∧ Kd.R (Kd.int .i64) 3 w' w.heap.size (fun _ => True) v0_ r1 ∧ Below w.heap.size w w' := by
 have hu25 := Try.underlying25
 have hu98 := Try.underlying98
 have hu33 := Try.underlying33
 have HB := Aside0.mk (Below.refl w.heap.size w)
 have H : ((profile_ValidLimits.f a0_0 a0_1 a0_2).bind fun t150 => (if t150 = true then (if a1 < 0 then (mintime_Profile.j0 k a1 true a0_0 a0_1 a0_2) else (mintime_Profile.j0 k a1 (decide (a1 > 420)) a0_0 a0_1 a0_2)) else (mintime_Profile.j0 k a1 true a0_0 a0_1 a0_2))) = some (r1, r2) := h
 clear h
 have HC3 := Aside0.mk H
 clear H
 go_enter Try.func16, Try.ntmps16
 go_upto_region 1 with (first | ((with_reducible refine gate_dst (N := 2) rfl ?_); refine box_event ?hg (N := 2) ?hd (cs := #[.int .i64 a0_0, .int .i64 a0_1, .int .i64 a0_2]) (t := 25) ?hr ?_; (case hd => rfl); (case hg => rfl); (case hr => first | (go_simp; done) | (go_simp; rfl)); intro gb149 hg w4 hbox hb; have n0_ := Aside0.mk (below_step hb_ hb); have n1_ := Aside0.mk (hbox); have n2_ := Aside0.mk (sz_ hg : w.heap.size ≤ gb149); have n3_ := Aside0.mk (sz_ hg : w.heap.size ≤ gb149); clear HB; have HB := n0_; have BK149 := n1_; have GW149 := n2_; have GE149 := n3_; clear n0_ n1_ n2_ n3_; clear hb hbox hg))
 (try simp only [Act.put, List.setIfInBounds_toArray, List.set_cons_zero, List.set_cons_succ])
 go_cut [26] (fun v26 wc => ∃ (kq : Nat) (x26_2 : Bool), v26 = .bool x26_2 ∧ Aside0 (mintime_Profile.j0 kq a1 x26_2 a0_0 a0_1 a0_2 = some (r1, r2)) ∧ Aside0 (kq ≤ k) ∧ Aside0 (wc.heap[gb149]? = some (.cells #[.int .i64 a0_0, .int .i64 a0_1, .int .i64 a0_2] 25 (0, 0))) ∧ Aside0 (Below w.heap.size w wc))
 case first =>
  have H := HC3.out
  clear HC3
  replace H := Option.bind_eq_some_iff.mp H
  obtain ⟨t150, A50, H⟩ := H
  replace H : (if t150 = true then (if a1 < 0 then (mintime_Profile.j0 k a1 true a0_0 a0_1 a0_2) else (mintime_Profile.j0 k a1 (decide (a1 > 420)) a0_0 a0_1 a0_2)) else (mintime_Profile.j0 k a1 true a0_0 a0_1 a0_2)) = some (r1, r2) := H
  have A5 := Aside0.mk A50
  clear A50
  by_cases c6 : t150 = true
  ·
   subst c6
   have H1 : (if a1 < 0 then (mintime_Profile.j0 k a1 true a0_0 a0_1 a0_2) else (mintime_Profile.j0 k a1 (decide (a1 > 420)) a0_0 a0_1 a0_2)) = some (r1, r2) := by rw [if_pos rfl] at H; exact H
   clear H
   have H := H1
   clear H1
   by_cases c7 : a1 < 0
   ·
    rw [if_pos c7] at H
    have c7b0 : decide (a1 < 0) = true := decide_eq_true c7
    clear c7
    (first | rw [c7b0] | (simp only [i64_w, i32_w]; rw [c7b0]) | skip)
    have H' := Aside0.mk H
    clear H
    have hcz8_0 : w4.cell? ⟨gb149, 0, none⟩ = some (.int .i64 a0_0) := (blk_cell BK149.out 0).trans rfl
    have hcz8_1 : w4.cell? ⟨gb149, 1, none⟩ = some (.int .i64 a0_1) := (blk_cell BK149.out 1).trans rfl
    have hcz8_2 : w4.cell? ⟨gb149, 2, none⟩ = some (.int .i64 a0_2) := (blk_cell BK149.out 2).trans rfl
    have hfz8_0 := blk_frozen BK149.out 0
    have hfz8_1 := blk_frozen BK149.out 1
    have hfz8_2 := blk_frozen BK149.out 2
    go_wp2_with (first | (go_at_call 48; (with_reducible refine (profile_ValidLimits.calls a0_0 a0_1 a0_2 true _ A5.out).mono ?_); rintro e w9 ⟨rfl, hb⟩; have n0_ := Aside0.mk (bb_ BK149.out hb); have n1_ := Aside0.mk (below_step hb_ hb); clear BK149; clear HB; have BK149 := n0_; have HB := n1_; clear n0_ n1_; (try clear hb); (try clear hb2); (try clear hk); (try clear hi)))
    go_meet
    case rel => exact ⟨_, (true), (by first | rfl | (simp; done) | (simp [*]; done)), H', ⟨by first | omega | exact Nat.le_refl _⟩, ⟨by (with_reducible repeat (first | refine blk_drewN ?_ _ | refine blk_drew ?_ | refine blk_alloc ?_ _)); exact BK149.out⟩, ⟨by repeat (first | (with_reducible first | exact HB.out | apply below_alloc | apply pw_below_drewN | apply below_drew1 | refine below_set ?_ GE149.out) | exact HB.out)⟩⟩
   ·
    rw [if_neg c7] at H
    have c7b0 : decide (a1 < 0) = false := decide_eq_false c7
    clear c7
    (first | rw [c7b0] | (simp only [i64_w, i32_w]; rw [c7b0]) | skip)
    have H' := Aside0.mk H
    clear H
    have hcz10_0 : w4.cell? ⟨gb149, 0, none⟩ = some (.int .i64 a0_0) := (blk_cell BK149.out 0).trans rfl
    have hcz10_1 : w4.cell? ⟨gb149, 1, none⟩ = some (.int .i64 a0_1) := (blk_cell BK149.out 1).trans rfl
    have hcz10_2 : w4.cell? ⟨gb149, 2, none⟩ = some (.int .i64 a0_2) := (blk_cell BK149.out 2).trans rfl
    have hfz10_0 := blk_frozen BK149.out 0
    have hfz10_1 := blk_frozen BK149.out 1
    have hfz10_2 := blk_frozen BK149.out 2
    go_wp2_with (first | (go_at_call 48; (with_reducible refine (profile_ValidLimits.calls a0_0 a0_1 a0_2 true _ A5.out).mono ?_); rintro e w11 ⟨rfl, hb⟩; have n0_ := Aside0.mk (bb_ BK149.out hb); have n1_ := Aside0.mk (below_step hb_ hb); clear BK149; clear HB; have BK149 := n0_; have HB := n1_; clear n0_ n1_; (try clear hb); (try clear hb2); (try clear hk); (try clear hi)))
    go_meet
    case rel => exact ⟨_, (decide (a1 > 420)), (by first | rfl | (simp; done) | (simp [*]; done)), H', ⟨by first | omega | exact Nat.le_refl _⟩, ⟨by (with_reducible repeat (first | refine blk_drewN ?_ _ | refine blk_drew ?_ | refine blk_alloc ?_ _)); exact BK149.out⟩, ⟨by repeat (first | (with_reducible first | exact HB.out | apply below_alloc | apply pw_below_drewN | apply below_drew1 | refine below_set ?_ GE149.out) | exact HB.out)⟩⟩
  ·
   replace c6 := Bool.eq_false_iff.mpr c6
   subst c6
   have H1 : (mintime_Profile.j0 k a1 true a0_0 a0_1 a0_2) = some (r1, r2) := by rw [if_neg (show ¬ (false = true) by decide)] at H; exact H
   clear H
   have H := H1
   clear H1
   have H' := Aside0.mk H
   clear H
   have hcz12_0 : w4.cell? ⟨gb149, 0, none⟩ = some (.int .i64 a0_0) := (blk_cell BK149.out 0).trans rfl
   have hcz12_1 : w4.cell? ⟨gb149, 1, none⟩ = some (.int .i64 a0_1) := (blk_cell BK149.out 1).trans rfl
   have hcz12_2 : w4.cell? ⟨gb149, 2, none⟩ = some (.int .i64 a0_2) := (blk_cell BK149.out 2).trans rfl
   have hfz12_0 := blk_frozen BK149.out 0
   have hfz12_1 := blk_frozen BK149.out 1
   have hfz12_2 := blk_frozen BK149.out 2
   go_wp2_with (first | (go_at_call 48; (with_reducible refine (profile_ValidLimits.calls a0_0 a0_1 a0_2 false _ A5.out).mono ?_); rintro e w13 ⟨rfl, hb⟩; have n0_ := Aside0.mk (bb_ BK149.out hb); have n1_ := Aside0.mk (below_step hb_ hb); clear BK149; clear HB; have BK149 := n0_; have HB := n1_; clear n0_ n1_; (try clear hb); (try clear hb2); (try clear hk); (try clear hi)))
   go_meet
   case rel => exact ⟨_, (true), (by first | rfl | (simp; done) | (simp [*]; done)), H', ⟨by first | omega | exact Nat.le_refl _⟩, ⟨by (with_reducible repeat (first | refine blk_drewN ?_ _ | refine blk_drew ?_ | refine blk_alloc ?_ _)); exact BK149.out⟩, ⟨by repeat (first | (with_reducible first | exact HB.out | apply below_alloc | apply pw_below_drewN | apply below_drew1 | refine below_set ?_ GE149.out) | exact HB.out)⟩⟩
 case rest =>
  clear HC3
  try clear c1
  try clear p2
  try clear c6
  try clear c7
  try clear c7b0
  try clear hcz10_0
  try clear hcz10_1
  try clear hcz10_2
  try clear hcz12_0
  try clear hcz12_1
  try clear hcz12_2
  try clear hcz8_0
  try clear hcz8_1
  try clear hcz8_2
  try clear hfz10_0
  try clear hfz10_1
  try clear hfz10_2
  try clear hfz12_0
  try clear hfz12_1
  try clear hfz12_2
  try clear hfz8_0
  try clear hfz8_1
  try clear hfz8_2
  obtain ⟨kq, x26_2, rfl, HA, HJ2, BK149, HB⟩ := hcut
  cases kq with
  | zero => exact absurd HA.out (by simp [mintime_Profile.j0])
  | succ kj2 =>
   have H := HA.out
   clear HA
   simp only [mintime_Profile.j0] at H
   by_cases c14 : x26_2 = true
   ·
    subst c14
    have H1 : (some (([] : List Int), false)) = some (r1, r2) := by rw [if_pos rfl] at H; exact H
    clear H
    have H := H1
    clear H1
    simp only [Option.some.injEq, Prod.mk.injEq] at H
    obtain ⟨rfl, rfl⟩ := H
    go_wp2
    repeat (go_quiet (fail); try go_wp2)
    go_ret2
    exact ⟨_, by first | rfl | (simp [errW_none, errW_some] <;> rfl) | (simp [*, errW_none, errW_some] <;> rfl), by first | exact Kd.R_nil _ _ _ _ _ | exact Kd.N_nil _ _ _ _ _ | exact Kd.V_nil _ _ _ _ _ | exact Kd.Q_nil _ _ _ _ _ | exact Kd.S_nil _ _ _ _ _, by repeat (first | (with_reducible first | exact HB.out | apply below_alloc | apply pw_below_drewN | apply below_drew1 | refine below_set ?_ GE149.out) | exact HB.out)⟩
   ·
    replace c14 := Bool.eq_false_iff.mpr c14
    subst c14
    have H1 : ((mintime_space_left.f kj2 a0_0 a0_1 a0_2 a1).bind fun t152 => ((mintime_space_of.f a0_0 a0_1 a0_2 a1 0 0 0).bind fun bt156 => (if 0 ≤ bt156.1 then (if bt156.1 < (t152.length : Int) then (if (rd t152 bt156.1) = 0 then (some (([] : List Int), false)) else (mintime_Profile.l0 kj2 t152 bt156.1 ([] : List Int) a0_0 a0_1 a0_2 a0_0 a0_1 a0_2 a1 0 0 0)) else (none)) else (none)))) = some (r1, r2) := by rw [if_neg (show ¬ (false = true) by decide)] at H; exact H
    clear H
    have H := H1
    clear H1
    replace H := Option.bind_eq_some_iff.mp H
    obtain ⟨t152, A150, H⟩ := H
    replace H : ((mintime_space_of.f a0_0 a0_1 a0_2 a1 0 0 0).bind fun bt156 => (if 0 ≤ bt156.1 then (if bt156.1 < (t152.length : Int) then (if (rd t152 bt156.1) = 0 then (some (([] : List Int), false)) else (mintime_Profile.l0 kj2 t152 bt156.1 ([] : List Int) a0_0 a0_1 a0_2 a0_0 a0_1 a0_2 a1 0 0 0)) else (none)) else (none))) = some (r1, r2) := H
    have A15 := Aside0.mk A150
    clear A150
    replace H := Option.bind_eq_some_iff.mp H
    obtain ⟨⟨t156, t157⟩, A160, H⟩ := H
    replace H : (if 0 ≤ t156 then (if t156 < (t152.length : Int) then (if (rd t152 t156) = 0 then (some (([] : List Int), false)) else (mintime_Profile.l0 kj2 t152 t156 ([] : List Int) a0_0 a0_1 a0_2 a0_0 a0_1 a0_2 a1 0 0 0)) else (none)) else (none)) = some (r1, r2) := H
    have A16 := Aside0.mk A160
    clear A160
    by_cases c17 : 0 ≤ t156
    ·
     rw [if_pos c17] at H
     have c17b0 : decide (0 ≤ t156) = true := decide_eq_true c17
     clear c17
     by_cases c18 : t156 < (t152.length : Int)
     ·
      rw [if_pos c18] at H
      have c18b0 : decide (t156 < (t152.length : Int)) = true := decide_eq_true c18
      clear c18
      by_cases c19 : (rd t152 t156) = 0
      ·
       rw [if_pos c19] at H
       have c19b0 : ((rd t152 t156) == 0) = true := beq_iff_eq.mpr c19
       have c19b1 : ((rd t152 t156) != 0) = false := bne_eq_false_iff_eq.mpr c19
       clear c19
       simp only [Option.some.injEq, Prod.mk.injEq] at H
       obtain ⟨rfl, rfl⟩ := H
       have hcz20_0 : wc.cell? ⟨gb149, 0, none⟩ = some (.int .i64 a0_0) := (blk_cell BK149.out 0).trans rfl
       have hcz20_1 : wc.cell? ⟨gb149, 1, none⟩ = some (.int .i64 a0_1) := (blk_cell BK149.out 1).trans rfl
       have hcz20_2 : wc.cell? ⟨gb149, 2, none⟩ = some (.int .i64 a0_2) := (blk_cell BK149.out 2).trans rfl
       have hfz20_0 := blk_frozen BK149.out 0
       have hfz20_1 := blk_frozen BK149.out 1
       have hfz20_2 := blk_frozen BK149.out 2
       go_wp2_with (first | ((with_reducible refine gate_dst (N := 6) rfl ?_); refine box_event ?hg (N := 6) ?hd (cs := #[.int .i64 0, .int .i64 0, .int .i64 0, .int .i64 0]) (t := 98) ?hr ?_; (case hd => rfl); (case hg => rfl); (case hr => first | (go_simp; done) | (go_simp; rfl)); intro gb151 hg w21 hbox hb; have n0_ := Aside0.mk (bb_ BK149.out hb); have n1_ := Aside0.mk (below_step hb_ hb); have n2_ := Aside0.mk (hbox); have n3_ := Aside0.mk (sz_ hg : w.heap.size ≤ gb151); have n4_ := Aside0.mk (sz_ hg : w.heap.size ≤ gb151); have n5_ := Aside0.mk ((by rw [hg]; exact Nat.ne_of_lt (bl_ BK149.out) : gb149 ≠ gb151)); have n6_ := Aside0.mk ((by rw [hg]; exact Nat.ne_of_gt (bl_ BK149.out) : gb151 ≠ gb149)); clear BK149; clear HB; have BK149 := n0_; have HB := n1_; have BK151 := n2_; have GW151 := n3_; have GE151 := n4_; have NB149_151 := n5_; have NB151_149 := n6_; clear n0_ n1_ n2_ n3_ n4_ n5_ n6_; clear hb hbox hg; have hnb22 := NB151_149.out; have hnc22 := NB149_151.out; have hcz23_0 : w21.cell? ⟨gb151, 0, none⟩ = some (.int .i64 0) := (blk_cell BK151.out 0).trans rfl; have hcz23_1 : w21.cell? ⟨gb151, 1, none⟩ = some (.int .i64 0) := (blk_cell BK151.out 1).trans rfl; have hcz23_2 : w21.cell? ⟨gb151, 2, none⟩ = some (.int .i64 0) := (blk_cell BK151.out 2).trans rfl; have hcz23_3 : w21.cell? ⟨gb151, 3, none⟩ = some (.int .i64 0) := (blk_cell BK151.out 3).trans rfl; have hfz23_0 := blk_frozen BK151.out 0; have hfz23_1 := blk_frozen BK151.out 1; have hfz23_2 := blk_frozen BK151.out 2; have hfz23_3 := blk_frozen BK151.out 3) | (go_at_call 49; (with_reducible refine (mintime_space_left.calls kj2 a0_0 a0_1 a0_2 a1 t152 _ A15.out).mono ?_); rintro e w24 ⟨v153, rfl, ho0, hb⟩; have n0_ := Aside0.mk (Kd.R_lower ho0 (below_size hb_)); have n1_ := Aside0.mk (blk_below (g := gb149) (o := .cells #[.int .i64 a0_0, .int .i64 a0_1, .int .i64 a0_2] 25 (0, 0)) (by (with_reducible repeat (first | refine blk_drewN ?_ _ | refine blk_drew ?_ | refine blk_alloc ?_ _)); refine blk_far ?_ NB149_151.out _; (with_reducible repeat (first | refine blk_drewN ?_ _ | refine blk_drew ?_ | refine blk_alloc ?_ _)); refine blk_far ?_ NB149_151.out _; (with_reducible repeat (first | refine blk_drewN ?_ _ | refine blk_drew ?_ | refine blk_alloc ?_ _)); refine blk_far ?_ NB149_151.out _; (with_reducible repeat (first | refine blk_drewN ?_ _ | refine blk_drew ?_ | refine blk_alloc ?_ _)); refine blk_far ?_ NB149_151.out _; (with_reducible repeat (first | refine blk_drewN ?_ _ | refine blk_drew ?_ | refine blk_alloc ?_ _)); exact BK149.out) hb); have n2_ := Aside0.mk (blk_below (g := gb151) (o := .cells #[.int .i64 a0_0, .int .i64 a0_1, .int .i64 a0_2, .int .i64 a1] 98 (0, 0)) (by (with_reducible repeat (first | refine blk_drewN ?_ _ | refine blk_drew ?_ | refine blk_alloc ?_ _)); refine blk_put (cs := #[.int .i64 a0_0, .int .i64 a0_1, .int .i64 a0_2, .int .i64 0]) ?_ 3 _ rfl; (with_reducible repeat (first | refine blk_drewN ?_ _ | refine blk_drew ?_ | refine blk_alloc ?_ _)); refine blk_put (cs := #[.int .i64 a0_0, .int .i64 a0_1, .int .i64 0, .int .i64 0]) ?_ 2 _ rfl; (with_reducible repeat (first | refine blk_drewN ?_ _ | refine blk_drew ?_ | refine blk_alloc ?_ _)); refine blk_put (cs := #[.int .i64 a0_0, .int .i64 0, .int .i64 0, .int .i64 0]) ?_ 1 _ rfl; (with_reducible repeat (first | refine blk_drewN ?_ _ | refine blk_drew ?_ | refine blk_alloc ?_ _)); refine blk_put (cs := #[.int .i64 0, .int .i64 0, .int .i64 0, .int .i64 0]) ?_ 0 _ rfl; (with_reducible repeat (first | refine blk_drewN ?_ _ | refine blk_drew ?_ | refine blk_alloc ?_ _)); exact BK151.out) hb); have n3_ := Aside0.mk (below_step hb_ hb); clear BK149; clear BK151; clear HB; have HO154 := n0_; have BK149 := n1_; have BK151 := n2_; have HB := n3_; clear n0_ n1_ n2_ n3_; (try clear hb); (try clear hb2); (try clear hk); (try clear hi); (try clear ho0)) | ((with_reducible refine gate_dst (N := 8) rfl ?_); refine box_event ?hg (N := 8) ?hd (cs := #[.int .i64 0, .int .i64 0, .int .i64 0]) (t := 33) ?hr ?_; (case hd => rfl); (case hg => rfl); (case hr => first | (go_simp; done) | (go_simp; rfl)); intro gb155 hg w25 hbox hb; have n0_ := Aside0.mk (Kd.R_below (rk_ HO154.out) hb); have n1_ := Aside0.mk (bb_ BK149.out hb); have n2_ := Aside0.mk (bb_ BK151.out hb); have n3_ := Aside0.mk (below_step hb_ hb); have n4_ := Aside0.mk (hbox); have n5_ := Aside0.mk (sz_ hg : w.heap.size ≤ gb155); have n6_ := Aside0.mk (sz_ hg : w.heap.size ≤ gb155); have n7_ := Aside0.mk ((by rw [hg]; exact Nat.ne_of_lt (bl_ BK149.out) : gb149 ≠ gb155)); have n8_ := Aside0.mk ((by rw [hg]; exact Nat.ne_of_gt (bl_ BK149.out) : gb155 ≠ gb149)); have n9_ := Aside0.mk ((by rw [hg]; exact Nat.ne_of_lt (bl_ BK151.out) : gb151 ≠ gb155)); have n10_ := Aside0.mk ((by rw [hg]; exact Nat.ne_of_gt (bl_ BK151.out) : gb155 ≠ gb151)); clear HO154; clear BK149; clear BK151; clear HB; have HO154 := n0_; have BK149 := n1_; have BK151 := n2_; have HB := n3_; have BK155 := n4_; have GW155 := n5_; have GE155 := n6_; have NB149_155 := n7_; have NB155_149 := n8_; have NB151_155 := n9_; have NB155_151 := n10_; clear n0_ n1_ n2_ n3_ n4_ n5_ n6_ n7_ n8_ n9_ n10_; clear hb hbox hg; have hnb26 := NB151_155.out; have hnc26 := NB155_151.out; have hcz27_0 : w25.cell? ⟨gb151, 0, none⟩ = some (.int .i64 a0_0) := (blk_cell BK151.out 0).trans rfl; have hcz27_1 : w25.cell? ⟨gb151, 1, none⟩ = some (.int .i64 a0_1) := (blk_cell BK151.out 1).trans rfl; have hcz27_2 : w25.cell? ⟨gb151, 2, none⟩ = some (.int .i64 a0_2) := (blk_cell BK151.out 2).trans rfl; have hcz27_3 : w25.cell? ⟨gb151, 3, none⟩ = some (.int .i64 a1) := (blk_cell BK151.out 3).trans rfl; have hfz27_0 := blk_frozen BK151.out 0; have hfz27_1 := blk_frozen BK151.out 1; have hfz27_2 := blk_frozen BK151.out 2; have hfz27_3 := blk_frozen BK151.out 3; have hnb28 := NB155_149.out; have hnc28 := NB149_155.out; have hcz29_0 : w25.cell? ⟨gb155, 0, none⟩ = some (.int .i64 0) := (blk_cell BK155.out 0).trans rfl; have hcz29_1 : w25.cell? ⟨gb155, 1, none⟩ = some (.int .i64 0) := (blk_cell BK155.out 1).trans rfl; have hcz29_2 : w25.cell? ⟨gb155, 2, none⟩ = some (.int .i64 0) := (blk_cell BK155.out 2).trans rfl; have hfz29_0 := blk_frozen BK155.out 0; have hfz29_1 := blk_frozen BK155.out 1; have hfz29_2 := blk_frozen BK155.out 2) | (go_at_call 50; (with_reducible refine (mintime_space_of.calls a0_0 a0_1 a0_2 a1 0 0 0 t156 t157 _ A16.out).mono ?_); rintro e w30 ⟨rfl, hb⟩; have n0_ := Aside0.mk (Kd.R_below (rk_ HO154.out) hb); have n1_ := Aside0.mk (bb_ BK149.out hb); have n2_ := Aside0.mk (bb_ BK151.out hb); have n3_ := Aside0.mk (bb_ BK155.out hb); have n4_ := Aside0.mk (below_step hb_ hb); clear HO154; clear BK149; clear BK151; clear BK155; clear HB; have HO154 := n0_; have BK149 := n1_; have BK151 := n2_; have BK155 := n3_; have HB := n4_; clear n0_ n1_ n2_ n3_ n4_; (try clear hb); (try clear hb2); (try clear hk); (try clear hi); obtain ⟨Ao31, co31, eo31⟩ := Kd.R_slice HO154.out; subst eo31; have p158 : 0 ≤ (t156 : Int) := od_; have q158 : t156 < (t152.length : Int) := od_; obtain ⟨ad158, e158, hx158_0⟩ := Kd.at_int (Kd.R_reads' HO154.out).2.2 t156 p158 q158; cases e158; replace p158 := eq_true p158; replace q158 := eq_true q158))
       go_ret2
       exact ⟨_, by first | rfl | (simp [errW_none, errW_some] <;> rfl) | (simp [*, errW_none, errW_some] <;> rfl), by first | exact Kd.R_nil _ _ _ _ _ | exact Kd.N_nil _ _ _ _ _ | exact Kd.V_nil _ _ _ _ _ | exact Kd.Q_nil _ _ _ _ _ | exact Kd.S_nil _ _ _ _ _, by repeat (first | (with_reducible first | exact HB.out | apply below_alloc | apply pw_below_drewN | apply below_drew1 | refine below_set ?_ GE149.out | refine below_set ?_ GE151.out | refine below_set ?_ GE155.out) | exact HB.out)⟩
      ·
       rw [if_neg c19] at H
       have c19b0 : ((rd t152 t156) == 0) = false := beq_eq_false_iff_ne.mpr c19
       have c19b1 : ((rd t152 t156) != 0) = true := bne_iff_ne.mpr c19
       have H' := Aside0.mk H
       clear H
       have hcz32_0 : wc.cell? ⟨gb149, 0, none⟩ = some (.int .i64 a0_0) := (blk_cell BK149.out 0).trans rfl
       have hcz32_1 : wc.cell? ⟨gb149, 1, none⟩ = some (.int .i64 a0_1) := (blk_cell BK149.out 1).trans rfl
       have hcz32_2 : wc.cell? ⟨gb149, 2, none⟩ = some (.int .i64 a0_2) := (blk_cell BK149.out 2).trans rfl
       have hfz32_0 := blk_frozen BK149.out 0
       have hfz32_1 := blk_frozen BK149.out 1
       have hfz32_2 := blk_frozen BK149.out 2
       go_wp2_with (first | ((with_reducible refine gate_dst (N := 6) rfl ?_); refine box_event ?hg (N := 6) ?hd (cs := #[.int .i64 0, .int .i64 0, .int .i64 0, .int .i64 0]) (t := 98) ?hr ?_; (case hd => rfl); (case hg => rfl); (case hr => first | (go_simp; done) | (go_simp; rfl)); intro gb151 hg w33 hbox hb; have n0_ := Aside0.mk (bb_ BK149.out hb); have n1_ := Aside0.mk (below_step hb_ hb); have n2_ := Aside0.mk (hbox); have n3_ := Aside0.mk (sz_ hg : w.heap.size ≤ gb151); have n4_ := Aside0.mk (sz_ hg : w.heap.size ≤ gb151); have n5_ := Aside0.mk ((by rw [hg]; exact Nat.ne_of_lt (bl_ BK149.out) : gb149 ≠ gb151)); have n6_ := Aside0.mk ((by rw [hg]; exact Nat.ne_of_gt (bl_ BK149.out) : gb151 ≠ gb149)); clear BK149; clear HB; have BK149 := n0_; have HB := n1_; have BK151 := n2_; have GW151 := n3_; have GE151 := n4_; have NB149_151 := n5_; have NB151_149 := n6_; clear n0_ n1_ n2_ n3_ n4_ n5_ n6_; clear hb hbox hg; have hnb34 := NB151_149.out; have hnc34 := NB149_151.out; have hcz35_0 : w33.cell? ⟨gb151, 0, none⟩ = some (.int .i64 0) := (blk_cell BK151.out 0).trans rfl; have hcz35_1 : w33.cell? ⟨gb151, 1, none⟩ = some (.int .i64 0) := (blk_cell BK151.out 1).trans rfl; have hcz35_2 : w33.cell? ⟨gb151, 2, none⟩ = some (.int .i64 0) := (blk_cell BK151.out 2).trans rfl; have hcz35_3 : w33.cell? ⟨gb151, 3, none⟩ = some (.int .i64 0) := (blk_cell BK151.out 3).trans rfl; have hfz35_0 := blk_frozen BK151.out 0; have hfz35_1 := blk_frozen BK151.out 1; have hfz35_2 := blk_frozen BK151.out 2; have hfz35_3 := blk_frozen BK151.out 3) | (go_at_call 49; (with_reducible refine (mintime_space_left.calls kj2 a0_0 a0_1 a0_2 a1 t152 _ A15.out).mono ?_); rintro e w36 ⟨v153, rfl, ho0, hb⟩; have n0_ := Aside0.mk (Kd.R_lower ho0 (below_size hb_)); have n1_ := Aside0.mk (blk_below (g := gb149) (o := .cells #[.int .i64 a0_0, .int .i64 a0_1, .int .i64 a0_2] 25 (0, 0)) (by (with_reducible repeat (first | refine blk_drewN ?_ _ | refine blk_drew ?_ | refine blk_alloc ?_ _)); refine blk_far ?_ NB149_151.out _; (with_reducible repeat (first | refine blk_drewN ?_ _ | refine blk_drew ?_ | refine blk_alloc ?_ _)); refine blk_far ?_ NB149_151.out _; (with_reducible repeat (first | refine blk_drewN ?_ _ | refine blk_drew ?_ | refine blk_alloc ?_ _)); refine blk_far ?_ NB149_151.out _; (with_reducible repeat (first | refine blk_drewN ?_ _ | refine blk_drew ?_ | refine blk_alloc ?_ _)); refine blk_far ?_ NB149_151.out _; (with_reducible repeat (first | refine blk_drewN ?_ _ | refine blk_drew ?_ | refine blk_alloc ?_ _)); exact BK149.out) hb); have n2_ := Aside0.mk (blk_below (g := gb151) (o := .cells #[.int .i64 a0_0, .int .i64 a0_1, .int .i64 a0_2, .int .i64 a1] 98 (0, 0)) (by (with_reducible repeat (first | refine blk_drewN ?_ _ | refine blk_drew ?_ | refine blk_alloc ?_ _)); refine blk_put (cs := #[.int .i64 a0_0, .int .i64 a0_1, .int .i64 a0_2, .int .i64 0]) ?_ 3 _ rfl; (with_reducible repeat (first | refine blk_drewN ?_ _ | refine blk_drew ?_ | refine blk_alloc ?_ _)); refine blk_put (cs := #[.int .i64 a0_0, .int .i64 a0_1, .int .i64 0, .int .i64 0]) ?_ 2 _ rfl; (with_reducible repeat (first | refine blk_drewN ?_ _ | refine blk_drew ?_ | refine blk_alloc ?_ _)); refine blk_put (cs := #[.int .i64 a0_0, .int .i64 0, .int .i64 0, .int .i64 0]) ?_ 1 _ rfl; (with_reducible repeat (first | refine blk_drewN ?_ _ | refine blk_drew ?_ | refine blk_alloc ?_ _)); refine blk_put (cs := #[.int .i64 0, .int .i64 0, .int .i64 0, .int .i64 0]) ?_ 0 _ rfl; (with_reducible repeat (first | refine blk_drewN ?_ _ | refine blk_drew ?_ | refine blk_alloc ?_ _)); exact BK151.out) hb); have n3_ := Aside0.mk (below_step hb_ hb); clear BK149; clear BK151; clear HB; have HO154 := n0_; have BK149 := n1_; have BK151 := n2_; have HB := n3_; clear n0_ n1_ n2_ n3_; (try clear hb); (try clear hb2); (try clear hk); (try clear hi); (try clear ho0)) | ((with_reducible refine gate_dst (N := 8) rfl ?_); refine box_event ?hg (N := 8) ?hd (cs := #[.int .i64 0, .int .i64 0, .int .i64 0]) (t := 33) ?hr ?_; (case hd => rfl); (case hg => rfl); (case hr => first | (go_simp; done) | (go_simp; rfl)); intro gb155 hg w37 hbox hb; have n0_ := Aside0.mk (Kd.R_below (rk_ HO154.out) hb); have n1_ := Aside0.mk (bb_ BK149.out hb); have n2_ := Aside0.mk (bb_ BK151.out hb); have n3_ := Aside0.mk (below_step hb_ hb); have n4_ := Aside0.mk (hbox); have n5_ := Aside0.mk (sz_ hg : w.heap.size ≤ gb155); have n6_ := Aside0.mk (sz_ hg : w.heap.size ≤ gb155); have n7_ := Aside0.mk ((by rw [hg]; exact Nat.ne_of_lt (bl_ BK149.out) : gb149 ≠ gb155)); have n8_ := Aside0.mk ((by rw [hg]; exact Nat.ne_of_gt (bl_ BK149.out) : gb155 ≠ gb149)); have n9_ := Aside0.mk ((by rw [hg]; exact Nat.ne_of_lt (bl_ BK151.out) : gb151 ≠ gb155)); have n10_ := Aside0.mk ((by rw [hg]; exact Nat.ne_of_gt (bl_ BK151.out) : gb155 ≠ gb151)); clear HO154; clear BK149; clear BK151; clear HB; have HO154 := n0_; have BK149 := n1_; have BK151 := n2_; have HB := n3_; have BK155 := n4_; have GW155 := n5_; have GE155 := n6_; have NB149_155 := n7_; have NB155_149 := n8_; have NB151_155 := n9_; have NB155_151 := n10_; clear n0_ n1_ n2_ n3_ n4_ n5_ n6_ n7_ n8_ n9_ n10_; clear hb hbox hg; have hnb38 := NB151_155.out; have hnc38 := NB155_151.out; have hcz39_0 : w37.cell? ⟨gb151, 0, none⟩ = some (.int .i64 a0_0) := (blk_cell BK151.out 0).trans rfl; have hcz39_1 : w37.cell? ⟨gb151, 1, none⟩ = some (.int .i64 a0_1) := (blk_cell BK151.out 1).trans rfl; have hcz39_2 : w37.cell? ⟨gb151, 2, none⟩ = some (.int .i64 a0_2) := (blk_cell BK151.out 2).trans rfl; have hcz39_3 : w37.cell? ⟨gb151, 3, none⟩ = some (.int .i64 a1) := (blk_cell BK151.out 3).trans rfl; have hfz39_0 := blk_frozen BK151.out 0; have hfz39_1 := blk_frozen BK151.out 1; have hfz39_2 := blk_frozen BK151.out 2; have hfz39_3 := blk_frozen BK151.out 3; have hnb40 := NB155_149.out; have hnc40 := NB149_155.out; have hcz41_0 : w37.cell? ⟨gb155, 0, none⟩ = some (.int .i64 0) := (blk_cell BK155.out 0).trans rfl; have hcz41_1 : w37.cell? ⟨gb155, 1, none⟩ = some (.int .i64 0) := (blk_cell BK155.out 1).trans rfl; have hcz41_2 : w37.cell? ⟨gb155, 2, none⟩ = some (.int .i64 0) := (blk_cell BK155.out 2).trans rfl; have hfz41_0 := blk_frozen BK155.out 0; have hfz41_1 := blk_frozen BK155.out 1; have hfz41_2 := blk_frozen BK155.out 2) | (go_at_call 50; (with_reducible refine (mintime_space_of.calls a0_0 a0_1 a0_2 a1 0 0 0 t156 t157 _ A16.out).mono ?_); rintro e w42 ⟨rfl, hb⟩; have n0_ := Aside0.mk (Kd.R_below (rk_ HO154.out) hb); have n1_ := Aside0.mk (bb_ BK149.out hb); have n2_ := Aside0.mk (bb_ BK151.out hb); have n3_ := Aside0.mk (bb_ BK155.out hb); have n4_ := Aside0.mk (below_step hb_ hb); clear HO154; clear BK149; clear BK151; clear BK155; clear HB; have HO154 := n0_; have BK149 := n1_; have BK151 := n2_; have BK155 := n3_; have HB := n4_; clear n0_ n1_ n2_ n3_ n4_; (try clear hb); (try clear hb2); (try clear hk); (try clear hi); obtain ⟨Ao43, co43, eo43⟩ := Kd.R_slice HO154.out; subst eo43; have p158 : 0 ≤ (t156 : Int) := od_; have q158 : t156 < (t152.length : Int) := od_; obtain ⟨ad158, e158, hx158_0⟩ := Kd.at_int (Kd.R_reads' HO154.out).2.2 t156 p158 q158; cases e158; replace p158 := eq_true p158; replace q158 := eq_true q158))
       go_loopg [9, 11] kj2 (fun kq v9 v11 w' => ∃ (x9_2 : Int) (x11_2 : List Int) (x156000_2 : Int) (x156001_2 : Int) (x156002_2 : Int), v9 = .int .i64 x9_2 ∧ Aside0 (mintime_Profile.l0 kq t152 x9_2 x11_2 a0_0 a0_1 a0_2 a0_0 a0_1 a0_2 a1 x156000_2 x156001_2 x156002_2 = some (r1, r2)) ∧ Aside0 (kq ≤ kj2) ∧ Aside0 (Kd.R (Kd.int .i64) 3 w' w.heap.size (fun k_ => some k_ ≠ (v11 : Value).ownBlock) (.slice (some ad158) t152.length co43) t152) ∧ Aside0 (Kd.R (Kd.int .i64) 3 w' w.heap.size (fun k_ => some k_ ≠ ((.slice (some ad158) t152.length co43) : Value).ownBlock) v11 x11_2) ∧ Aside0 (w'.heap[gb149]? = some (.cells #[.int .i64 a0_0, .int .i64 a0_1, .int .i64 a0_2] 25 (0, 0))) ∧ Aside0 (w'.heap[gb151]? = some (.cells #[.int .i64 a0_0, .int .i64 a0_1, .int .i64 a0_2, .int .i64 a1] 98 (0, 0))) ∧ Aside0 (w'.heap[gb155]? = some (.cells #[.int .i64 x156000_2, .int .i64 x156001_2, .int .i64 x156002_2] 33 (0, 0))) ∧ Aside0 (Below w.heap.size w w'))
       case atStart => exact ⟨(t156), (([] : List Int)), (0), (0), (0), (by first | rfl | (simp; done) | (simp [*]; done)), H', ⟨Nat.le_refl _⟩, ⟨by (with_reducible repeat (first | apply Kd.R_alloc | apply Kd.R_drewN | apply Kd.R_drew)); exact Kd.R_mono HO154.out (fun _ hk => (by simp [Value.ownBlock]))⟩, ⟨by first | exact Kd.R_nil _ _ _ _ _ | exact Kd.N_nil _ _ _ _ _ | exact Kd.V_nil _ _ _ _ _ | exact Kd.Q_nil _ _ _ _ _ | exact Kd.S_nil _ _ _ _ _⟩, ⟨by (with_reducible repeat (first | refine blk_drewN ?_ _ | refine blk_drew ?_ | refine blk_alloc ?_ _)); exact BK149.out⟩, ⟨by (with_reducible repeat (first | refine blk_drewN ?_ _ | refine blk_drew ?_ | refine blk_alloc ?_ _)); exact BK151.out⟩, ⟨by (with_reducible repeat (first | refine blk_drewN ?_ _ | refine blk_drew ?_ | refine blk_alloc ?_ _)); exact BK155.out⟩, ⟨by repeat (first | (with_reducible first | exact HB.out | apply below_alloc | apply pw_below_drewN | apply below_drew1 | refine below_set ?_ GE149.out | refine below_set ?_ GE151.out | refine below_set ?_ GE155.out) | exact HB.out)⟩⟩
       case round =>
        clear H'
        try clear c1
        try clear p1
        try clear q1
        try clear hx1
        try clear c2
        try clear p2
        try clear c3
        try clear c4
        try clear c6
        try clear c7
        try clear c7b0
        try clear c14
        try clear p15
        try clear q15
        try clear hx15
        try clear c16
        try clear c17
        try clear c17b0
        try clear c18
        try clear c18b0
        try clear c19
        try clear c19b0
        try clear c19b1
        try clear c22
        try clear c26
        try clear c28
        try clear c34
        try clear c38
        try clear c40
        try clear hcz10_0
        try clear hcz10_1
        try clear hcz10_2
        try clear hcz12_0
        try clear hcz12_1
        try clear hcz12_2
        try clear hcz20_0
        try clear hcz20_1
        try clear hcz20_2
        try clear hcz23_0
        try clear hcz23_1
        try clear hcz23_2
        try clear hcz23_3
        try clear hcz27_0
        try clear hcz27_1
        try clear hcz27_2
        try clear hcz27_3
        try clear hcz29_0
        try clear hcz29_1
        try clear hcz29_2
        try clear hcz32_0
        try clear hcz32_1
        try clear hcz32_2
        try clear hcz35_0
        try clear hcz35_1
        try clear hcz35_2
        try clear hcz35_3
        try clear hcz39_0
        try clear hcz39_1
        try clear hcz39_2
        try clear hcz39_3
        try clear hcz41_0
        try clear hcz41_1
        try clear hcz41_2
        try clear hcz8_0
        try clear hcz8_1
        try clear hcz8_2
        try clear hfz10_0
        try clear hfz10_1
        try clear hfz10_2
        try clear hfz12_0
        try clear hfz12_1
        try clear hfz12_2
        try clear hfz20_0
        try clear hfz20_1
        try clear hfz20_2
        try clear hfz23_0
        try clear hfz23_1
        try clear hfz23_2
        try clear hfz23_3
        try clear hfz27_0
        try clear hfz27_1
        try clear hfz27_2
        try clear hfz27_3
        try clear hfz29_0
        try clear hfz29_1
        try clear hfz29_2
        try clear hfz32_0
        try clear hfz32_1
        try clear hfz32_2
        try clear hfz35_0
        try clear hfz35_1
        try clear hfz35_2
        try clear hfz35_3
        try clear hfz39_0
        try clear hfz39_1
        try clear hfz39_2
        try clear hfz39_3
        try clear hfz41_0
        try clear hfz41_1
        try clear hfz41_2
        try clear hfz8_0
        try clear hfz8_1
        try clear hfz8_2
        try clear hx158_0
        try clear p158
        try clear p2
        try clear q158
        obtain ⟨x9_2, x11_2, x156000_2, x156001_2, x156002_2, rfl, HA, HK2, HO_7, HO_11, BK149, BK151, BK155, HB⟩ := hrel
        cases gk with
        | zero => exact absurd HA.out (by simp [mintime_Profile.l0])
        | succ k2 =>
         have H := HA.out
         clear HA
         simp only [mintime_Profile.l0] at H
         by_cases c44 : 0 ≤ x9_2
         ·
          rw [if_pos c44] at H
          have c44b0 : decide (0 ≤ x9_2) = true := decide_eq_true c44
          clear c44
          by_cases c45 : x9_2 < (t152.length : Int)
          ·
           rw [if_pos c45] at H
           have c45b0 : decide (x9_2 < (t152.length : Int)) = true := decide_eq_true c45
           clear c45
           by_cases c46 : (rd t152 x9_2) > 1
           ·
            rw [if_pos c46] at H
            have c46b0 : decide (1 < (rd t152 x9_2)) = true := decide_eq_true c46
            clear c46
            have H' := Aside0.mk H
            clear H
            have p159 : 0 ≤ (x9_2 : Int) := od_
            have q159 : x9_2 < (t152.length : Int) := od_
            obtain ⟨ad159, e159, hx159_0⟩ := Kd.at_int (Kd.R_reads' HO_7.out).2.2 x9_2 p159 q159
            obtain rfl : ad158 = ad159 := (by injection e159)
            replace p159 := eq_true p159
            replace q159 := eq_true q159
            have hnb47 := NB149_151.out
            have hnc47 := NB151_149.out
            have hnb48 := NB149_155.out
            have hnc48 := NB155_149.out
            have hcz49_0 : wr.cell? ⟨gb149, 0, none⟩ = some (.int .i64 a0_0) := (blk_cell BK149.out 0).trans rfl
            have hcz49_1 : wr.cell? ⟨gb149, 1, none⟩ = some (.int .i64 a0_1) := (blk_cell BK149.out 1).trans rfl
            have hcz49_2 : wr.cell? ⟨gb149, 2, none⟩ = some (.int .i64 a0_2) := (blk_cell BK149.out 2).trans rfl
            have hfz49_0 := blk_frozen BK149.out 0
            have hfz49_1 := blk_frozen BK149.out 1
            have hfz49_2 := blk_frozen BK149.out 2
            go_wp2
            repeat (go_quiet (fail); try go_wp2)
            go_loopg [9, 11, 12] k2 (fun kq v9 v11 v12 w' => ∃ (x9_3 : Int) (x11_3 : List Int) (x12_3 : Int) (x156000_3 : Int) (x156001_3 : Int) (x156002_3 : Int), v9 = .int .i64 x9_3 ∧ v12 = .int .i64 x12_3 ∧ Aside0 (mintime_Profile.l1 kq t152 x9_3 x11_3 x12_3 a0_0 a0_1 a0_2 a0_0 a0_1 a0_2 a1 x156000_3 x156001_3 x156002_3 = some (r1, r2)) ∧ Aside0 (kq ≤ k2) ∧ Aside0 (Kd.R (Kd.int .i64) 3 w' w.heap.size (fun k_ => some k_ ≠ (v11 : Value).ownBlock) (.slice (some ad158) t152.length co43) t152) ∧ Aside0 (Kd.R (Kd.int .i64) 3 w' w.heap.size (fun k_ => some k_ ≠ ((.slice (some ad158) t152.length co43) : Value).ownBlock) v11 x11_3) ∧ Aside0 (w'.heap[gb149]? = some (.cells #[.int .i64 a0_0, .int .i64 a0_1, .int .i64 a0_2] 25 (0, 0))) ∧ Aside0 (w'.heap[gb151]? = some (.cells #[.int .i64 a0_0, .int .i64 a0_1, .int .i64 a0_2, .int .i64 a1] 98 (0, 0))) ∧ Aside0 (w'.heap[gb155]? = some (.cells #[.int .i64 x156000_3, .int .i64 x156001_3, .int .i64 x156002_3] 33 (0, 0))) ∧ Aside0 (Below w.heap.size w w'))
            case atStart => exact ⟨(x9_2), (x11_2), (wrap64 (-a0_2)), (x156000_2), (x156001_2), (x156002_2), (by first | rfl | (simp; done) | (simp [*]; done)), (by first | rfl | (simp; done) | (simp [*]; done)), H', ⟨Nat.le_refl _⟩, ⟨by (with_reducible repeat (first | apply Kd.R_alloc | apply Kd.R_drewN | apply Kd.R_drew)); exact HO_7.out⟩, ⟨by (with_reducible repeat (first | apply Kd.R_alloc | apply Kd.R_drewN | apply Kd.R_drew)); exact HO_11.out⟩, ⟨by (with_reducible repeat (first | refine blk_drewN ?_ _ | refine blk_drew ?_ | refine blk_alloc ?_ _)); exact BK149.out⟩, ⟨by (with_reducible repeat (first | refine blk_drewN ?_ _ | refine blk_drew ?_ | refine blk_alloc ?_ _)); exact BK151.out⟩, ⟨by (with_reducible repeat (first | refine blk_drewN ?_ _ | refine blk_drew ?_ | refine blk_alloc ?_ _)); exact BK155.out⟩, ⟨by repeat (first | (with_reducible first | exact HB.out | apply below_alloc | apply pw_below_drewN | apply below_drew1 | refine below_set ?_ GE149.out | refine below_set ?_ GE151.out | refine below_set ?_ GE155.out) | exact HB.out)⟩⟩
            case round =>
             clear H'
             try clear c1
             try clear p1
             try clear q1
             try clear hx1
             try clear c2
             try clear p2
             try clear c3
             try clear c4
             try clear c6
             try clear p6
             try clear c7
             try clear c7b0
             try clear c14
             try clear p15
             try clear q15
             try clear hx15
             try clear c16
             try clear c17
             try clear c17b0
             try clear c18
             try clear c18b0
             try clear c19
             try clear c19b0
             try clear c19b1
             try clear c22
             try clear c26
             try clear c28
             try clear c34
             try clear c38
             try clear c40
             try clear c44
             try clear c44b0
             try clear c45
             try clear c45b0
             try clear c46
             try clear c46b0
             try clear c47
             try clear c48
             try clear hcz10_0
             try clear hcz10_1
             try clear hcz10_2
             try clear hcz12_0
             try clear hcz12_1
             try clear hcz12_2
             try clear hcz20_0
             try clear hcz20_1
             try clear hcz20_2
             try clear hcz23_0
             try clear hcz23_1
             try clear hcz23_2
             try clear hcz23_3
             try clear hcz27_0
             try clear hcz27_1
             try clear hcz27_2
             try clear hcz27_3
             try clear hcz29_0
             try clear hcz29_1
             try clear hcz29_2
             try clear hcz32_0
             try clear hcz32_1
             try clear hcz32_2
             try clear hcz35_0
             try clear hcz35_1
             try clear hcz35_2
             try clear hcz35_3
             try clear hcz39_0
             try clear hcz39_1
             try clear hcz39_2
             try clear hcz39_3
             try clear hcz41_0
             try clear hcz41_1
             try clear hcz41_2
             try clear hcz49_0
             try clear hcz49_1
             try clear hcz49_2
             try clear hcz8_0
             try clear hcz8_1
             try clear hcz8_2
             try clear hfz10_0
             try clear hfz10_1
             try clear hfz10_2
             try clear hfz12_0
             try clear hfz12_1
             try clear hfz12_2
             try clear hfz20_0
             try clear hfz20_1
             try clear hfz20_2
             try clear hfz23_0
             try clear hfz23_1
             try clear hfz23_2
             try clear hfz23_3
             try clear hfz27_0
             try clear hfz27_1
             try clear hfz27_2
             try clear hfz27_3
             try clear hfz29_0
             try clear hfz29_1
             try clear hfz29_2
             try clear hfz32_0
             try clear hfz32_1
             try clear hfz32_2
             try clear hfz35_0
             try clear hfz35_1
             try clear hfz35_2
             try clear hfz35_3
             try clear hfz39_0
             try clear hfz39_1
             try clear hfz39_2
             try clear hfz39_3
             try clear hfz41_0
             try clear hfz41_1
             try clear hfz41_2
             try clear hfz49_0
             try clear hfz49_1
             try clear hfz49_2
             try clear hfz8_0
             try clear hfz8_1
             try clear hfz8_2
             try clear hx158_0
             try clear hx159_0
             try clear p1
             try clear p15
             try clear p158
             try clear p159
             try clear p2
             try clear q1
             try clear q15
             try clear q158
             try clear q159
             obtain ⟨x9_3, x11_3, x12_3, x156000_3, x156001_3, x156002_3, rfl, rfl, HA, HK3, HO_7, HO_11, BK149, BK151, BK155, HB⟩ := hrel
             cases gk with
             | zero => exact absurd HA.out (by simp [mintime_Profile.l1])
             | succ k3 =>
              have H := HA.out
              clear HA
              simp only [mintime_Profile.l1] at H
              by_cases c50 : x12_3 ≤ a0_2
              ·
               rw [if_pos c50] at H
               have c50b0 : decide (x12_3 ≤ a0_2) = true := decide_eq_true c50
               clear c50
               obtain ⟨y160, hy160⟩ : ∃ y_ : List Int, y_ = (([x12_3] : List Int)) := ⟨_, rfl⟩
               replace H : ((profile_Final.f x156000_3 x156001_3 x156002_3 y160).bind fun bt163 => ((mintime_space_of.f a0_0 a0_1 a0_2 a1 bt163.1 bt163.2.1 bt163.2.2).bind fun bt167 => (if bt167.2 = true then (if 0 ≤ bt167.1 then (if bt167.1 < (t152.length : Int) then (if 0 ≤ x9_3 then (if x9_3 < (t152.length : Int) then (if (rd t152 bt167.1) = (wrap64 ((rd t152 x9_3) - 1)) then (if x11_3.length < 17592186044416 then (mintime_Profile.l0 k3 t152 bt167.1 (x11_3 ++ [x12_3]) a0_0 a0_1 a0_2 a0_0 a0_1 a0_2 a1 bt163.1 bt163.2.1 bt163.2.2) else (none)) else (mintime_Profile.l1 k3 t152 x9_3 x11_3 (wrap64 (x12_3 + 1)) a0_0 a0_1 a0_2 a0_0 a0_1 a0_2 a1 x156000_3 x156001_3 x156002_3)) else (none)) else (none)) else (none)) else (none)) else (mintime_Profile.l1 k3 t152 x9_3 x11_3 (wrap64 (x12_3 + 1)) a0_0 a0_1 a0_2 a0_0 a0_1 a0_2 a1 x156000_3 x156001_3 x156002_3)))) = some (r1, r2) := by first | (rw [hy160]; with_reducible exact H) | (have H2_ := (Option.bind_some _ _).symm.trans H; rw [hy160]; with_reducible exact H2_) | (have H2_ := (Option.bind_some _ _).symm.trans H; with_reducible exact H2_) | with_reducible exact H | (rw [hy160]; exact H) | exact H
               have Ny160 := Aside0.mk hy160
               clear hy160
               replace H := Option.bind_eq_some_iff.mp H
               obtain ⟨⟨t163, t164, t165⟩, A510, H⟩ := H
               replace H : ((mintime_space_of.f a0_0 a0_1 a0_2 a1 t163 t164 t165).bind fun bt167 => (if bt167.2 = true then (if 0 ≤ bt167.1 then (if bt167.1 < (t152.length : Int) then (if 0 ≤ x9_3 then (if x9_3 < (t152.length : Int) then (if (rd t152 bt167.1) = (wrap64 ((rd t152 x9_3) - 1)) then (if x11_3.length < 17592186044416 then (mintime_Profile.l0 k3 t152 bt167.1 (x11_3 ++ [x12_3]) a0_0 a0_1 a0_2 a0_0 a0_1 a0_2 a1 t163 t164 t165) else (none)) else (mintime_Profile.l1 k3 t152 x9_3 x11_3 (wrap64 (x12_3 + 1)) a0_0 a0_1 a0_2 a0_0 a0_1 a0_2 a1 x156000_3 x156001_3 x156002_3)) else (none)) else (none)) else (none)) else (none)) else (mintime_Profile.l1 k3 t152 x9_3 x11_3 (wrap64 (x12_3 + 1)) a0_0 a0_1 a0_2 a0_0 a0_1 a0_2 a1 x156000_3 x156001_3 x156002_3))) = some (r1, r2) := H
               have A51 := Aside0.mk A510
               clear A510
               replace H := Option.bind_eq_some_iff.mp H
               obtain ⟨⟨t167, t168⟩, A520, H⟩ := H
               replace H : (if t168 = true then (if 0 ≤ t167 then (if t167 < (t152.length : Int) then (if 0 ≤ x9_3 then (if x9_3 < (t152.length : Int) then (if (rd t152 t167) = (wrap64 ((rd t152 x9_3) - 1)) then (if x11_3.length < 17592186044416 then (mintime_Profile.l0 k3 t152 t167 (x11_3 ++ [x12_3]) a0_0 a0_1 a0_2 a0_0 a0_1 a0_2 a1 t163 t164 t165) else (none)) else (mintime_Profile.l1 k3 t152 x9_3 x11_3 (wrap64 (x12_3 + 1)) a0_0 a0_1 a0_2 a0_0 a0_1 a0_2 a1 x156000_3 x156001_3 x156002_3)) else (none)) else (none)) else (none)) else (none)) else (mintime_Profile.l1 k3 t152 x9_3 x11_3 (wrap64 (x12_3 + 1)) a0_0 a0_1 a0_2 a0_0 a0_1 a0_2 a1 x156000_3 x156001_3 x156002_3)) = some (r1, r2) := H
               have A52 := Aside0.mk A520
               clear A520
               by_cases c53 : t168 = true
               ·
                subst c53
                have H1 : (if 0 ≤ t167 then (if t167 < (t152.length : Int) then (if 0 ≤ x9_3 then (if x9_3 < (t152.length : Int) then (if (rd t152 t167) = (wrap64 ((rd t152 x9_3) - 1)) then (if x11_3.length < 17592186044416 then (mintime_Profile.l0 k3 t152 t167 (x11_3 ++ [x12_3]) a0_0 a0_1 a0_2 a0_0 a0_1 a0_2 a1 t163 t164 t165) else (none)) else (mintime_Profile.l1 k3 t152 x9_3 x11_3 (wrap64 (x12_3 + 1)) a0_0 a0_1 a0_2 a0_0 a0_1 a0_2 a1 x156000_3 x156001_3 x156002_3)) else (none)) else (none)) else (none)) else (none)) = some (r1, r2) := by rw [if_pos rfl] at H; exact H
                clear H
                have H := H1
                clear H1
                by_cases c54 : 0 ≤ t167
                ·
                 rw [if_pos c54] at H
                 have c54b0 : decide (0 ≤ t167) = true := decide_eq_true c54
                 clear c54
                 by_cases c55 : t167 < (t152.length : Int)
                 ·
                  rw [if_pos c55] at H
                  have c55b0 : decide (t167 < (t152.length : Int)) = true := decide_eq_true c55
                  clear c55
                  by_cases c56 : 0 ≤ x9_3
                  ·
                   rw [if_pos c56] at H
                   have c56b0 : decide (0 ≤ x9_3) = true := decide_eq_true c56
                   clear c56
                   by_cases c57 : x9_3 < (t152.length : Int)
                   ·
                    rw [if_pos c57] at H
                    have c57b0 : decide (x9_3 < (t152.length : Int)) = true := decide_eq_true c57
                    clear c57
                    by_cases c58 : (rd t152 t167) = (wrap64 ((rd t152 x9_3) - 1))
                    ·
                     rw [if_pos c58] at H
                     have c58b0 : ((rd t152 t167) == (wrap64 ((rd t152 x9_3) - 1))) = true := beq_iff_eq.mpr c58
                     have c58b1 : ((rd t152 t167) != (wrap64 ((rd t152 x9_3) - 1))) = false := bne_eq_false_iff_eq.mpr c58
                     clear c58
                     by_cases c59 : x11_3.length < 17592186044416
                     ·
                      rw [if_pos c59] at H
                      have LMc59 := Aside0.mk c59
                      clear c59
                      obtain ⟨y171, hy171⟩ : ∃ y_ : List Int, y_ = (x11_3 ++ [x12_3]) := ⟨_, rfl⟩
                      replace H : (mintime_Profile.l0 k3 t152 t167 y171 a0_0 a0_1 a0_2 a0_0 a0_1 a0_2 a1 t163 t164 t165) = some (r1, r2) := by first | (rw [hy171]; with_reducible exact H) | (have H2_ := (Option.bind_some _ _).symm.trans H; rw [hy171]; with_reducible exact H2_) | (have H2_ := (Option.bind_some _ _).symm.trans H; with_reducible exact H2_) | with_reducible exact H | (rw [hy171]; exact H) | exact H
                      have Ny171 := Aside0.mk hy171
                      clear hy171
                      have H' := Aside0.mk H
                      clear H
                      have hnb60 := NB149_151.out
                      have hnc60 := NB151_149.out
                      have hnb61 := NB149_155.out
                      have hnc61 := NB155_149.out
                      have hcz62_0 : wr.cell? ⟨gb149, 0, none⟩ = some (.int .i64 a0_0) := (blk_cell BK149.out 0).trans rfl
                      have hcz62_1 : wr.cell? ⟨gb149, 1, none⟩ = some (.int .i64 a0_1) := (blk_cell BK149.out 1).trans rfl
                      have hcz62_2 : wr.cell? ⟨gb149, 2, none⟩ = some (.int .i64 a0_2) := (blk_cell BK149.out 2).trans rfl
                      have hfz62_0 := blk_frozen BK149.out 0
                      have hfz62_1 := blk_frozen BK149.out 1
                      have hfz62_2 := blk_frozen BK149.out 2
                      have hnb63 := NB155_151.out
                      have hnc63 := NB151_155.out
                      have hcz64_0 : wr.cell? ⟨gb155, 0, none⟩ = some (.int .i64 x156000_3) := (blk_cell BK155.out 0).trans rfl
                      have hcz64_1 : wr.cell? ⟨gb155, 1, none⟩ = some (.int .i64 x156001_3) := (blk_cell BK155.out 1).trans rfl
                      have hcz64_2 : wr.cell? ⟨gb155, 2, none⟩ = some (.int .i64 x156002_3) := (blk_cell BK155.out 2).trans rfl
                      have hfz64_0 := blk_frozen BK155.out 0
                      have hfz64_1 := blk_frozen BK155.out 1
                      have hfz64_2 := blk_frozen BK155.out 2
                      go_wp2_with (first | ((with_reducible refine gate_dst (N := 59) rfl ?_); refine Kd.R_lit (Kd.int .i64) _ 3 ?hg (N := 59) ?hd (xs := ([x12_3] : List Int)) (inner := [.int .i64 x12_3]) (ok := fun _ => True) (okp := fun _ => True) ?hr ?hp (fun _ hk => hk) trivial (Below.refl _ _) (Nat.le_refl _) (by simp) ?_; (case hd => rfl); (case hg => rfl); (case hr => first | (go_simp; done) | (go_simp; rfl)); (case hp => exact (Reps.one (show Kd.M (Kd.int .i64) _ _ _ x12_3 [.int .i64 x12_3] from rfl) (Reps.none _ _))); intro v161 w65 ho66 hb hg_ hnew_; clear hg_ hnew_; (first | rw [← Ny160.out] at ho66 | (simp only [Int.reduceToNat] at ho66; rw [← Ny160.out] at ho66)); have n0_ := Aside0.mk (Kd.R_elder' (rk_ HO_7.out) (Kd.R_base ho66) hb); have n1_ := Aside0.mk (Kd.R_elder' (rk_ HO_11.out) (Kd.R_base ho66) hb); have n2_ := Aside0.mk (Kd.R_lower (Kd.R_new' (Kd.R_new' ho66 (Kd.R_lt (rk_ HO_7.out))) (Kd.R_lt (rk_ HO_11.out))) (below_size hb_)); have n3_ := Aside0.mk (bb_ BK149.out hb); have n4_ := Aside0.mk (bb_ BK151.out hb); have n5_ := Aside0.mk (bb_ BK155.out hb); have n6_ := Aside0.mk (below_step hb_ hb); clear HO_7; clear HO_11; clear BK149; clear BK151; clear BK155; clear HB; have HO_7 := n0_; have HO_11 := n1_; have HO162 := n2_; have BK149 := n3_; have BK151 := n4_; have BK155 := n5_; have HB := n6_; clear n0_ n1_ n2_ n3_ n4_ n5_ n6_; clear hb ho66; obtain ⟨Ao67, co67, eo67⟩ := Kd.R_slice HO162.out; subst eo67) | (go_at_call 18; (with_reducible refine (profile_Final.calls x156000_3 x156001_3 x156002_3 _ _ y160 t163 t164 t165 _ ?side1 ?side2 A51.out).mono ?_); (case side1 => repeat (first | exact (Kd.R_reads' HO162.out).2.2 | (with_reducible refine Kd.C_alloc ?_ _) | (with_reducible refine Kd.C_drewN ?_ _) | (with_reducible refine Kd.C_drew ?_))); (case side2 => exact (Kd.R_reads' HO162.out).2.1); rintro e w68 ⟨rfl, hb⟩; have n0_ := Aside0.mk (Kd.R_below (rk_ HO_7.out) hb); have n1_ := Aside0.mk (Kd.R_below (rk_ HO_11.out) hb); have n2_ := Aside0.mk (Kd.R_below (rk_ HO162.out) hb); have n3_ := Aside0.mk (bb_ BK149.out hb); have n4_ := Aside0.mk (bb_ BK151.out hb); have n5_ := Aside0.mk (bb_ BK155.out hb); have n6_ := Aside0.mk (below_step hb_ hb); clear HO_7; clear HO_11; clear HO162; clear BK149; clear BK151; clear BK155; clear HB; have HO_7 := n0_; have HO_11 := n1_; have HO162 := n2_; have BK149 := n3_; have BK151 := n4_; have BK155 := n5_; have HB := n6_; clear n0_ n1_ n2_ n3_ n4_ n5_ n6_; (try clear hb); (try clear hb2); (try clear hk); (try clear hi)) | ((with_reducible refine gate_dst (N := 13) rfl ?_); refine box_event ?hg (N := 13) ?hd (cs := #[.int .i64 0, .int .i64 0, .int .i64 0]) (t := 33) ?hr ?_; (case hd => rfl); (case hg => rfl); (case hr => first | (go_simp; done) | (go_simp; rfl)); intro gb166 hg w69 hbox hb; have n0_ := Aside0.mk (Kd.R_below (rk_ HO_7.out) hb); have n1_ := Aside0.mk (Kd.R_below (rk_ HO_11.out) hb); have n2_ := Aside0.mk (Kd.R_below (rk_ HO162.out) hb); have n3_ := Aside0.mk (bb_ BK149.out hb); have n4_ := Aside0.mk (bb_ BK151.out hb); have n5_ := Aside0.mk (bb_ BK155.out hb); have n6_ := Aside0.mk (below_step hb_ hb); have n7_ := Aside0.mk (hbox); have n8_ := Aside0.mk (sz_ hg : w.heap.size ≤ gb166); have n9_ := Aside0.mk (sz_ hg : w.heap.size ≤ gb166); have n10_ := Aside0.mk ((by rw [hg]; exact Nat.ne_of_lt (bl_ BK149.out) : gb149 ≠ gb166)); have n11_ := Aside0.mk ((by rw [hg]; exact Nat.ne_of_gt (bl_ BK149.out) : gb166 ≠ gb149)); have n12_ := Aside0.mk ((by rw [hg]; exact Nat.ne_of_lt (bl_ BK151.out) : gb151 ≠ gb166)); have n13_ := Aside0.mk ((by rw [hg]; exact Nat.ne_of_gt (bl_ BK151.out) : gb166 ≠ gb151)); have n14_ := Aside0.mk ((by rw [hg]; exact Nat.ne_of_lt (bl_ BK155.out) : gb155 ≠ gb166)); have n15_ := Aside0.mk ((by rw [hg]; exact Nat.ne_of_gt (bl_ BK155.out) : gb166 ≠ gb155)); clear HO_7; clear HO_11; clear HO162; clear BK149; clear BK151; clear BK155; clear HB; have HO_7 := n0_; have HO_11 := n1_; have HO162 := n2_; have BK149 := n3_; have BK151 := n4_; have BK155 := n5_; have HB := n6_; have BK166 := n7_; have GW166 := n8_; have GE166 := n9_; have NB149_166 := n10_; have NB166_149 := n11_; have NB151_166 := n12_; have NB166_151 := n13_; have NB155_166 := n14_; have NB166_155 := n15_; clear n0_ n1_ n2_ n3_ n4_ n5_ n6_ n7_ n8_ n9_ n10_ n11_ n12_ n13_ n14_ n15_; clear hb hbox hg; have hnb70 := NB166_149.out; have hnc70 := NB149_166.out; have hnb71 := NB166_151.out; have hnc71 := NB151_166.out; have hnb72 := NB166_155.out; have hnc72 := NB155_166.out; have hcz73_0 : w69.cell? ⟨gb166, 0, none⟩ = some (.int .i64 0) := (blk_cell BK166.out 0).trans rfl; have hcz73_1 : w69.cell? ⟨gb166, 1, none⟩ = some (.int .i64 0) := (blk_cell BK166.out 1).trans rfl; have hcz73_2 : w69.cell? ⟨gb166, 2, none⟩ = some (.int .i64 0) := (blk_cell BK166.out 2).trans rfl; have hfz73_0 := blk_frozen BK166.out 0; have hfz73_1 := blk_frozen BK166.out 1; have hfz73_2 := blk_frozen BK166.out 2; have hcz74_0 : w69.cell? ⟨gb151, 0, none⟩ = some (.int .i64 a0_0) := (blk_cell BK151.out 0).trans rfl; have hcz74_1 : w69.cell? ⟨gb151, 1, none⟩ = some (.int .i64 a0_1) := (blk_cell BK151.out 1).trans rfl; have hcz74_2 : w69.cell? ⟨gb151, 2, none⟩ = some (.int .i64 a0_2) := (blk_cell BK151.out 2).trans rfl; have hcz74_3 : w69.cell? ⟨gb151, 3, none⟩ = some (.int .i64 a1) := (blk_cell BK151.out 3).trans rfl; have hfz74_0 := blk_frozen BK151.out 0; have hfz74_1 := blk_frozen BK151.out 1; have hfz74_2 := blk_frozen BK151.out 2; have hfz74_3 := blk_frozen BK151.out 3) | (go_at_call 50; (with_reducible refine (mintime_space_of.calls a0_0 a0_1 a0_2 a1 t163 t164 t165 t167 true _ A52.out).mono ?_); rintro e w75 ⟨rfl, hb⟩; have n0_ := Aside0.mk (Kd.R_below (by (with_reducible repeat (first | apply Kd.R_alloc | apply Kd.R_drewN | apply Kd.R_drew)); exact (Kd.R_mono (Kd.R_far (p := ⟨gb166, 2, none⟩) (Kd.R_far (p := ⟨gb166, 1, none⟩) (Kd.R_far (p := ⟨gb166, 0, none⟩) (Kd.R_types HO_7.out BK166.out (by decide)) (fun _ hk => hk.2) (.int .i64 t163)) (fun _ hk => hk.2) (.int .i64 t164)) (fun _ hk => hk.2) (.int .i64 t165)) (fun _ h_ => h_.1))) hb); have n1_ := Aside0.mk (Kd.R_below (by (with_reducible repeat (first | apply Kd.R_alloc | apply Kd.R_drewN | apply Kd.R_drew)); exact (Kd.R_mono (Kd.R_far (p := ⟨gb166, 2, none⟩) (Kd.R_far (p := ⟨gb166, 1, none⟩) (Kd.R_far (p := ⟨gb166, 0, none⟩) (Kd.R_types HO_11.out BK166.out (by decide)) (fun _ hk => hk.2) (.int .i64 t163)) (fun _ hk => hk.2) (.int .i64 t164)) (fun _ hk => hk.2) (.int .i64 t165)) (fun _ h_ => h_.1))) hb); have n2_ := Aside0.mk (Kd.R_below (by (with_reducible repeat (first | apply Kd.R_alloc | apply Kd.R_drewN | apply Kd.R_drew)); exact (Kd.R_mono (Kd.R_far (p := ⟨gb166, 2, none⟩) (Kd.R_far (p := ⟨gb166, 1, none⟩) (Kd.R_far (p := ⟨gb166, 0, none⟩) (Kd.R_types HO162.out BK166.out (by decide)) (fun _ hk => hk.2) (.int .i64 t163)) (fun _ hk => hk.2) (.int .i64 t164)) (fun _ hk => hk.2) (.int .i64 t165)) (fun _ h_ => h_.1))) hb); have n3_ := Aside0.mk (blk_below (g := gb149) (o := .cells #[.int .i64 a0_0, .int .i64 a0_1, .int .i64 a0_2] 25 (0, 0)) (by (with_reducible repeat (first | refine blk_drewN ?_ _ | refine blk_drew ?_ | refine blk_alloc ?_ _)); refine blk_far ?_ NB149_166.out _; (with_reducible repeat (first | refine blk_drewN ?_ _ | refine blk_drew ?_ | refine blk_alloc ?_ _)); refine blk_far ?_ NB149_166.out _; (with_reducible repeat (first | refine blk_drewN ?_ _ | refine blk_drew ?_ | refine blk_alloc ?_ _)); refine blk_far ?_ NB149_166.out _; (with_reducible repeat (first | refine blk_drewN ?_ _ | refine blk_drew ?_ | refine blk_alloc ?_ _)); exact BK149.out) hb); have n4_ := Aside0.mk (blk_below (g := gb151) (o := .cells #[.int .i64 a0_0, .int .i64 a0_1, .int .i64 a0_2, .int .i64 a1] 98 (0, 0)) (by (with_reducible repeat (first | refine blk_drewN ?_ _ | refine blk_drew ?_ | refine blk_alloc ?_ _)); refine blk_far ?_ NB151_166.out _; (with_reducible repeat (first | refine blk_drewN ?_ _ | refine blk_drew ?_ | refine blk_alloc ?_ _)); refine blk_far ?_ NB151_166.out _; (with_reducible repeat (first | refine blk_drewN ?_ _ | refine blk_drew ?_ | refine blk_alloc ?_ _)); refine blk_far ?_ NB151_166.out _; (with_reducible repeat (first | refine blk_drewN ?_ _ | refine blk_drew ?_ | refine blk_alloc ?_ _)); exact BK151.out) hb); have n5_ := Aside0.mk (blk_below (g := gb155) (o := .cells #[.int .i64 x156000_3, .int .i64 x156001_3, .int .i64 x156002_3] 33 (0, 0)) (by (with_reducible repeat (first | refine blk_drewN ?_ _ | refine blk_drew ?_ | refine blk_alloc ?_ _)); refine blk_far ?_ NB155_166.out _; (with_reducible repeat (first | refine blk_drewN ?_ _ | refine blk_drew ?_ | refine blk_alloc ?_ _)); refine blk_far ?_ NB155_166.out _; (with_reducible repeat (first | refine blk_drewN ?_ _ | refine blk_drew ?_ | refine blk_alloc ?_ _)); refine blk_far ?_ NB155_166.out _; (with_reducible repeat (first | refine blk_drewN ?_ _ | refine blk_drew ?_ | refine blk_alloc ?_ _)); exact BK155.out) hb); have n6_ := Aside0.mk (blk_below (g := gb166) (o := .cells #[.int .i64 t163, .int .i64 t164, .int .i64 t165] 33 (0, 0)) (by (with_reducible repeat (first | refine blk_drewN ?_ _ | refine blk_drew ?_ | refine blk_alloc ?_ _)); refine blk_put (cs := #[.int .i64 t163, .int .i64 t164, .int .i64 0]) ?_ 2 _ rfl; (with_reducible repeat (first | refine blk_drewN ?_ _ | refine blk_drew ?_ | refine blk_alloc ?_ _)); refine blk_put (cs := #[.int .i64 t163, .int .i64 0, .int .i64 0]) ?_ 1 _ rfl; (with_reducible repeat (first | refine blk_drewN ?_ _ | refine blk_drew ?_ | refine blk_alloc ?_ _)); refine blk_put (cs := #[.int .i64 0, .int .i64 0, .int .i64 0]) ?_ 0 _ rfl; (with_reducible repeat (first | refine blk_drewN ?_ _ | refine blk_drew ?_ | refine blk_alloc ?_ _)); exact BK166.out) hb); have n7_ := Aside0.mk (below_step hb_ hb); clear HO_7; clear HO_11; clear HO162; clear BK149; clear BK151; clear BK155; clear BK166; clear HB; have HO_7 := n0_; have HO_11 := n1_; have HO162 := n2_; have BK149 := n3_; have BK151 := n4_; have BK155 := n5_; have BK166 := n6_; have HB := n7_; clear n0_ n1_ n2_ n3_ n4_ n5_ n6_ n7_; (try clear hb); (try clear hb2); (try clear hk); (try clear hi); have p169 : 0 ≤ (t167 : Int) := od_; have q169 : t167 < (t152.length : Int) := od_; obtain ⟨ad169, e169, hx169_0⟩ := Kd.at_int (Kd.R_reads' HO_7.out).2.2 t167 p169 q169; obtain rfl : ad158 = ad169 := (by injection e169); replace p169 := eq_true p169; replace q169 := eq_true q169; have p170 : 0 ≤ (x9_3 : Int) := od_; have q170 : x9_3 < (t152.length : Int) := od_; obtain ⟨ad170, e170, hx170_0⟩ := Kd.at_int (Kd.R_reads' HO_7.out).2.2 x9_3 p170 q170; obtain rfl : ad158 = ad170 := (by injection e170); replace p170 := eq_true p170; replace q170 := eq_true q170))
                      repeat (go_quiet (fail); try go_wp2_with (first | ((with_reducible refine gate_builtin (b := .append) (xs := #[.tmp 80, .tmp 82]) rfl ?_); at_builtin; refine Kd.R_append (Kd.int .i64) (w0 := w) w.heap.size rfl (.tmp 80) (.tmp 82) 27 3 (.int .i64 0) 8 rfl Try.underlying27 info3 rfl (by decide) (by omega) u11 x11_3 x12_3 [.int .i64 x12_3] (fun k_ => some k_ ≠ (.slice (some ad158) t152.length co43 : Value).ownBlock ∧ some k_ ≠ (.slice Ao67 y160.length co67 : Value).ownBlock) (fun _ => False) rfl rfl ?aP (fun _ hk => hk.elim) ?aF ?aO ?aB ?aS ?aL ?_; (case aP => exact rfl); (case aB => exact hb_); (case aF => exact (fun k_ hk => ⟨Kd.fresh' (Kd.R_lt (rk_ HO_7.out)) k_ hk, Kd.fresh' (Kd.R_lt (rk_ HO162.out)) k_ hk⟩)); (case aO => exact (rk_ HO_11.out)); (case aS => exact (below_size hb_)); (case aL => have := LMc59.out; omega); intro v172 w76 ho hb hg hat; rw [← Ny171.out] at ho; have n0_ := Aside0.mk (Kd.R_after (ok := (fun k_ => some k_ ≠ (.slice Ao67 y160.length co67 : Value).ownBlock)) (by (with_reducible repeat (first | apply Kd.R_alloc | apply Kd.R_drewN | apply Kd.R_drew)); exact Kd.R_mono HO_7.out (fun _ hk => ⟨hk.2, hk.1⟩)) hg hat); have n1_ := Aside0.mk (bg_ BK149.out hg (Kd.R_ne HO_11.out BK149.out (by decide))); have n2_ := Aside0.mk (bg_ BK151.out hg (Kd.R_ne HO_11.out BK151.out (by decide))); have n3_ := Aside0.mk (bg_ BK155.out hg (Kd.R_ne HO_11.out BK155.out (by decide))); have n4_ := Aside0.mk (Kd.R_after (ok := (fun k_ => some k_ ≠ (.slice (some ad158) t152.length co43 : Value).ownBlock)) (by (with_reducible repeat (first | apply Kd.R_alloc | apply Kd.R_drewN | apply Kd.R_drew)); exact Kd.R_mono HO162.out (fun _ hk => ⟨hk.1.2, hk.2⟩)) hg hat); have n5_ := Aside0.mk (bg_ BK166.out hg (Kd.R_ne HO_11.out BK166.out (by decide))); have n6_ := Aside0.mk (hb); have n7_ := Aside0.mk (ho); clear HO_7; clear BK149; clear BK151; clear BK155; clear HO162; clear BK166; clear HB; clear HO_11; have HO_7 := n0_; have BK149 := n1_; have BK151 := n2_; have BK155 := n3_; have HO162 := n4_; have BK166 := n5_; have HB := n6_; have HO173 := n7_; clear n0_ n1_ n2_ n3_ n4_ n5_ n6_ n7_; clear ho hb hg hat; have hcz77_0 : w76.cell? ⟨gb166, 0, none⟩ = some (.int .i64 t163) := (blk_cell BK166.out 0).trans rfl; have hcz77_1 : w76.cell? ⟨gb166, 1, none⟩ = some (.int .i64 t164) := (blk_cell BK166.out 1).trans rfl; have hcz77_2 : w76.cell? ⟨gb166, 2, none⟩ = some (.int .i64 t165) := (blk_cell BK166.out 2).trans rfl; have hfz77_0 := blk_frozen BK166.out 0; have hfz77_1 := blk_frozen BK166.out 1; have hfz77_2 := blk_frozen BK166.out 2; have hcz78_0 : w76.cell? ⟨gb155, 0, none⟩ = some (.int .i64 x156000_3) := (blk_cell BK155.out 0).trans rfl; have hcz78_1 : w76.cell? ⟨gb155, 1, none⟩ = some (.int .i64 x156001_3) := (blk_cell BK155.out 1).trans rfl; have hcz78_2 : w76.cell? ⟨gb155, 2, none⟩ = some (.int .i64 x156002_3) := (blk_cell BK155.out 2).trans rfl; have hfz78_0 := blk_frozen BK155.out 0; have hfz78_1 := blk_frozen BK155.out 1; have hfz78_2 := blk_frozen BK155.out 2)))
                      go_roundg k3
                      case measure => have := HJ2.out; have := HK2.out; have := HK3.out; omega
                      case rel => exact ⟨(t167), (y171), (t163), (t164), (t165), (by first | rfl | (simp; done) | (simp [*]; done)), H', ⟨by have := HJ2.out; have := HK2.out; have := HK3.out; omega⟩, ⟨by (with_reducible repeat (first | apply Kd.R_alloc | apply Kd.R_drewN | apply Kd.R_drew)); exact Kd.R_mono (Kd.R_far (p := ⟨gb155, 2, none⟩) (Kd.R_far (p := ⟨gb155, 1, none⟩) (Kd.R_far (p := ⟨gb155, 0, none⟩) (Kd.R_types HO_7.out BK155.out (by decide)) (fun _ hk => hk.2) (.int .i64 t163)) (fun _ hk => hk.2) (.int .i64 t164)) (fun _ hk => hk.2) (.int .i64 t165)) (fun _ hk => hk.1.2)⟩, ⟨by (with_reducible repeat (first | apply Kd.R_alloc | apply Kd.R_drewN | apply Kd.R_drew)); exact Kd.R_mono (Kd.R_far (p := ⟨gb155, 2, none⟩) (Kd.R_far (p := ⟨gb155, 1, none⟩) (Kd.R_far (p := ⟨gb155, 0, none⟩) (Kd.R_types HO173.out BK155.out (by decide)) (fun _ hk => hk.2) (.int .i64 t163)) (fun _ hk => hk.2) (.int .i64 t164)) (fun _ hk => hk.2) (.int .i64 t165)) (fun _ hk => hk.1.1)⟩, ⟨by (with_reducible repeat (first | refine blk_drewN ?_ _ | refine blk_drew ?_ | refine blk_alloc ?_ _)); refine blk_far ?_ NB149_155.out _; (with_reducible repeat (first | refine blk_drewN ?_ _ | refine blk_drew ?_ | refine blk_alloc ?_ _)); refine blk_far ?_ NB149_155.out _; (with_reducible repeat (first | refine blk_drewN ?_ _ | refine blk_drew ?_ | refine blk_alloc ?_ _)); refine blk_far ?_ NB149_155.out _; (with_reducible repeat (first | refine blk_drewN ?_ _ | refine blk_drew ?_ | refine blk_alloc ?_ _)); exact BK149.out⟩, ⟨by (with_reducible repeat (first | refine blk_drewN ?_ _ | refine blk_drew ?_ | refine blk_alloc ?_ _)); refine blk_far ?_ NB151_155.out _; (with_reducible repeat (first | refine blk_drewN ?_ _ | refine blk_drew ?_ | refine blk_alloc ?_ _)); refine blk_far ?_ NB151_155.out _; (with_reducible repeat (first | refine blk_drewN ?_ _ | refine blk_drew ?_ | refine blk_alloc ?_ _)); refine blk_far ?_ NB151_155.out _; (with_reducible repeat (first | refine blk_drewN ?_ _ | refine blk_drew ?_ | refine blk_alloc ?_ _)); exact BK151.out⟩, ⟨by (with_reducible repeat (first | refine blk_drewN ?_ _ | refine blk_drew ?_ | refine blk_alloc ?_ _)); refine blk_put (cs := #[.int .i64 t163, .int .i64 t164, .int .i64 x156002_3]) ?_ 2 _ rfl; (with_reducible repeat (first | refine blk_drewN ?_ _ | refine blk_drew ?_ | refine blk_alloc ?_ _)); refine blk_put (cs := #[.int .i64 t163, .int .i64 x156001_3, .int .i64 x156002_3]) ?_ 1 _ rfl; (with_reducible repeat (first | refine blk_drewN ?_ _ | refine blk_drew ?_ | refine blk_alloc ?_ _)); refine blk_put (cs := #[.int .i64 x156000_3, .int .i64 x156001_3, .int .i64 x156002_3]) ?_ 0 _ rfl; (with_reducible repeat (first | refine blk_drewN ?_ _ | refine blk_drew ?_ | refine blk_alloc ?_ _)); exact BK155.out⟩, ⟨by repeat (first | (with_reducible first | exact HB.out | apply below_alloc | apply pw_below_drewN | apply below_drew1 | refine below_set ?_ GE149.out | refine below_set ?_ GE151.out | refine below_set ?_ GE155.out | refine below_set ?_ GE166.out) | exact HB.out)⟩⟩
                     ·
                      rw [if_neg c59] at H
                      exact absurd H (by simp)
                    ·
                     rw [if_neg c58] at H
                     have c58b0 : ((rd t152 t167) == (wrap64 ((rd t152 x9_3) - 1))) = false := beq_eq_false_iff_ne.mpr c58
                     have c58b1 : ((rd t152 t167) != (wrap64 ((rd t152 x9_3) - 1))) = true := bne_iff_ne.mpr c58
                     have H' := Aside0.mk H
                     clear H
                     have hnb79 := NB149_151.out
                     have hnc79 := NB151_149.out
                     have hnb80 := NB149_155.out
                     have hnc80 := NB155_149.out
                     have hcz81_0 : wr.cell? ⟨gb149, 0, none⟩ = some (.int .i64 a0_0) := (blk_cell BK149.out 0).trans rfl
                     have hcz81_1 : wr.cell? ⟨gb149, 1, none⟩ = some (.int .i64 a0_1) := (blk_cell BK149.out 1).trans rfl
                     have hcz81_2 : wr.cell? ⟨gb149, 2, none⟩ = some (.int .i64 a0_2) := (blk_cell BK149.out 2).trans rfl
                     have hfz81_0 := blk_frozen BK149.out 0
                     have hfz81_1 := blk_frozen BK149.out 1
                     have hfz81_2 := blk_frozen BK149.out 2
                     have hnb82 := NB155_151.out
                     have hnc82 := NB151_155.out
                     have hcz83_0 : wr.cell? ⟨gb155, 0, none⟩ = some (.int .i64 x156000_3) := (blk_cell BK155.out 0).trans rfl
                     have hcz83_1 : wr.cell? ⟨gb155, 1, none⟩ = some (.int .i64 x156001_3) := (blk_cell BK155.out 1).trans rfl
                     have hcz83_2 : wr.cell? ⟨gb155, 2, none⟩ = some (.int .i64 x156002_3) := (blk_cell BK155.out 2).trans rfl
                     have hfz83_0 := blk_frozen BK155.out 0
                     have hfz83_1 := blk_frozen BK155.out 1
                     have hfz83_2 := blk_frozen BK155.out 2
                     go_wp2_with (first | ((with_reducible refine gate_dst (N := 59) rfl ?_); refine Kd.R_lit (Kd.int .i64) _ 3 ?hg (N := 59) ?hd (xs := ([x12_3] : List Int)) (inner := [.int .i64 x12_3]) (ok := fun _ => True) (okp := fun _ => True) ?hr ?hp (fun _ hk => hk) trivial (Below.refl _ _) (Nat.le_refl _) (by simp) ?_; (case hd => rfl); (case hg => rfl); (case hr => first | (go_simp; done) | (go_simp; rfl)); (case hp => exact (Reps.one (show Kd.M (Kd.int .i64) _ _ _ x12_3 [.int .i64 x12_3] from rfl) (Reps.none _ _))); intro v161 w84 ho85 hb hg_ hnew_; clear hg_ hnew_; (first | rw [← Ny160.out] at ho85 | (simp only [Int.reduceToNat] at ho85; rw [← Ny160.out] at ho85)); have n0_ := Aside0.mk (Kd.R_elder' (rk_ HO_7.out) (Kd.R_base ho85) hb); have n1_ := Aside0.mk (Kd.R_elder' (rk_ HO_11.out) (Kd.R_base ho85) hb); have n2_ := Aside0.mk (Kd.R_lower (Kd.R_new' (Kd.R_new' ho85 (Kd.R_lt (rk_ HO_7.out))) (Kd.R_lt (rk_ HO_11.out))) (below_size hb_)); have n3_ := Aside0.mk (bb_ BK149.out hb); have n4_ := Aside0.mk (bb_ BK151.out hb); have n5_ := Aside0.mk (bb_ BK155.out hb); have n6_ := Aside0.mk (below_step hb_ hb); clear HO_7; clear HO_11; clear BK149; clear BK151; clear BK155; clear HB; have HO_7 := n0_; have HO_11 := n1_; have HO162 := n2_; have BK149 := n3_; have BK151 := n4_; have BK155 := n5_; have HB := n6_; clear n0_ n1_ n2_ n3_ n4_ n5_ n6_; clear hb ho85; obtain ⟨Ao86, co86, eo86⟩ := Kd.R_slice HO162.out; subst eo86) | (go_at_call 18; (with_reducible refine (profile_Final.calls x156000_3 x156001_3 x156002_3 _ _ y160 t163 t164 t165 _ ?side1 ?side2 A51.out).mono ?_); (case side1 => repeat (first | exact (Kd.R_reads' HO162.out).2.2 | (with_reducible refine Kd.C_alloc ?_ _) | (with_reducible refine Kd.C_drewN ?_ _) | (with_reducible refine Kd.C_drew ?_))); (case side2 => exact (Kd.R_reads' HO162.out).2.1); rintro e w87 ⟨rfl, hb⟩; have n0_ := Aside0.mk (Kd.R_below (rk_ HO_7.out) hb); have n1_ := Aside0.mk (Kd.R_below (rk_ HO_11.out) hb); have n2_ := Aside0.mk (Kd.R_below (rk_ HO162.out) hb); have n3_ := Aside0.mk (bb_ BK149.out hb); have n4_ := Aside0.mk (bb_ BK151.out hb); have n5_ := Aside0.mk (bb_ BK155.out hb); have n6_ := Aside0.mk (below_step hb_ hb); clear HO_7; clear HO_11; clear HO162; clear BK149; clear BK151; clear BK155; clear HB; have HO_7 := n0_; have HO_11 := n1_; have HO162 := n2_; have BK149 := n3_; have BK151 := n4_; have BK155 := n5_; have HB := n6_; clear n0_ n1_ n2_ n3_ n4_ n5_ n6_; (try clear hb); (try clear hb2); (try clear hk); (try clear hi)) | ((with_reducible refine gate_dst (N := 13) rfl ?_); refine box_event ?hg (N := 13) ?hd (cs := #[.int .i64 0, .int .i64 0, .int .i64 0]) (t := 33) ?hr ?_; (case hd => rfl); (case hg => rfl); (case hr => first | (go_simp; done) | (go_simp; rfl)); intro gb166 hg w88 hbox hb; have n0_ := Aside0.mk (Kd.R_below (rk_ HO_7.out) hb); have n1_ := Aside0.mk (Kd.R_below (rk_ HO_11.out) hb); have n2_ := Aside0.mk (Kd.R_below (rk_ HO162.out) hb); have n3_ := Aside0.mk (bb_ BK149.out hb); have n4_ := Aside0.mk (bb_ BK151.out hb); have n5_ := Aside0.mk (bb_ BK155.out hb); have n6_ := Aside0.mk (below_step hb_ hb); have n7_ := Aside0.mk (hbox); have n8_ := Aside0.mk (sz_ hg : w.heap.size ≤ gb166); have n9_ := Aside0.mk (sz_ hg : w.heap.size ≤ gb166); have n10_ := Aside0.mk ((by rw [hg]; exact Nat.ne_of_lt (bl_ BK149.out) : gb149 ≠ gb166)); have n11_ := Aside0.mk ((by rw [hg]; exact Nat.ne_of_gt (bl_ BK149.out) : gb166 ≠ gb149)); have n12_ := Aside0.mk ((by rw [hg]; exact Nat.ne_of_lt (bl_ BK151.out) : gb151 ≠ gb166)); have n13_ := Aside0.mk ((by rw [hg]; exact Nat.ne_of_gt (bl_ BK151.out) : gb166 ≠ gb151)); have n14_ := Aside0.mk ((by rw [hg]; exact Nat.ne_of_lt (bl_ BK155.out) : gb155 ≠ gb166)); have n15_ := Aside0.mk ((by rw [hg]; exact Nat.ne_of_gt (bl_ BK155.out) : gb166 ≠ gb155)); clear HO_7; clear HO_11; clear HO162; clear BK149; clear BK151; clear BK155; clear HB; have HO_7 := n0_; have HO_11 := n1_; have HO162 := n2_; have BK149 := n3_; have BK151 := n4_; have BK155 := n5_; have HB := n6_; have BK166 := n7_; have GW166 := n8_; have GE166 := n9_; have NB149_166 := n10_; have NB166_149 := n11_; have NB151_166 := n12_; have NB166_151 := n13_; have NB155_166 := n14_; have NB166_155 := n15_; clear n0_ n1_ n2_ n3_ n4_ n5_ n6_ n7_ n8_ n9_ n10_ n11_ n12_ n13_ n14_ n15_; clear hb hbox hg; have hnb89 := NB166_149.out; have hnc89 := NB149_166.out; have hnb90 := NB166_151.out; have hnc90 := NB151_166.out; have hnb91 := NB166_155.out; have hnc91 := NB155_166.out; have hcz92_0 : w88.cell? ⟨gb166, 0, none⟩ = some (.int .i64 0) := (blk_cell BK166.out 0).trans rfl; have hcz92_1 : w88.cell? ⟨gb166, 1, none⟩ = some (.int .i64 0) := (blk_cell BK166.out 1).trans rfl; have hcz92_2 : w88.cell? ⟨gb166, 2, none⟩ = some (.int .i64 0) := (blk_cell BK166.out 2).trans rfl; have hfz92_0 := blk_frozen BK166.out 0; have hfz92_1 := blk_frozen BK166.out 1; have hfz92_2 := blk_frozen BK166.out 2; have hcz93_0 : w88.cell? ⟨gb151, 0, none⟩ = some (.int .i64 a0_0) := (blk_cell BK151.out 0).trans rfl; have hcz93_1 : w88.cell? ⟨gb151, 1, none⟩ = some (.int .i64 a0_1) := (blk_cell BK151.out 1).trans rfl; have hcz93_2 : w88.cell? ⟨gb151, 2, none⟩ = some (.int .i64 a0_2) := (blk_cell BK151.out 2).trans rfl; have hcz93_3 : w88.cell? ⟨gb151, 3, none⟩ = some (.int .i64 a1) := (blk_cell BK151.out 3).trans rfl; have hfz93_0 := blk_frozen BK151.out 0; have hfz93_1 := blk_frozen BK151.out 1; have hfz93_2 := blk_frozen BK151.out 2; have hfz93_3 := blk_frozen BK151.out 3) | (go_at_call 50; (with_reducible refine (mintime_space_of.calls a0_0 a0_1 a0_2 a1 t163 t164 t165 t167 true _ A52.out).mono ?_); rintro e w94 ⟨rfl, hb⟩; have n0_ := Aside0.mk (Kd.R_below (by (with_reducible repeat (first | apply Kd.R_alloc | apply Kd.R_drewN | apply Kd.R_drew)); exact (Kd.R_mono (Kd.R_far (p := ⟨gb166, 2, none⟩) (Kd.R_far (p := ⟨gb166, 1, none⟩) (Kd.R_far (p := ⟨gb166, 0, none⟩) (Kd.R_types HO_7.out BK166.out (by decide)) (fun _ hk => hk.2) (.int .i64 t163)) (fun _ hk => hk.2) (.int .i64 t164)) (fun _ hk => hk.2) (.int .i64 t165)) (fun _ h_ => h_.1))) hb); have n1_ := Aside0.mk (Kd.R_below (by (with_reducible repeat (first | apply Kd.R_alloc | apply Kd.R_drewN | apply Kd.R_drew)); exact (Kd.R_mono (Kd.R_far (p := ⟨gb166, 2, none⟩) (Kd.R_far (p := ⟨gb166, 1, none⟩) (Kd.R_far (p := ⟨gb166, 0, none⟩) (Kd.R_types HO_11.out BK166.out (by decide)) (fun _ hk => hk.2) (.int .i64 t163)) (fun _ hk => hk.2) (.int .i64 t164)) (fun _ hk => hk.2) (.int .i64 t165)) (fun _ h_ => h_.1))) hb); have n2_ := Aside0.mk (Kd.R_below (by (with_reducible repeat (first | apply Kd.R_alloc | apply Kd.R_drewN | apply Kd.R_drew)); exact (Kd.R_mono (Kd.R_far (p := ⟨gb166, 2, none⟩) (Kd.R_far (p := ⟨gb166, 1, none⟩) (Kd.R_far (p := ⟨gb166, 0, none⟩) (Kd.R_types HO162.out BK166.out (by decide)) (fun _ hk => hk.2) (.int .i64 t163)) (fun _ hk => hk.2) (.int .i64 t164)) (fun _ hk => hk.2) (.int .i64 t165)) (fun _ h_ => h_.1))) hb); have n3_ := Aside0.mk (blk_below (g := gb149) (o := .cells #[.int .i64 a0_0, .int .i64 a0_1, .int .i64 a0_2] 25 (0, 0)) (by (with_reducible repeat (first | refine blk_drewN ?_ _ | refine blk_drew ?_ | refine blk_alloc ?_ _)); refine blk_far ?_ NB149_166.out _; (with_reducible repeat (first | refine blk_drewN ?_ _ | refine blk_drew ?_ | refine blk_alloc ?_ _)); refine blk_far ?_ NB149_166.out _; (with_reducible repeat (first | refine blk_drewN ?_ _ | refine blk_drew ?_ | refine blk_alloc ?_ _)); refine blk_far ?_ NB149_166.out _; (with_reducible repeat (first | refine blk_drewN ?_ _ | refine blk_drew ?_ | refine blk_alloc ?_ _)); exact BK149.out) hb); have n4_ := Aside0.mk (blk_below (g := gb151) (o := .cells #[.int .i64 a0_0, .int .i64 a0_1, .int .i64 a0_2, .int .i64 a1] 98 (0, 0)) (by (with_reducible repeat (first | refine blk_drewN ?_ _ | refine blk_drew ?_ | refine blk_alloc ?_ _)); refine blk_far ?_ NB151_166.out _; (with_reducible repeat (first | refine blk_drewN ?_ _ | refine blk_drew ?_ | refine blk_alloc ?_ _)); refine blk_far ?_ NB151_166.out _; (with_reducible repeat (first | refine blk_drewN ?_ _ | refine blk_drew ?_ | refine blk_alloc ?_ _)); refine blk_far ?_ NB151_166.out _; (with_reducible repeat (first | refine blk_drewN ?_ _ | refine blk_drew ?_ | refine blk_alloc ?_ _)); exact BK151.out) hb); have n5_ := Aside0.mk (blk_below (g := gb155) (o := .cells #[.int .i64 x156000_3, .int .i64 x156001_3, .int .i64 x156002_3] 33 (0, 0)) (by (with_reducible repeat (first | refine blk_drewN ?_ _ | refine blk_drew ?_ | refine blk_alloc ?_ _)); refine blk_far ?_ NB155_166.out _; (with_reducible repeat (first | refine blk_drewN ?_ _ | refine blk_drew ?_ | refine blk_alloc ?_ _)); refine blk_far ?_ NB155_166.out _; (with_reducible repeat (first | refine blk_drewN ?_ _ | refine blk_drew ?_ | refine blk_alloc ?_ _)); refine blk_far ?_ NB155_166.out _; (with_reducible repeat (first | refine blk_drewN ?_ _ | refine blk_drew ?_ | refine blk_alloc ?_ _)); exact BK155.out) hb); have n6_ := Aside0.mk (blk_below (g := gb166) (o := .cells #[.int .i64 t163, .int .i64 t164, .int .i64 t165] 33 (0, 0)) (by (with_reducible repeat (first | refine blk_drewN ?_ _ | refine blk_drew ?_ | refine blk_alloc ?_ _)); refine blk_put (cs := #[.int .i64 t163, .int .i64 t164, .int .i64 0]) ?_ 2 _ rfl; (with_reducible repeat (first | refine blk_drewN ?_ _ | refine blk_drew ?_ | refine blk_alloc ?_ _)); refine blk_put (cs := #[.int .i64 t163, .int .i64 0, .int .i64 0]) ?_ 1 _ rfl; (with_reducible repeat (first | refine blk_drewN ?_ _ | refine blk_drew ?_ | refine blk_alloc ?_ _)); refine blk_put (cs := #[.int .i64 0, .int .i64 0, .int .i64 0]) ?_ 0 _ rfl; (with_reducible repeat (first | refine blk_drewN ?_ _ | refine blk_drew ?_ | refine blk_alloc ?_ _)); exact BK166.out) hb); have n7_ := Aside0.mk (below_step hb_ hb); clear HO_7; clear HO_11; clear HO162; clear BK149; clear BK151; clear BK155; clear BK166; clear HB; have HO_7 := n0_; have HO_11 := n1_; have HO162 := n2_; have BK149 := n3_; have BK151 := n4_; have BK155 := n5_; have BK166 := n6_; have HB := n7_; clear n0_ n1_ n2_ n3_ n4_ n5_ n6_ n7_; (try clear hb); (try clear hb2); (try clear hk); (try clear hi); have p169 : 0 ≤ (t167 : Int) := od_; have q169 : t167 < (t152.length : Int) := od_; obtain ⟨ad169, e169, hx169_0⟩ := Kd.at_int (Kd.R_reads' HO_7.out).2.2 t167 p169 q169; obtain rfl : ad158 = ad169 := (by injection e169); replace p169 := eq_true p169; replace q169 := eq_true q169; have p170 : 0 ≤ (x9_3 : Int) := od_; have q170 : x9_3 < (t152.length : Int) := od_; obtain ⟨ad170, e170, hx170_0⟩ := Kd.at_int (Kd.R_reads' HO_7.out).2.2 x9_3 p170 q170; obtain rfl : ad158 = ad170 := (by injection e170); replace p170 := eq_true p170; replace q170 := eq_true q170))
                     repeat (go_quiet (fail); try go_wp2_with (fail))
                     go_roundg k3
                     case measure => have := HJ2.out; have := HK2.out; have := HK3.out; omega
                     case rel => exact ⟨(x9_3), (x11_3), (wrap64 (x12_3 + 1)), (x156000_3), (x156001_3), (x156002_3), (by first | rfl | (simp; done) | (simp [*]; done)), (by first | rfl | (simp; done) | (simp [*]; done)), H', ⟨by have := HJ2.out; have := HK2.out; have := HK3.out; omega⟩, ⟨by (with_reducible repeat (first | apply Kd.R_alloc | apply Kd.R_drewN | apply Kd.R_drew)); exact Kd.R_mono HO_7.out (fun _ hk => hk.1)⟩, ⟨by (with_reducible repeat (first | apply Kd.R_alloc | apply Kd.R_drewN | apply Kd.R_drew)); exact Kd.R_mono HO_11.out (fun _ hk => hk.1)⟩, ⟨by (with_reducible repeat (first | refine blk_drewN ?_ _ | refine blk_drew ?_ | refine blk_alloc ?_ _)); exact BK149.out⟩, ⟨by (with_reducible repeat (first | refine blk_drewN ?_ _ | refine blk_drew ?_ | refine blk_alloc ?_ _)); exact BK151.out⟩, ⟨by (with_reducible repeat (first | refine blk_drewN ?_ _ | refine blk_drew ?_ | refine blk_alloc ?_ _)); exact BK155.out⟩, ⟨by repeat (first | (with_reducible first | exact HB.out | apply below_alloc | apply pw_below_drewN | apply below_drew1 | refine below_set ?_ GE149.out | refine below_set ?_ GE151.out | refine below_set ?_ GE155.out | refine below_set ?_ GE166.out) | exact HB.out)⟩⟩
                   ·
                    rw [if_neg c57] at H
                    exact absurd H (by simp)
                  ·
                   rw [if_neg c56] at H
                   exact absurd H (by simp)
                 ·
                  rw [if_neg c55] at H
                  exact absurd H (by simp)
                ·
                 rw [if_neg c54] at H
                 exact absurd H (by simp)
               ·
                replace c53 := Bool.eq_false_iff.mpr c53
                subst c53
                have H1 : (mintime_Profile.l1 k3 t152 x9_3 x11_3 (wrap64 (x12_3 + 1)) a0_0 a0_1 a0_2 a0_0 a0_1 a0_2 a1 x156000_3 x156001_3 x156002_3) = some (r1, r2) := by rw [if_neg (show ¬ (false = true) by decide)] at H; exact H
                clear H
                have H := H1
                clear H1
                have H' := Aside0.mk H
                clear H
                have hnb95 := NB149_151.out
                have hnc95 := NB151_149.out
                have hnb96 := NB149_155.out
                have hnc96 := NB155_149.out
                have hcz97_0 : wr.cell? ⟨gb149, 0, none⟩ = some (.int .i64 a0_0) := (blk_cell BK149.out 0).trans rfl
                have hcz97_1 : wr.cell? ⟨gb149, 1, none⟩ = some (.int .i64 a0_1) := (blk_cell BK149.out 1).trans rfl
                have hcz97_2 : wr.cell? ⟨gb149, 2, none⟩ = some (.int .i64 a0_2) := (blk_cell BK149.out 2).trans rfl
                have hfz97_0 := blk_frozen BK149.out 0
                have hfz97_1 := blk_frozen BK149.out 1
                have hfz97_2 := blk_frozen BK149.out 2
                have hnb98 := NB155_151.out
                have hnc98 := NB151_155.out
                have hcz99_0 : wr.cell? ⟨gb155, 0, none⟩ = some (.int .i64 x156000_3) := (blk_cell BK155.out 0).trans rfl
                have hcz99_1 : wr.cell? ⟨gb155, 1, none⟩ = some (.int .i64 x156001_3) := (blk_cell BK155.out 1).trans rfl
                have hcz99_2 : wr.cell? ⟨gb155, 2, none⟩ = some (.int .i64 x156002_3) := (blk_cell BK155.out 2).trans rfl
                have hfz99_0 := blk_frozen BK155.out 0
                have hfz99_1 := blk_frozen BK155.out 1
                have hfz99_2 := blk_frozen BK155.out 2
                go_wp2_with (first | ((with_reducible refine gate_dst (N := 59) rfl ?_); refine Kd.R_lit (Kd.int .i64) _ 3 ?hg (N := 59) ?hd (xs := ([x12_3] : List Int)) (inner := [.int .i64 x12_3]) (ok := fun _ => True) (okp := fun _ => True) ?hr ?hp (fun _ hk => hk) trivial (Below.refl _ _) (Nat.le_refl _) (by simp) ?_; (case hd => rfl); (case hg => rfl); (case hr => first | (go_simp; done) | (go_simp; rfl)); (case hp => exact (Reps.one (show Kd.M (Kd.int .i64) _ _ _ x12_3 [.int .i64 x12_3] from rfl) (Reps.none _ _))); intro v161 w100 ho101 hb hg_ hnew_; clear hg_ hnew_; (first | rw [← Ny160.out] at ho101 | (simp only [Int.reduceToNat] at ho101; rw [← Ny160.out] at ho101)); have n0_ := Aside0.mk (Kd.R_elder' (rk_ HO_7.out) (Kd.R_base ho101) hb); have n1_ := Aside0.mk (Kd.R_elder' (rk_ HO_11.out) (Kd.R_base ho101) hb); have n2_ := Aside0.mk (Kd.R_lower (Kd.R_new' (Kd.R_new' ho101 (Kd.R_lt (rk_ HO_7.out))) (Kd.R_lt (rk_ HO_11.out))) (below_size hb_)); have n3_ := Aside0.mk (bb_ BK149.out hb); have n4_ := Aside0.mk (bb_ BK151.out hb); have n5_ := Aside0.mk (bb_ BK155.out hb); have n6_ := Aside0.mk (below_step hb_ hb); clear HO_7; clear HO_11; clear BK149; clear BK151; clear BK155; clear HB; have HO_7 := n0_; have HO_11 := n1_; have HO162 := n2_; have BK149 := n3_; have BK151 := n4_; have BK155 := n5_; have HB := n6_; clear n0_ n1_ n2_ n3_ n4_ n5_ n6_; clear hb ho101; obtain ⟨Ao102, co102, eo102⟩ := Kd.R_slice HO162.out; subst eo102) | (go_at_call 18; (with_reducible refine (profile_Final.calls x156000_3 x156001_3 x156002_3 _ _ y160 t163 t164 t165 _ ?side1 ?side2 A51.out).mono ?_); (case side1 => repeat (first | exact (Kd.R_reads' HO162.out).2.2 | (with_reducible refine Kd.C_alloc ?_ _) | (with_reducible refine Kd.C_drewN ?_ _) | (with_reducible refine Kd.C_drew ?_))); (case side2 => exact (Kd.R_reads' HO162.out).2.1); rintro e w103 ⟨rfl, hb⟩; have n0_ := Aside0.mk (Kd.R_below (rk_ HO_7.out) hb); have n1_ := Aside0.mk (Kd.R_below (rk_ HO_11.out) hb); have n2_ := Aside0.mk (Kd.R_below (rk_ HO162.out) hb); have n3_ := Aside0.mk (bb_ BK149.out hb); have n4_ := Aside0.mk (bb_ BK151.out hb); have n5_ := Aside0.mk (bb_ BK155.out hb); have n6_ := Aside0.mk (below_step hb_ hb); clear HO_7; clear HO_11; clear HO162; clear BK149; clear BK151; clear BK155; clear HB; have HO_7 := n0_; have HO_11 := n1_; have HO162 := n2_; have BK149 := n3_; have BK151 := n4_; have BK155 := n5_; have HB := n6_; clear n0_ n1_ n2_ n3_ n4_ n5_ n6_; (try clear hb); (try clear hb2); (try clear hk); (try clear hi)) | ((with_reducible refine gate_dst (N := 13) rfl ?_); refine box_event ?hg (N := 13) ?hd (cs := #[.int .i64 0, .int .i64 0, .int .i64 0]) (t := 33) ?hr ?_; (case hd => rfl); (case hg => rfl); (case hr => first | (go_simp; done) | (go_simp; rfl)); intro gb166 hg w104 hbox hb; have n0_ := Aside0.mk (Kd.R_below (rk_ HO_7.out) hb); have n1_ := Aside0.mk (Kd.R_below (rk_ HO_11.out) hb); have n2_ := Aside0.mk (Kd.R_below (rk_ HO162.out) hb); have n3_ := Aside0.mk (bb_ BK149.out hb); have n4_ := Aside0.mk (bb_ BK151.out hb); have n5_ := Aside0.mk (bb_ BK155.out hb); have n6_ := Aside0.mk (below_step hb_ hb); have n7_ := Aside0.mk (hbox); have n8_ := Aside0.mk (sz_ hg : w.heap.size ≤ gb166); have n9_ := Aside0.mk (sz_ hg : w.heap.size ≤ gb166); have n10_ := Aside0.mk ((by rw [hg]; exact Nat.ne_of_lt (bl_ BK149.out) : gb149 ≠ gb166)); have n11_ := Aside0.mk ((by rw [hg]; exact Nat.ne_of_gt (bl_ BK149.out) : gb166 ≠ gb149)); have n12_ := Aside0.mk ((by rw [hg]; exact Nat.ne_of_lt (bl_ BK151.out) : gb151 ≠ gb166)); have n13_ := Aside0.mk ((by rw [hg]; exact Nat.ne_of_gt (bl_ BK151.out) : gb166 ≠ gb151)); have n14_ := Aside0.mk ((by rw [hg]; exact Nat.ne_of_lt (bl_ BK155.out) : gb155 ≠ gb166)); have n15_ := Aside0.mk ((by rw [hg]; exact Nat.ne_of_gt (bl_ BK155.out) : gb166 ≠ gb155)); clear HO_7; clear HO_11; clear HO162; clear BK149; clear BK151; clear BK155; clear HB; have HO_7 := n0_; have HO_11 := n1_; have HO162 := n2_; have BK149 := n3_; have BK151 := n4_; have BK155 := n5_; have HB := n6_; have BK166 := n7_; have GW166 := n8_; have GE166 := n9_; have NB149_166 := n10_; have NB166_149 := n11_; have NB151_166 := n12_; have NB166_151 := n13_; have NB155_166 := n14_; have NB166_155 := n15_; clear n0_ n1_ n2_ n3_ n4_ n5_ n6_ n7_ n8_ n9_ n10_ n11_ n12_ n13_ n14_ n15_; clear hb hbox hg; have hnb105 := NB166_149.out; have hnc105 := NB149_166.out; have hnb106 := NB166_151.out; have hnc106 := NB151_166.out; have hnb107 := NB166_155.out; have hnc107 := NB155_166.out; have hcz108_0 : w104.cell? ⟨gb166, 0, none⟩ = some (.int .i64 0) := (blk_cell BK166.out 0).trans rfl; have hcz108_1 : w104.cell? ⟨gb166, 1, none⟩ = some (.int .i64 0) := (blk_cell BK166.out 1).trans rfl; have hcz108_2 : w104.cell? ⟨gb166, 2, none⟩ = some (.int .i64 0) := (blk_cell BK166.out 2).trans rfl; have hfz108_0 := blk_frozen BK166.out 0; have hfz108_1 := blk_frozen BK166.out 1; have hfz108_2 := blk_frozen BK166.out 2; have hcz109_0 : w104.cell? ⟨gb151, 0, none⟩ = some (.int .i64 a0_0) := (blk_cell BK151.out 0).trans rfl; have hcz109_1 : w104.cell? ⟨gb151, 1, none⟩ = some (.int .i64 a0_1) := (blk_cell BK151.out 1).trans rfl; have hcz109_2 : w104.cell? ⟨gb151, 2, none⟩ = some (.int .i64 a0_2) := (blk_cell BK151.out 2).trans rfl; have hcz109_3 : w104.cell? ⟨gb151, 3, none⟩ = some (.int .i64 a1) := (blk_cell BK151.out 3).trans rfl; have hfz109_0 := blk_frozen BK151.out 0; have hfz109_1 := blk_frozen BK151.out 1; have hfz109_2 := blk_frozen BK151.out 2; have hfz109_3 := blk_frozen BK151.out 3) | (go_at_call 50; (with_reducible refine (mintime_space_of.calls a0_0 a0_1 a0_2 a1 t163 t164 t165 t167 false _ A52.out).mono ?_); rintro e w110 ⟨rfl, hb⟩; have n0_ := Aside0.mk (Kd.R_below (by (with_reducible repeat (first | apply Kd.R_alloc | apply Kd.R_drewN | apply Kd.R_drew)); exact (Kd.R_mono (Kd.R_far (p := ⟨gb166, 2, none⟩) (Kd.R_far (p := ⟨gb166, 1, none⟩) (Kd.R_far (p := ⟨gb166, 0, none⟩) (Kd.R_types HO_7.out BK166.out (by decide)) (fun _ hk => hk.2) (.int .i64 t163)) (fun _ hk => hk.2) (.int .i64 t164)) (fun _ hk => hk.2) (.int .i64 t165)) (fun _ h_ => h_.1))) hb); have n1_ := Aside0.mk (Kd.R_below (by (with_reducible repeat (first | apply Kd.R_alloc | apply Kd.R_drewN | apply Kd.R_drew)); exact (Kd.R_mono (Kd.R_far (p := ⟨gb166, 2, none⟩) (Kd.R_far (p := ⟨gb166, 1, none⟩) (Kd.R_far (p := ⟨gb166, 0, none⟩) (Kd.R_types HO_11.out BK166.out (by decide)) (fun _ hk => hk.2) (.int .i64 t163)) (fun _ hk => hk.2) (.int .i64 t164)) (fun _ hk => hk.2) (.int .i64 t165)) (fun _ h_ => h_.1))) hb); have n2_ := Aside0.mk (Kd.R_below (by (with_reducible repeat (first | apply Kd.R_alloc | apply Kd.R_drewN | apply Kd.R_drew)); exact (Kd.R_mono (Kd.R_far (p := ⟨gb166, 2, none⟩) (Kd.R_far (p := ⟨gb166, 1, none⟩) (Kd.R_far (p := ⟨gb166, 0, none⟩) (Kd.R_types HO162.out BK166.out (by decide)) (fun _ hk => hk.2) (.int .i64 t163)) (fun _ hk => hk.2) (.int .i64 t164)) (fun _ hk => hk.2) (.int .i64 t165)) (fun _ h_ => h_.1))) hb); have n3_ := Aside0.mk (blk_below (g := gb149) (o := .cells #[.int .i64 a0_0, .int .i64 a0_1, .int .i64 a0_2] 25 (0, 0)) (by (with_reducible repeat (first | refine blk_drewN ?_ _ | refine blk_drew ?_ | refine blk_alloc ?_ _)); refine blk_far ?_ NB149_166.out _; (with_reducible repeat (first | refine blk_drewN ?_ _ | refine blk_drew ?_ | refine blk_alloc ?_ _)); refine blk_far ?_ NB149_166.out _; (with_reducible repeat (first | refine blk_drewN ?_ _ | refine blk_drew ?_ | refine blk_alloc ?_ _)); refine blk_far ?_ NB149_166.out _; (with_reducible repeat (first | refine blk_drewN ?_ _ | refine blk_drew ?_ | refine blk_alloc ?_ _)); exact BK149.out) hb); have n4_ := Aside0.mk (blk_below (g := gb151) (o := .cells #[.int .i64 a0_0, .int .i64 a0_1, .int .i64 a0_2, .int .i64 a1] 98 (0, 0)) (by (with_reducible repeat (first | refine blk_drewN ?_ _ | refine blk_drew ?_ | refine blk_alloc ?_ _)); refine blk_far ?_ NB151_166.out _; (with_reducible repeat (first | refine blk_drewN ?_ _ | refine blk_drew ?_ | refine blk_alloc ?_ _)); refine blk_far ?_ NB151_166.out _; (with_reducible repeat (first | refine blk_drewN ?_ _ | refine blk_drew ?_ | refine blk_alloc ?_ _)); refine blk_far ?_ NB151_166.out _; (with_reducible repeat (first | refine blk_drewN ?_ _ | refine blk_drew ?_ | refine blk_alloc ?_ _)); exact BK151.out) hb); have n5_ := Aside0.mk (blk_below (g := gb155) (o := .cells #[.int .i64 x156000_3, .int .i64 x156001_3, .int .i64 x156002_3] 33 (0, 0)) (by (with_reducible repeat (first | refine blk_drewN ?_ _ | refine blk_drew ?_ | refine blk_alloc ?_ _)); refine blk_far ?_ NB155_166.out _; (with_reducible repeat (first | refine blk_drewN ?_ _ | refine blk_drew ?_ | refine blk_alloc ?_ _)); refine blk_far ?_ NB155_166.out _; (with_reducible repeat (first | refine blk_drewN ?_ _ | refine blk_drew ?_ | refine blk_alloc ?_ _)); refine blk_far ?_ NB155_166.out _; (with_reducible repeat (first | refine blk_drewN ?_ _ | refine blk_drew ?_ | refine blk_alloc ?_ _)); exact BK155.out) hb); have n6_ := Aside0.mk (blk_below (g := gb166) (o := .cells #[.int .i64 t163, .int .i64 t164, .int .i64 t165] 33 (0, 0)) (by (with_reducible repeat (first | refine blk_drewN ?_ _ | refine blk_drew ?_ | refine blk_alloc ?_ _)); refine blk_put (cs := #[.int .i64 t163, .int .i64 t164, .int .i64 0]) ?_ 2 _ rfl; (with_reducible repeat (first | refine blk_drewN ?_ _ | refine blk_drew ?_ | refine blk_alloc ?_ _)); refine blk_put (cs := #[.int .i64 t163, .int .i64 0, .int .i64 0]) ?_ 1 _ rfl; (with_reducible repeat (first | refine blk_drewN ?_ _ | refine blk_drew ?_ | refine blk_alloc ?_ _)); refine blk_put (cs := #[.int .i64 0, .int .i64 0, .int .i64 0]) ?_ 0 _ rfl; (with_reducible repeat (first | refine blk_drewN ?_ _ | refine blk_drew ?_ | refine blk_alloc ?_ _)); exact BK166.out) hb); have n7_ := Aside0.mk (below_step hb_ hb); clear HO_7; clear HO_11; clear HO162; clear BK149; clear BK151; clear BK155; clear BK166; clear HB; have HO_7 := n0_; have HO_11 := n1_; have HO162 := n2_; have BK149 := n3_; have BK151 := n4_; have BK155 := n5_; have BK166 := n6_; have HB := n7_; clear n0_ n1_ n2_ n3_ n4_ n5_ n6_ n7_; (try clear hb); (try clear hb2); (try clear hk); (try clear hi)))
                repeat (go_quiet (fail); try go_wp2_with (fail))
                go_roundg k3
                case measure => have := HJ2.out; have := HK2.out; have := HK3.out; omega
                case rel => exact ⟨(x9_3), (x11_3), (wrap64 (x12_3 + 1)), (x156000_3), (x156001_3), (x156002_3), (by first | rfl | (simp; done) | (simp [*]; done)), (by first | rfl | (simp; done) | (simp [*]; done)), H', ⟨by have := HJ2.out; have := HK2.out; have := HK3.out; omega⟩, ⟨by (with_reducible repeat (first | apply Kd.R_alloc | apply Kd.R_drewN | apply Kd.R_drew)); exact Kd.R_mono HO_7.out (fun _ hk => hk.1)⟩, ⟨by (with_reducible repeat (first | apply Kd.R_alloc | apply Kd.R_drewN | apply Kd.R_drew)); exact Kd.R_mono HO_11.out (fun _ hk => hk.1)⟩, ⟨by (with_reducible repeat (first | refine blk_drewN ?_ _ | refine blk_drew ?_ | refine blk_alloc ?_ _)); exact BK149.out⟩, ⟨by (with_reducible repeat (first | refine blk_drewN ?_ _ | refine blk_drew ?_ | refine blk_alloc ?_ _)); exact BK151.out⟩, ⟨by (with_reducible repeat (first | refine blk_drewN ?_ _ | refine blk_drew ?_ | refine blk_alloc ?_ _)); exact BK155.out⟩, ⟨by repeat (first | (with_reducible first | exact HB.out | apply below_alloc | apply pw_below_drewN | apply below_drew1 | refine below_set ?_ GE149.out | refine below_set ?_ GE151.out | refine below_set ?_ GE155.out | refine below_set ?_ GE166.out) | exact HB.out)⟩⟩
              ·
               rw [if_neg c50] at H
               have c50b0 : decide (x12_3 ≤ a0_2) = false := decide_eq_false c50
               clear c50
               have H' := Aside0.mk H
               clear H
               have hnb111 := NB149_151.out
               have hnc111 := NB151_149.out
               have hnb112 := NB149_155.out
               have hnc112 := NB155_149.out
               have hcz113_0 : wr.cell? ⟨gb149, 0, none⟩ = some (.int .i64 a0_0) := (blk_cell BK149.out 0).trans rfl
               have hcz113_1 : wr.cell? ⟨gb149, 1, none⟩ = some (.int .i64 a0_1) := (blk_cell BK149.out 1).trans rfl
               have hcz113_2 : wr.cell? ⟨gb149, 2, none⟩ = some (.int .i64 a0_2) := (blk_cell BK149.out 2).trans rfl
               have hfz113_0 := blk_frozen BK149.out 0
               have hfz113_1 := blk_frozen BK149.out 1
               have hfz113_2 := blk_frozen BK149.out 2
               go_wp2
               repeat (go_quiet (fail); try go_wp2)
               go_roundg k3
               case measure => have := HJ2.out; have := HK2.out; have := HK3.out; omega
               case rel => exact ⟨(x9_3), (x11_3), (x156000_3), (x156001_3), (x156002_3), (by first | rfl | (simp; done) | (simp [*]; done)), H', ⟨by have := HJ2.out; have := HK2.out; have := HK3.out; omega⟩, ⟨by (with_reducible repeat (first | apply Kd.R_alloc | apply Kd.R_drewN | apply Kd.R_drew)); exact HO_7.out⟩, ⟨by (with_reducible repeat (first | apply Kd.R_alloc | apply Kd.R_drewN | apply Kd.R_drew)); exact HO_11.out⟩, ⟨by (with_reducible repeat (first | refine blk_drewN ?_ _ | refine blk_drew ?_ | refine blk_alloc ?_ _)); exact BK149.out⟩, ⟨by (with_reducible repeat (first | refine blk_drewN ?_ _ | refine blk_drew ?_ | refine blk_alloc ?_ _)); exact BK151.out⟩, ⟨by (with_reducible repeat (first | refine blk_drewN ?_ _ | refine blk_drew ?_ | refine blk_alloc ?_ _)); exact BK155.out⟩, ⟨by repeat (first | (with_reducible first | exact HB.out | apply below_alloc | apply pw_below_drewN | apply below_drew1 | refine below_set ?_ GE149.out | refine below_set ?_ GE151.out | refine below_set ?_ GE155.out) | exact HB.out)⟩⟩
           ·
            rw [if_neg c46] at H
            have c46b0 : decide (1 < (rd t152 x9_2)) = false := decide_eq_false c46
            clear c46
            simp only [Option.some.injEq, Prod.mk.injEq] at H
            obtain ⟨rfl, rfl⟩ := H
            have p159 : 0 ≤ (x9_2 : Int) := od_
            have q159 : x9_2 < (t152.length : Int) := od_
            obtain ⟨ad159, e159, hx159_0⟩ := Kd.at_int (Kd.R_reads' HO_7.out).2.2 x9_2 p159 q159
            obtain rfl : ad158 = ad159 := (by injection e159)
            replace p159 := eq_true p159
            replace q159 := eq_true q159
            go_wp2
            repeat (go_quiet (fail); try go_wp2)
            go_ret2
            exact ⟨_, by first | rfl | (simp [errW_none, errW_some] <;> rfl) | (simp [*, errW_none, errW_some] <;> rfl), by (with_reducible repeat (first | apply Kd.R_alloc | apply Kd.R_drewN | apply Kd.R_drew)); exact Kd.R_mono HO_11.out (fun _ hk => trivial), by repeat (first | (with_reducible first | exact HB.out | apply below_alloc | apply pw_below_drewN | apply below_drew1 | refine below_set ?_ GE149.out | refine below_set ?_ GE151.out | refine below_set ?_ GE155.out) | exact HB.out)⟩
          ·
           rw [if_neg c45] at H
           exact absurd H (by simp)
         ·
          rw [if_neg c44] at H
          exact absurd H (by simp)
     ·
      rw [if_neg c18] at H
      exact absurd H (by simp)
    ·
     rw [if_neg c17] at H
     exact absurd H (by simp)

end Go.Proofs.Ytmmaodlngnjmlaa.P
