-- Written by this session's own program, for this seat. Lean checks it.
import Derived.Test.YtjcefdockfbnaaaP0
import Derived.Test.YtjcefdockfbnaaaP1
import Derived.Test.YtjcefdockfbnaaaP2
namespace Go.Proofs.Ytjcefdockfbnaaa.P
open Go.RowKit Go.Proofs.YtjcefdockfbnaaaW.PrintWords Go.Proofs.YtjcefdockfbnaaaW.PrintLast Go.Proofs.YtjcefdockfbnaaaW.PrintMore
attribute [local go_sem] max2_int min2_int max_two min_two max_three min_three max_four min_four   -- for this text's walks alone
set_option linter.unusedVariables false
set_option linter.unusedSimpArgs false

/-! ### ambidexterlaw28_BrakingCategoryZero: function 12 -/
def ambidexterlaw28_BrakingCategoryZero.l0 : Nat → Int → Bool → List (S37) → Int → Int → Int → Int → Int → Int → Int → Int → Option (Bool)
  | 0, _, _, _, _, _, _, _, _, _, _, _ => none
  | k + 1, x2, x7, x9, x10, x11, x315000, x315001, x315002, x316000, x316001, x316002 => if x11 < (x9.length : Int) then (if 0 ≤ x11 then (if (wrap64 (((rd_T37 x9 x11).f1) * x316001)) < 0 then (some false) else (if (mx ((rd_T37 x9 x11).f1) (wrap64 (-((rd_T37 x9 x11).f1)))) > (mx x10 (wrap64 (-x10))) then (some false) else (if ((rd_T37 x9 x11).f2) = 0 then (ambidexterlaw28_BrakingCategoryZero.l0 k x2 x7 x9 ((rd_T37 x9 x11).f1) (wrap64 (x11 + 1)) x315000 x315001 x315002 x316000 x316001 x316002) else (some false)))) else (none)) else (if x7 = true then ((braking_Duration.f k x315000 x315001 x315002 0 (Int.tmod (wrap64 (x2)) 8) 0 0).bind fun t328 => ((braking_Duration.f k x315000 x315001 x315002 0 (wrap64 ((Int.tmod (wrap64 (x2)) 8) + 1)) 0 0).bind fun t329 => (if t328 ≤ t329 then ((braking_Distance.f k x315000 x315001 x315002 0 (Int.tmod (wrap64 (x2)) 8) 0 0).bind fun t330 => ((braking_Distance.f k x315000 x315001 x315002 0 (wrap64 ((Int.tmod (wrap64 (x2)) 8) + 1)) 0 0).bind fun t331 => (some (decide (t330 ≤ t331))))) else (some false)))) else (some false))
def ambidexterlaw28_BrakingCategoryZero.f (k : Nat) (a0_0 : Int) (a0_1 : Int) (a0_2 : Int) (a1_0 : Int) (a1_1 : Int) (a1_2 : Int) (a2 : Int) : Option (Bool) := (ambidexterlaw28_head.f k).bind fun t316 => ((ambidexterref28_May.f a0_0 a0_1 a0_2 a1_0 a1_1 a1_2).bind fun t317 => (if t317 = true then ((braking_StopMotion.f k a0_0 a0_1 a0_2 a1_0 a1_1 a1_2 0).bind fun t318 => (ambidexterlaw28_BrakingCategoryZero.l0 k a2 t316 t318 a1_1 0 a0_0 a0_1 a0_2 a1_0 a1_1 a1_2)) else (some t316)))
theorem ambidexterlaw28_BrakingCategoryZero.mono_l : ∀ k, (∀ y0 y1 y2 y3 y4 y5 y6 y7 y8 y9 y10, LeO (ambidexterlaw28_BrakingCategoryZero.l0 k y0 y1 y2 y3 y4 y5 y6 y7 y8 y9 y10) (ambidexterlaw28_BrakingCategoryZero.l0 (k + 1) y0 y1 y2 y3 y4 y5 y6 y7 y8 y9 y10))
  | 0 => fun _ _ _ _ _ _ _ _ _ _ _ r h => by simp [ambidexterlaw28_BrakingCategoryZero.l0] at h
  | k + 1 => by
    have ih0 := ambidexterlaw28_BrakingCategoryZero.mono_l k
    · intro y0 y1 y2 y3 y4 y5 y6 y7 y8 y9 y10
      unfold ambidexterlaw28_BrakingCategoryZero.l0
      repeat' first
      | (with_reducible exact ih0 _ _ _ _ _ _ _ _ _ _ _)
      | (with_reducible exact ambidexterlaw28_head.mono _)
      | (with_reducible exact braking_Distance.mono _ _ _ _ _ _ _ _)
      | (with_reducible exact braking_Duration.mono _ _ _ _ _ _ _ _)
      | (with_reducible exact braking_StopMotion.mono _ _ _ _ _ _ _ _)
      | (with_reducible exact LeO.refl _)
      | (with_reducible exact LeO.none _)
      | (with_reducible refine LeO.ite ?_ ?_)
      | (with_reducible refine LeO.bind ?_ (fun _ => ?_))
      | exact ih0 _ _ _ _ _ _ _ _ _ _ _
      | exact ambidexterlaw28_head.mono _
      | exact braking_Distance.mono _ _ _ _ _ _ _ _
      | exact braking_Duration.mono _ _ _ _ _ _ _ _
      | exact braking_StopMotion.mono _ _ _ _ _ _ _ _
      | exact LeO.none _
      | refine LeO.ite ?_ ?_
      | refine LeO.bind ?_ (fun _ => ?_)
theorem ambidexterlaw28_BrakingCategoryZero.mono : ∀ a0 a1 a2 a3 a4 a5 a6 k, LeO (ambidexterlaw28_BrakingCategoryZero.f k a0 a1 a2 a3 a4 a5 a6) (ambidexterlaw28_BrakingCategoryZero.f (k + 1) a0 a1 a2 a3 a4 a5 a6) := by
  intro a0 a1 a2 a3 a4 a5 a6 k
  have ih0 := ambidexterlaw28_BrakingCategoryZero.mono_l k
  unfold ambidexterlaw28_BrakingCategoryZero.f
  repeat' first
      | (with_reducible exact ih0 _ _ _ _ _ _ _ _ _ _ _)
      | (with_reducible exact ambidexterlaw28_head.mono _)
      | (with_reducible exact braking_Distance.mono _ _ _ _ _ _ _ _)
      | (with_reducible exact braking_Duration.mono _ _ _ _ _ _ _ _)
      | (with_reducible exact braking_StopMotion.mono _ _ _ _ _ _ _ _)
      | (with_reducible exact LeO.refl _)
      | (with_reducible exact LeO.none _)
      | (with_reducible refine LeO.ite ?_ ?_)
      | (with_reducible refine LeO.bind ?_ (fun _ => ?_))
      | exact ih0 _ _ _ _ _ _ _ _ _ _ _
      | exact ambidexterlaw28_head.mono _
      | exact braking_Distance.mono _ _ _ _ _ _ _ _
      | exact braking_Duration.mono _ _ _ _ _ _ _ _
      | exact braking_StopMotion.mono _ _ _ _ _ _ _ _
      | exact LeO.none _
      | refine LeO.ite ?_ ?_
      | refine LeO.bind ?_ (fun _ => ?_)
def ambidexterlaw28_BrakingCategoryZero.T10 : Bool × List (List Nat × List Nat) := (true, [([], []), ([], []), ([0, 1], [0, 1]), ([2], [2]), ([3], [3]), ([], []), ([5], [5]), ([4, 6], [4, 6]), ([7], [7]), ([8], [8]), ([9], [9]), ([9], [9]), ([10, 11, 9], [9, 10, 11]), ([12, 9], [9, 12]), ([13, 9], [9, 13]), ([9], [9]), ([9], [9]), ([15, 16, 9], [9, 15, 16]), ([17, 9], [9, 17]), ([18, 9], [9, 18]), ([19, 9], [9, 19]), ([14, 20, 9], [9, 14, 20]), ([9], [9]), ([9], [9]), ([23, 9], [9, 23]), ([22, 24, 9], [9, 22, 24]), ([21, 25, 9], [9, 21, 25]), ([9, 26], [9, 26]), ([27, 9], [27]), ([28], [28]), ([28], [28]), ([29, 30, 28], [28, 29, 30]), ([31, 28], [28, 31]), ([32, 28], [28, 32]), ([33, 28], [28, 33]), ([28, 34], [28, 34])])
def ambidexterlaw28_BrakingCategoryZero.B10 : List Nat := [0, 0, 3, 7, 15, 0, 32, 127, 255, 511, 1023, 1023, 4095, 8191, 16383, 1023, 1023, 99327, 230399, 492543, 1016831, 2097151, 1023, 1023, 8389631, 29361151, 67108863, 134217727, 268435455, 536870911, 536870911, 2147483647, 4294967295, 8589934591, 17179869183, 34359738367]
theorem ambidexterlaw28_BrakingCategoryZero.tab10 : rtab .any (opsOf Try.f12 10) = ambidexterlaw28_BrakingCategoryZero.T10 := by kernel_rfl
theorem ambidexterlaw28_BrakingCategoryZero.bits10 : waitsOk ambidexterlaw28_BrakingCategoryZero.T10.2 ambidexterlaw28_BrakingCategoryZero.B10 = true := by kernel_rfl
def ambidexterlaw28_BrakingCategoryZero.T15 : Bool × List (List Nat × List Nat) := (true, [([], []), ([0], [0]), ([1], [1]), ([1], [1]), ([2, 3, 1, 1], [1, 2, 3]), ([1], [1]), ([1], [1]), ([5, 6, 4, 1], [1, 5, 6]), ([4, 7, 1], [1, 4, 7]), ([1, 8], [1, 8]), ([9, 7], [9]), ([10], [10]), ([10], [10]), ([11, 12, 10, 10], [10, 11, 12]), ([10], [10]), ([10], [10]), ([14, 15, 13, 10], [10, 14, 15]), ([13, 16, 10], [10, 13, 16]), ([10, 17], [10, 17]), ([18, 16, 0, 1, 2, 3, 4, 5, 6, 7, 8, 9, 10, 11, 12, 13, 14, 15, 16, 17, 18], [18])])
def ambidexterlaw28_BrakingCategoryZero.B15 : List Nat := [0, 1, 3, 3, 15, 3, 3, 127, 255, 511, 1023, 2047, 2047, 8191, 2047, 2047, 65535, 131071, 262143, 524287]
theorem ambidexterlaw28_BrakingCategoryZero.tab15 : rtab .any (opsOf Try.f12 15) = ambidexterlaw28_BrakingCategoryZero.T15 := by kernel_rfl
theorem ambidexterlaw28_BrakingCategoryZero.bits15 : waitsOk ambidexterlaw28_BrakingCategoryZero.T15.2 ambidexterlaw28_BrakingCategoryZero.B15 = true := by kernel_rfl
set_option maxHeartbeats 8000000 in
set_option maxRecDepth 100000 in
theorem ambidexterlaw28_BrakingCategoryZero.calls0 (k : Nat) (a0_0 : Int) (a0_1 : Int) (a0_2 : Int) (a1_0 : Int) (a1_1 : Int) (a1_2 : Int) (a2 : Int) (r : Bool) (w : World) (h : ambidexterlaw28_BrakingCategoryZero.f k a0_0 a0_1 a0_2 a1_0 a1_1 a1_2 a2 = some r) (hT : r = true) :
    Calls Try.prog 12 #[.agg #[.int .i64 a0_0, .int .i64 a0_1, .int .i64 a0_2], .agg #[.int .i64 a1_0, .int .i64 a1_1, .int .i64 a1_2], .int .u8 a2] w fun e w' => e = .returned (.bool r) ∧ Below w.heap.size w w' := by
  have hu23 := Try.underlying23
  have hu37 := Try.underlying37
  have HB := Aside0.mk (Below.refl w.heap.size w)
  have H : ((ambidexterlaw28_head.f k).bind fun t316 => ((ambidexterref28_May.f a0_0 a0_1 a0_2 a1_0 a1_1 a1_2).bind fun t317 => (if t317 = true then ((braking_StopMotion.f k a0_0 a0_1 a0_2 a1_0 a1_1 a1_2 0).bind fun t318 => (ambidexterlaw28_BrakingCategoryZero.l0 k a2 t316 t318 a1_1 0 a0_0 a0_1 a0_2 a1_0 a1_1 a1_2)) else (some t316)))) = some r := h
  clear h
  have HT := Aside0.mk hT
  clear hT
  replace H := Option.bind_eq_some_iff.mp H
  obtain ⟨t316, A40, H⟩ := H
  obtain rfl := ambidexterlaw28_head.is_true k A40
  replace H : ((ambidexterref28_May.f a0_0 a0_1 a0_2 a1_0 a1_1 a1_2).bind fun t317 => (if t317 = true then ((braking_StopMotion.f k a0_0 a0_1 a0_2 a1_0 a1_1 a1_2 0).bind fun t318 => (ambidexterlaw28_BrakingCategoryZero.l0 k a2 true t318 a1_1 0 a0_0 a0_1 a0_2 a1_0 a1_1 a1_2)) else (some true))) = some r := H
  have A4 := Aside0.mk A40
  clear A40
  replace H := Option.bind_eq_some_iff.mp H
  obtain ⟨t317, A50, H⟩ := H
  replace H : (if t317 = true then ((braking_StopMotion.f k a0_0 a0_1 a0_2 a1_0 a1_1 a1_2 0).bind fun t318 => (ambidexterlaw28_BrakingCategoryZero.l0 k a2 true t318 a1_1 0 a0_0 a0_1 a0_2 a1_0 a1_1 a1_2)) else (some true)) = some r := H
  have A5 := Aside0.mk A50
  clear A50
  by_cases c6 : t317 = true
  · subst c6
    have H1 : ((braking_StopMotion.f k a0_0 a0_1 a0_2 a1_0 a1_1 a1_2 0).bind fun t318 => (ambidexterlaw28_BrakingCategoryZero.l0 k a2 true t318 a1_1 0 a0_0 a0_1 a0_2 a1_0 a1_1 a1_2)) = some r := by rw [if_pos rfl] at H; exact H
    clear H
    have H := H1
    clear H1
    replace H := Option.bind_eq_some_iff.mp H
    obtain ⟨t318, A70, H⟩ := H
    replace H : (ambidexterlaw28_BrakingCategoryZero.l0 k a2 true t318 a1_1 0 a0_0 a0_1 a0_2 a1_0 a1_1 a1_2) = some r := H
    have A7 := Aside0.mk A70
    clear A70
    have H' := Aside0.mk H
    clear H
    go_enter Try.func12, Try.ntmps12
    go_wp2_with (first | ((with_reducible refine gate_dst (N := 3) rfl ?_); (try (refine gate_guard (by rfl) ?_; dsimp only)); refine box_event ?hg (N := 3) ?hd (cs := #[.int .i64 a0_0, .int .i64 a0_1, .int .i64 a0_2]) (t := 23) ?hr ?_; (case hd => rfl); (case hg => rfl); (case hr => first | (go_simp; done) | (go_simp; rfl)); intro gb314 hg w8 hbox hb; have n0_ := Aside0.mk (below_step (by repeat (first | (with_reducible first | exact HB.out | apply below_alloc | apply pw_below_drewN | apply below_drew1) | exact HB.out)) hb); have n1_ := Aside0.mk (hbox); have n2_ := Aside0.mk ((by rw [hg]; exact (below_size (by repeat (first | (with_reducible first | exact HB.out | apply below_alloc | apply pw_below_drewN | apply below_drew1) | exact HB.out))) : w.heap.size ≤ gb314)); have n3_ := Aside0.mk ((by rw [hg]; exact (below_size (by repeat (first | (with_reducible first | exact HB.out | apply below_alloc | apply pw_below_drewN | apply below_drew1) | exact HB.out))) : w.heap.size ≤ gb314)); clear HB; have HB := n0_; have BK314 := n1_; have GW314 := n2_; have GE314 := n3_; clear n0_ n1_ n2_ n3_; clear hb hbox hg) | ((with_reducible refine gate_dst (N := 4) rfl ?_); (try (refine gate_guard (by rfl) ?_; dsimp only)); refine box_event ?hg (N := 4) ?hd (cs := #[.int .i64 a1_0, .int .i64 a1_1, .int .i64 a1_2]) (t := 37) ?hr ?_; (case hd => rfl); (case hg => rfl); (case hr => first | (go_simp; done) | (go_simp; rfl)); intro gb315 hg w9 hbox hb; have n0_ := Aside0.mk (blk_below (g := gb314) (o := .cells #[.int .i64 a0_0, .int .i64 a0_1, .int .i64 a0_2] 23 (0, 0)) (by (with_reducible repeat (first | refine blk_drewN ?_ _ | refine blk_drew ?_ | refine blk_alloc ?_ _)); exact BK314.out) hb); have n1_ := Aside0.mk (below_step (by repeat (first | (with_reducible first | exact HB.out | apply below_alloc | apply pw_below_drewN | apply below_drew1 | refine below_set ?_ GE314.out) | exact HB.out)) hb); have n2_ := Aside0.mk (hbox); have n3_ := Aside0.mk ((by rw [hg]; exact (below_size (by repeat (first | (with_reducible first | exact HB.out | apply below_alloc | apply pw_below_drewN | apply below_drew1 | refine below_set ?_ GE314.out) | exact HB.out))) : w.heap.size ≤ gb315)); have n4_ := Aside0.mk ((by rw [hg]; exact (below_size (by repeat (first | (with_reducible first | exact HB.out | apply below_alloc | apply pw_below_drewN | apply below_drew1 | refine below_set ?_ GE314.out) | exact HB.out))) : w.heap.size ≤ gb315)); have n5_ := Aside0.mk ((by rw [hg]; exact Nat.ne_of_lt (blk_lt (g := gb314) (o := .cells #[.int .i64 a0_0, .int .i64 a0_1, .int .i64 a0_2] 23 (0, 0)) (by (with_reducible repeat (first | refine blk_drewN ?_ _ | refine blk_drew ?_ | refine blk_alloc ?_ _)); exact BK314.out)) : gb314 ≠ gb315)); have n6_ := Aside0.mk ((by rw [hg]; exact Nat.ne_of_gt (blk_lt (g := gb314) (o := .cells #[.int .i64 a0_0, .int .i64 a0_1, .int .i64 a0_2] 23 (0, 0)) (by (with_reducible repeat (first | refine blk_drewN ?_ _ | refine blk_drew ?_ | refine blk_alloc ?_ _)); exact BK314.out)) : gb315 ≠ gb314)); clear BK314; clear HB; have BK314 := n0_; have HB := n1_; have BK315 := n2_; have GW315 := n3_; have GE315 := n4_; have NB314_315 := n5_; have NB315_314 := n6_; clear n0_ n1_ n2_ n3_ n4_ n5_ n6_; clear hb hbox hg) | ((with_reducible refine gate_callee (f := 25) rfl ?_); refine goesL_ (some 14) rfl rfl Try.func25 (by kernel_rfl) rfl #[] rfl (by (try simp only [List.map_toArray, List.map_cons, List.map_nil]); first | done | rfl | (simp only [List.length_drop, List.length_take]; rfl)) ?_; (with_reducible refine (ambidexterlaw28_head.calls k  true _ A4.out).mono ?_); rintro e w10 ⟨rfl, hb⟩; refine ⟨_, rfl, ?_⟩; have n0_ := Aside0.mk (blk_below (g := gb314) (o := .cells #[.int .i64 a0_0, .int .i64 a0_1, .int .i64 a0_2] 23 (0, 0)) (by (with_reducible repeat (first | refine blk_drewN ?_ _ | refine blk_drew ?_ | refine blk_alloc ?_ _)); exact BK314.out) hb); have n1_ := Aside0.mk (blk_below (g := gb315) (o := .cells #[.int .i64 a1_0, .int .i64 a1_1, .int .i64 a1_2] 37 (0, 0)) (by (with_reducible repeat (first | refine blk_drewN ?_ _ | refine blk_drew ?_ | refine blk_alloc ?_ _)); exact BK315.out) hb); have n2_ := Aside0.mk (below_step (by repeat (first | (with_reducible first | exact HB.out | apply below_alloc | apply pw_below_drewN | apply below_drew1 | refine below_set ?_ GE314.out | refine below_set ?_ GE315.out) | exact HB.out)) hb); clear BK314; clear BK315; clear HB; have BK314 := n0_; have BK315 := n1_; have HB := n2_; clear n0_ n1_ n2_; (try clear hb); (try clear hb2); (try clear hk); (try clear hi); have hnb11 := NB314_315.out; have hnc11 := NB315_314.out; have hcz12_0 : w10.cell? ⟨gb314, 0, none⟩ = some (.int .i64 a0_0) := (blk_cell BK314.out 0).trans rfl; have hcz12_1 : w10.cell? ⟨gb314, 1, none⟩ = some (.int .i64 a0_1) := (blk_cell BK314.out 1).trans rfl; have hcz12_2 : w10.cell? ⟨gb314, 2, none⟩ = some (.int .i64 a0_2) := (blk_cell BK314.out 2).trans rfl; have hfz12_0 := blk_frozen BK314.out 0; have hfz12_1 := blk_frozen BK314.out 1; have hfz12_2 := blk_frozen BK314.out 2; have hcz13_0 : w10.cell? ⟨gb315, 0, none⟩ = some (.int .i64 a1_0) := (blk_cell BK315.out 0).trans rfl; have hcz13_1 : w10.cell? ⟨gb315, 1, none⟩ = some (.int .i64 a1_1) := (blk_cell BK315.out 1).trans rfl; have hcz13_2 : w10.cell? ⟨gb315, 2, none⟩ = some (.int .i64 a1_2) := (blk_cell BK315.out 2).trans rfl; have hfz13_0 := blk_frozen BK315.out 0; have hfz13_1 := blk_frozen BK315.out 1; have hfz13_2 := blk_frozen BK315.out 2) | ((with_reducible refine gate_callee (f := 26) rfl ?_); refine goesL_ (some 17) rfl rfl Try.func26 (by kernel_rfl) rfl #[.agg #[.int .i64 a0_0, .int .i64 a0_1, .int .i64 a0_2], .agg #[.int .i64 a1_0, .int .i64 a1_1, .int .i64 a1_2]] rfl (by (try simp only [List.map_toArray, List.map_cons, List.map_nil]); first | done | rfl | (simp only [List.length_drop, List.length_take]; rfl)) ?_; (with_reducible refine (ambidexterref28_May.calls a0_0 a0_1 a0_2 a1_0 a1_1 a1_2 true _ A5.out).mono ?_); rintro e w14 ⟨rfl, hb⟩; refine ⟨_, rfl, ?_⟩; have n0_ := Aside0.mk (blk_below (g := gb314) (o := .cells #[.int .i64 a0_0, .int .i64 a0_1, .int .i64 a0_2] 23 (0, 0)) (by (with_reducible repeat (first | refine blk_drewN ?_ _ | refine blk_drew ?_ | refine blk_alloc ?_ _)); exact BK314.out) hb); have n1_ := Aside0.mk (blk_below (g := gb315) (o := .cells #[.int .i64 a1_0, .int .i64 a1_1, .int .i64 a1_2] 37 (0, 0)) (by (with_reducible repeat (first | refine blk_drewN ?_ _ | refine blk_drew ?_ | refine blk_alloc ?_ _)); exact BK315.out) hb); have n2_ := Aside0.mk (below_step (by repeat (first | (with_reducible first | exact HB.out | apply below_alloc | apply pw_below_drewN | apply below_drew1 | refine below_set ?_ GE314.out | refine below_set ?_ GE315.out) | exact HB.out)) hb); clear BK314; clear BK315; clear HB; have BK314 := n0_; have BK315 := n1_; have HB := n2_; clear n0_ n1_ n2_; (try clear hb); (try clear hb2); (try clear hk); (try clear hi); have hcz15_0 : w14.cell? ⟨gb314, 0, none⟩ = some (.int .i64 a0_0) := (blk_cell BK314.out 0).trans rfl; have hcz15_1 : w14.cell? ⟨gb314, 1, none⟩ = some (.int .i64 a0_1) := (blk_cell BK314.out 1).trans rfl; have hcz15_2 : w14.cell? ⟨gb314, 2, none⟩ = some (.int .i64 a0_2) := (blk_cell BK314.out 2).trans rfl; have hfz15_0 := blk_frozen BK314.out 0; have hfz15_1 := blk_frozen BK314.out 1; have hfz15_2 := blk_frozen BK314.out 2; have hcz16_0 : w14.cell? ⟨gb315, 0, none⟩ = some (.int .i64 a1_0) := (blk_cell BK315.out 0).trans rfl; have hcz16_1 : w14.cell? ⟨gb315, 1, none⟩ = some (.int .i64 a1_1) := (blk_cell BK315.out 1).trans rfl; have hcz16_2 : w14.cell? ⟨gb315, 2, none⟩ = some (.int .i64 a1_2) := (blk_cell BK315.out 2).trans rfl; have hfz16_0 := blk_frozen BK315.out 0; have hfz16_1 := blk_frozen BK315.out 1; have hfz16_2 := blk_frozen BK315.out 2) | ((with_reducible refine gate_callee (f := 29) rfl ?_); refine goesL_ (some 23) rfl rfl Try.func29 (by kernel_rfl) rfl #[.agg #[.int .i64 a0_0, .int .i64 a0_1, .int .i64 a0_2], .agg #[.int .i64 a1_0, .int .i64 a1_1, .int .i64 a1_2], .int .i64 0] rfl (by (try simp only [List.map_toArray, List.map_cons, List.map_nil]); first | done | rfl | (simp only [List.length_drop, List.length_take]; rfl)) ?_; (with_reducible refine (braking_StopMotion.calls k a0_0 a0_1 a0_2 a1_0 a1_1 a1_2 0 t318 _ A7.out).mono ?_); rintro e w17 ⟨v319, rfl, ho0, hb⟩; refine ⟨_, rfl, ?_⟩; have n0_ := Aside0.mk (Kd.R_lower (Kd.R_newB ho0 (g := gb315) (o := .cells #[.int .i64 a1_0, .int .i64 a1_1, .int .i64 a1_2] 37 (0, 0)) (by (with_reducible repeat (first | refine blk_drewN ?_ _ | refine blk_drew ?_ | refine blk_alloc ?_ _)); exact BK315.out)) (below_size (by repeat (first | (with_reducible first | exact HB.out | apply below_alloc | apply pw_below_drewN | apply below_drew1 | refine below_set ?_ GE314.out | refine below_set ?_ GE315.out) | exact HB.out)))); have n1_ := Aside0.mk (blk_below (g := gb314) (o := .cells #[.int .i64 a0_0, .int .i64 a0_1, .int .i64 a0_2] 23 (0, 0)) (by (with_reducible repeat (first | refine blk_drewN ?_ _ | refine blk_drew ?_ | refine blk_alloc ?_ _)); exact BK314.out) hb); have n2_ := Aside0.mk (blk_below (g := gb315) (o := .cells #[.int .i64 a1_0, .int .i64 a1_1, .int .i64 a1_2] 37 (0, 0)) (by (with_reducible repeat (first | refine blk_drewN ?_ _ | refine blk_drew ?_ | refine blk_alloc ?_ _)); exact BK315.out) hb); have n3_ := Aside0.mk (below_step (by repeat (first | (with_reducible first | exact HB.out | apply below_alloc | apply pw_below_drewN | apply below_drew1 | refine below_set ?_ GE314.out | refine below_set ?_ GE315.out) | exact HB.out)) hb); clear BK314; clear BK315; clear HB; have HO320 := n0_; have BK314 := n1_; have BK315 := n2_; have HB := n3_; clear n0_ n1_ n2_ n3_; (try clear hb); (try clear hb2); (try clear hk); (try clear hi); (try clear ho0); have hcz18_0 : w17.cell? ⟨gb315, 0, none⟩ = some (.int .i64 a1_0) := (blk_cell BK315.out 0).trans rfl; have hcz18_1 : w17.cell? ⟨gb315, 1, none⟩ = some (.int .i64 a1_1) := (blk_cell BK315.out 1).trans rfl; have hcz18_2 : w17.cell? ⟨gb315, 2, none⟩ = some (.int .i64 a1_2) := (blk_cell BK315.out 2).trans rfl; have hfz18_0 := blk_frozen BK315.out 0; have hfz18_1 := blk_frozen BK315.out 1; have hfz18_2 := blk_frozen BK315.out 2))
    go_loopg [10, 11] k (fun kq v10 v11 w' => ∃ (x10_1 : Int) (x11_1 : Int), v10 = .int .i64 x10_1 ∧ v11 = .int .i64 x11_1 ∧ Aside0 (ambidexterlaw28_BrakingCategoryZero.l0 kq a2 true t318 x10_1 x11_1 a0_0 a0_1 a0_2 a1_0 a1_1 a1_2 = some r) ∧ Aside0 (kq ≤ k) ∧ Aside0 (Kd.R k37 37 w' w.heap.size (fun k_ => k_ ≠ gb315) v319 t318) ∧ Aside0 (w'.heap[gb314]? = some (.cells #[.int .i64 a0_0, .int .i64 a0_1, .int .i64 a0_2] 23 (0, 0))) ∧ Aside0 (w'.heap[gb315]? = some (.cells #[.int .i64 a1_0, .int .i64 a1_1, .int .i64 a1_2] 37 (0, 0))) ∧ Aside0 (Below w.heap.size w w'))
    case atStart => exact ⟨(a1_1), (0), (by first | rfl | (simp; done) | (simp [*]; done)), (by first | rfl | (simp; done) | (simp [*]; done)), H', ⟨Nat.le_refl _⟩, ⟨by (with_reducible repeat (first | apply Kd.R_alloc | apply Kd.R_drewN | apply Kd.R_drew)); exact Kd.R_mono HO320.out (fun _ hk => hk.2)⟩, ⟨by (with_reducible repeat (first | refine blk_drewN ?_ _ | refine blk_drew ?_ | refine blk_alloc ?_ _)); exact BK314.out⟩, ⟨by (with_reducible repeat (first | refine blk_drewN ?_ _ | refine blk_drew ?_ | refine blk_alloc ?_ _)); exact BK315.out⟩, ⟨by repeat (first | (with_reducible first | exact HB.out | apply below_alloc | apply pw_below_drewN | apply below_drew1 | refine below_set ?_ GE314.out | refine below_set ?_ GE315.out) | exact HB.out)⟩⟩
    case round =>
      clear H'
      try clear c1
      try clear c2
      try clear p2
      try clear c6
      try clear c11
      try clear c12
      try clear hcz12_0
      try clear hcz12_1
      try clear hcz12_2
      try clear hcz13_0
      try clear hcz13_1
      try clear hcz13_2
      try clear hcz15_0
      try clear hcz15_1
      try clear hcz15_2
      try clear hcz16_0
      try clear hcz16_1
      try clear hcz16_2
      try clear hcz18_0
      try clear hcz18_1
      try clear hcz18_2
      try clear hfz12_0
      try clear hfz12_1
      try clear hfz12_2
      try clear hfz13_0
      try clear hfz13_1
      try clear hfz13_2
      try clear hfz15_0
      try clear hfz15_1
      try clear hfz15_2
      try clear hfz16_0
      try clear hfz16_1
      try clear hfz16_2
      try clear hfz18_0
      try clear hfz18_1
      try clear hfz18_2
      obtain ⟨x10_1, x11_1, rfl, rfl, HA, HK1, HO_9, BK314, BK315, HB⟩ := hrel
      cases gk with
      | zero => exact absurd HA.out (by simp [ambidexterlaw28_BrakingCategoryZero.l0])
      | succ k1 =>
        have H := HA.out
        clear HA
        simp only [ambidexterlaw28_BrakingCategoryZero.l0] at H
        by_cases c19 : x11_1 < (t318.length : Int)
        · rw [if_pos c19] at H
          have c19b0 : decide (x11_1 < (t318.length : Int)) = true := decide_eq_true c19
          clear c19
          by_cases c20 : 0 ≤ x11_1
          · rw [if_pos c20] at H
            have c20b0 : decide (0 ≤ x11_1) = true := decide_eq_true c20
            clear c20
            by_cases c21 : (wrap64 (((rd_T37 t318 x11_1).f1) * a1_1)) < 0
            · rw [if_pos c21] at H
              have c21b0 : decide ((wrap64 (((rd_T37 t318 x11_1).f1) * a1_1)) < 0) = true := decide_eq_true c21
              clear c21
              exact absurd HT.out (by rw [← Option.some.inj H]; decide)
            · rw [if_neg c21] at H
              have c21b0 : decide ((wrap64 (((rd_T37 t318 x11_1).f1) * a1_1)) < 0) = false := decide_eq_false c21
              clear c21
              obtain ⟨ji22, hji22⟩ : ∃ j_ : Int, (mx ((rd_T37 t318 x11_1).f1) (wrap64 (-((rd_T37 t318 x11_1).f1)))) = j_ := ⟨_, rfl⟩
              replace H : (if (ji22) > (mx x10_1 (wrap64 (-x10_1))) then (some false) else (if ((rd_T37 t318 x11_1).f2) = 0 then (ambidexterlaw28_BrakingCategoryZero.l0 k1 a2 true t318 ((rd_T37 t318 x11_1).f1) (wrap64 (x11_1 + 1)) a0_0 a0_1 a0_2 a1_0 a1_1 a1_2) else (some false))) = some r := by first | (rw [hji22] at H; exact H) | (simp only [hji22] at H ⊢; exact H)
              have hji22_ : (if ((rd_T37 t318 x11_1).f1) < (wrap64 (-((rd_T37 t318 x11_1).f1))) then (wrap64 (-((rd_T37 t318 x11_1).f1))) else ((rd_T37 t318 x11_1).f1)) = ji22 := hji22
              obtain ⟨ji23, hji23⟩ : ∃ j_ : Int, (mx x10_1 (wrap64 (-x10_1))) = j_ := ⟨_, rfl⟩
              replace H : (if (ji22) > (ji23) then (some false) else (if ((rd_T37 t318 x11_1).f2) = 0 then (ambidexterlaw28_BrakingCategoryZero.l0 k1 a2 true t318 ((rd_T37 t318 x11_1).f1) (wrap64 (x11_1 + 1)) a0_0 a0_1 a0_2 a1_0 a1_1 a1_2) else (some false))) = some r := by first | (rw [hji23] at H; exact H) | (simp only [hji23] at H ⊢; exact H)
              have hji23_ : (if x10_1 < (wrap64 (-x10_1)) then (wrap64 (-x10_1)) else x10_1) = ji23 := hji23
              by_cases c24 : (ji22) > (ji23)
              · rw [if_pos c24] at H
                have c24b0 : decide ((ji23) < (ji22)) = true := decide_eq_true c24
                clear c24
                exact absurd HT.out (by rw [← Option.some.inj H]; decide)
              · rw [if_neg c24] at H
                have c24b0 : decide ((ji23) < (ji22)) = false := decide_eq_false c24
                clear c24
                by_cases c25 : ((rd_T37 t318 x11_1).f2) = 0
                · rw [if_pos c25] at H
                  have c25b0 : (((rd_T37 t318 x11_1).f2) == 0) = true := beq_iff_eq.mpr c25
                  have c25b1 : (((rd_T37 t318 x11_1).f2) != 0) = false := bne_eq_false_iff_eq.mpr c25
                  clear c25
                  have H' := Aside0.mk H
                  clear H
                  obtain ⟨Ao26, co26, eo26⟩ := Kd.R_slice HO_9.out
                  subst eo26
                  try go_wp2
                  have n0_ := Aside0.mk (Kd.R_drew HO_9.out)
                  have n1_ := Aside0.mk (blk_drew BK314.out)
                  have n2_ := Aside0.mk (blk_drew BK315.out)
                  have n3_ := Aside0.mk (below_drew1 HB.out)
                  clear HO_9
                  clear BK314
                  clear BK315
                  clear HB
                  have HO_9 := n0_
                  have BK314 := n1_
                  have BK315 := n2_
                  have HB := n3_
                  clear n0_ n1_ n2_ n3_
                  have p321 : 0 ≤ (x11_1 : Int) := of_decide_eq_true (by first | (with_reducible assumption) | assumption)
                  have q321 : x11_1 < (t318.length : Int) := of_decide_eq_true (by first | (with_reducible assumption) | assumption)
                  obtain ⟨ad321, e321, hx321_0, hx321_1, hx321_2⟩ := at_T37 (Kd.R_reads' HO_9.out).2.2 x11_1 p321 q321
                  cases e321
                  replace p321 := eq_true p321
                  replace q321 := eq_true q321
                  have p322 : 0 ≤ (x11_1 : Int) := of_decide_eq_true (by first | (with_reducible assumption) | assumption)
                  have q322 : x11_1 < (t318.length : Int) := of_decide_eq_true (by first | (with_reducible assumption) | assumption)
                  obtain ⟨ad322, e322, hx322_0, hx322_1, hx322_2⟩ := at_T37 (Kd.R_reads' HO_9.out).2.2 x11_1 p322 q322
                  obtain rfl : ad321 = ad322 := (by injection e322)
                  replace p322 := eq_true p322
                  replace q322 := eq_true q322
                  have p323 : 0 ≤ (x11_1 : Int) := of_decide_eq_true (by first | (with_reducible assumption) | assumption)
                  have q323 : x11_1 < (t318.length : Int) := of_decide_eq_true (by first | (with_reducible assumption) | assumption)
                  obtain ⟨ad323, e323, hx323_0, hx323_1, hx323_2⟩ := at_T37 (Kd.R_reads' HO_9.out).2.2 x11_1 p323 q323
                  obtain rfl : ad321 = ad323 := (by injection e323)
                  replace p323 := eq_true p323
                  replace q323 := eq_true q323
                  have p324 : 0 ≤ (x11_1 : Int) := of_decide_eq_true (by first | (with_reducible assumption) | assumption)
                  have q324 : x11_1 < (t318.length : Int) := of_decide_eq_true (by first | (with_reducible assumption) | assumption)
                  obtain ⟨ad324, e324, hx324_0, hx324_1, hx324_2⟩ := at_T37 (Kd.R_reads' HO_9.out).2.2 x11_1 p324 q324
                  obtain rfl : ad321 = ad324 := (by injection e324)
                  replace p324 := eq_true p324
                  replace q324 := eq_true q324
                  refine start_ (n := 36) (S := fun w' => w'.cell? ⟨gb315, 0, none⟩ = some (.int .i64 a1_0) ∧ w'.cell? ⟨gb315, 1, none⟩ = some (.int .i64 a1_1) ∧ w'.cell? ⟨gb315, 2, none⟩ = some (.int .i64 a1_2) ∧ w'.cell? (ad321.add ((x11_1).toNat * 3)) = some (.int .i64 ((rd_T37 t318 x11_1).f0)) ∧ w'.cell? ⟨(ad321.add ((x11_1).toNat * 3)).block, (ad321.add ((x11_1).toNat * 3)).off + 1, none⟩ = some (.int .i64 ((rd_T37 t318 x11_1).f1)) ∧ w'.cell? ⟨(ad321.add ((x11_1).toNat * 3)).block, (ad321.add ((x11_1).toNat * 3)).off + 2, none⟩ = some (.int .i64 ((rd_T37 t318 x11_1).f2)) ∧ w'.cell? (ad321.add ((x11_1).toNat * 3)) = some (.int .i64 ((rd_T37 t318 x11_1).f0)) ∧ w'.cell? ⟨(ad321.add ((x11_1).toNat * 3)).block, (ad321.add ((x11_1).toNat * 3)).off + 1, none⟩ = some (.int .i64 ((rd_T37 t318 x11_1).f1)) ∧ w'.cell? ⟨(ad321.add ((x11_1).toNat * 3)).block, (ad321.add ((x11_1).toNat * 3)).off + 2, none⟩ = some (.int .i64 ((rd_T37 t318 x11_1).f2)) ∧ w'.cell? (ad321.add ((x11_1).toNat * 3)) = some (.int .i64 ((rd_T37 t318 x11_1).f0)) ∧ w'.cell? ⟨(ad321.add ((x11_1).toNat * 3)).block, (ad321.add ((x11_1).toNat * 3)).off + 1, none⟩ = some (.int .i64 ((rd_T37 t318 x11_1).f1)) ∧ w'.cell? ⟨(ad321.add ((x11_1).toNat * 3)).block, (ad321.add ((x11_1).toNat * 3)).off + 2, none⟩ = some (.int .i64 ((rd_T37 t318 x11_1).f2)) ∧ w'.cell? (ad321.add ((x11_1).toNat * 3)) = some (.int .i64 ((rd_T37 t318 x11_1).f0)) ∧ w'.cell? ⟨(ad321.add ((x11_1).toNat * 3)).block, (ad321.add ((x11_1).toNat * 3)).off + 1, none⟩ = some (.int .i64 ((rd_T37 t318 x11_1).f1)) ∧ w'.cell? ⟨(ad321.add ((x11_1).toNat * 3)).block, (ad321.add ((x11_1).toNat * 3)).off + 2, none⟩ = some (.int .i64 ((rd_T37 t318 x11_1).f2))) (ds := []) #[false, false, false, false, false, false, false, false, false, false, false, false, false, false, false, false, false, false, false, false, false, false, false, false, false, false, false, false, false, false, false, false, false, false, false, false] (by kernel_rfl) rfl rfl ⟨(blk_cell BK315.out 0).trans rfl, (blk_cell BK315.out 1).trans rfl, (blk_cell BK315.out 2).trans rfl, hx321_0, hx321_1, hx321_2, hx322_0, hx322_1, hx322_2, hx323_0, hx323_1, hx323_2, hx324_0, hx324_1, hx324_2⟩ (fun hHeld => ?_); refine with_tabW ambidexterlaw28_BrakingCategoryZero.tab10 ambidexterlaw28_BrakingCategoryZero.bits10 (fun HT_ HW_ => ?_)
                  generalize wr.drew = w27 at HO_9 BK314 BK315 HB hx321_0 hx321_1 hx321_2 hx322_0 hx322_1 hx322_2 hx323_0 hx323_1 hx323_2 hx324_0 hx324_1 hx324_2 hHeld ⊢
                  refine pure_ (i := 0) (N := some 32) (v := ?_) (a' := ?_) #[true, false, false, false, false, false, false, false, false, false, false, false, false, false, false, false, false, false, false, false, false, false, false, false, false, false, false, false, false, false, false, false, false, false, false, false] rfl rfl (any_of HT_.out (by kernel_rfl)) (fun _ _ _ h => h) (Or.inl ⟨by rfl, ?_⟩) ?_ ?_
                  rotate_left
                  · intro w'
                    go_simp
                    with_reducible rfl
                  rotate_left
                  · simp only [Act.put, List.setIfInBounds_toArray, List.set_cons_zero, List.set_cons_succ, i64_w, i32_w]
                    rfl
                  refine pure_ (i := 1) (N := some 33) (v := ?_) (a' := ?_) #[true, true, false, false, false, false, false, false, false, false, false, false, false, false, false, false, false, false, false, false, false, false, false, false, false, false, false, false, false, false, false, false, false, false, false, false] rfl rfl (any_of HT_.out (by kernel_rfl)) (fun _ _ _ h => h) (Or.inl ⟨by rfl, ?_⟩) ?_ ?_
                  rotate_left
                  · intro w'
                    go_simp
                    with_reducible rfl
                  rotate_left
                  · simp only [Act.put, List.setIfInBounds_toArray, List.set_cons_zero, List.set_cons_succ, i64_w, i32_w]
                    rfl
                  refine pure_ (i := 2) (N := some 34) (v := ?_) (a' := ?_) #[true, true, true, false, false, false, false, false, false, false, false, false, false, false, false, false, false, false, false, false, false, false, false, false, false, false, false, false, false, false, false, false, false, false, false, false] rfl rfl (any_of HT_.out (by kernel_rfl)) (fun _ _ _ h => h) (Or.inl ⟨by rfl, ?_⟩) ?_ ?_
                  rotate_left
                  · intro w'
                    go_simp
                    with_reducible rfl
                  rotate_left
                  · simp only [Act.put, List.setIfInBounds_toArray, List.set_cons_zero, List.set_cons_succ, i64_w, i32_w]
                    rfl
                  refine pure_ (i := 3) (N := some 35) (v := ?_) (a' := ?_) #[true, true, true, true, false, false, false, false, false, false, false, false, false, false, false, false, false, false, false, false, false, false, false, false, false, false, false, false, false, false, false, false, false, false, false, false] rfl rfl (any_of HT_.out (by kernel_rfl)) (fun _ _ _ h => h) (Or.inl ⟨by rfl, ?_⟩) ?_ ?_
                  rotate_left
                  · intro w'
                    go_simp
                    with_reducible rfl
                  rotate_left
                  · simp only [Act.put, List.setIfInBounds_toArray, List.set_cons_zero, List.set_cons_succ, i64_w, i32_w]
                    rfl
                  refine pure_ (i := 5) (N := some 37) (v := ?_) (a' := ?_) #[true, true, true, true, false, true, false, false, false, false, false, false, false, false, false, false, false, false, false, false, false, false, false, false, false, false, false, false, false, false, false, false, false, false, false, false] rfl rfl (any_of HT_.out (by kernel_rfl)) (fun _ _ _ h => h) (Or.inl ⟨by rfl, ?_⟩) ?_ ?_
                  rotate_left
                  · intro w'
                    go_simp
                    with_reducible rfl
                  rotate_left
                  · simp only [Act.put, List.setIfInBounds_toArray, List.set_cons_zero, List.set_cons_succ, i64_w, i32_w]
                    rfl
                  refine take_ (i := 4) (N := some 36) (v := ?_) (a' := ?_) #[true, true, true, true, true, true, false, false, false, false, false, false, false, false, false, false, false, false, false, false, false, false, false, false, false, false, false, false, false, false, false, false, false, false, false, false] rfl rfl (take_ofW HT_.out HW_.out (by kernel_rfl)) (fun _ _ _ h => h) (Or.inl ⟨by rfl, ?_⟩) hHeld ?_ ?_
                  rotate_left
                  · rintro w' ⟨s0, s1, s2, s3, s4, s5, s6, s7, s8, s9, s10, s11, s12, s13, s14⟩
                    go_simp
                    with_reducible rfl
                  rotate_left
                  · simp only [Act.put, List.setIfInBounds_toArray, List.set_cons_zero, List.set_cons_succ, i64_w, i32_w]
                    rfl
                  refine take_ (i := 6) (N := some 38) (v := ?_) (a' := ?_) #[true, true, true, true, true, true, true, false, false, false, false, false, false, false, false, false, false, false, false, false, false, false, false, false, false, false, false, false, false, false, false, false, false, false, false, false] rfl rfl (take_ofW HT_.out HW_.out (by kernel_rfl)) (fun _ _ _ h => h) (Or.inl ⟨by rfl, ?_⟩) hHeld ?_ ?_
                  rotate_left
                  · rintro w' ⟨s0, s1, s2, s3, s4, s5, s6, s7, s8, s9, s10, s11, s12, s13, s14⟩
                    go_simp
                    with_reducible rfl
                  rotate_left
                  · simp only [Act.put, List.setIfInBounds_toArray, List.set_cons_zero, List.set_cons_succ, i64_w, i32_w]
                    rfl
                  refine pure_ (i := 7) (N := some 39) (v := ?_) (a' := ?_) #[true, true, true, true, true, true, true, true, false, false, false, false, false, false, false, false, false, false, false, false, false, false, false, false, false, false, false, false, false, false, false, false, false, false, false, false] rfl rfl (any_of HT_.out (by kernel_rfl)) (fun _ _ _ h => h) (Or.inl ⟨by rfl, ?_⟩) ?_ ?_
                  rotate_left
                  · intro w'
                    go_simp
                    with_reducible rfl
                  rotate_left
                  · simp only [Act.put, List.setIfInBounds_toArray, List.set_cons_zero, List.set_cons_succ, i64_w, i32_w]
                    rfl
                  refine pure_ (i := 8) (N := some 40) (v := ?_) (a' := ?_) #[true, true, true, true, true, true, true, true, true, false, false, false, false, false, false, false, false, false, false, false, false, false, false, false, false, false, false, false, false, false, false, false, false, false, false, false] rfl rfl (any_of HT_.out (by kernel_rfl)) (fun _ _ _ h => h) (Or.inl ⟨by rfl, ?_⟩) ?_ ?_
                  rotate_left
                  · intro w'
                    go_simp
                    with_reducible rfl
                  rotate_left
                  · simp only [Act.put, List.setIfInBounds_toArray, List.set_cons_zero, List.set_cons_succ, i64_w, i32_w]
                    rfl
                  refine pure_ (i := 9) (N := some 41) (v := ?_) (a' := ?_) #[true, true, true, true, true, true, true, true, true, true, false, false, false, false, false, false, false, false, false, false, false, false, false, false, false, false, false, false, false, false, false, false, false, false, false, false] rfl rfl (any_of HT_.out (by kernel_rfl)) (fun _ _ _ h => h) (Or.inl ⟨by rfl, ?_⟩) ?_ ?_
                  rotate_left
                  · intro w'
                    go_simp
                    with_reducible rfl
                  rotate_left
                  · simp only [Act.put, List.setIfInBounds_toArray, List.set_cons_zero, List.set_cons_succ, i64_w, i32_w]
                    rfl
                  refine pure_ (i := 10) (N := some 42) (v := ?_) (a' := ?_) #[true, true, true, true, true, true, true, true, true, true, true, false, false, false, false, false, false, false, false, false, false, false, false, false, false, false, false, false, false, false, false, false, false, false, false, false] rfl rfl (any_of HT_.out (by kernel_rfl)) (fun _ _ _ h => h) (Or.inl ⟨by rfl, ?_⟩) ?_ ?_
                  rotate_left
                  · intro w'
                    go_simp
                    with_reducible rfl
                  rotate_left
                  · simp only [Act.put, List.setIfInBounds_toArray, List.set_cons_zero, List.set_cons_succ, i64_w, i32_w]
                    rfl
                  refine pure_ (i := 11) (N := some 43) (v := ?_) (a' := ?_) #[true, true, true, true, true, true, true, true, true, true, true, true, false, false, false, false, false, false, false, false, false, false, false, false, false, false, false, false, false, false, false, false, false, false, false, false] rfl rfl (any_of HT_.out (by kernel_rfl)) (fun _ _ _ h => h) (Or.inl ⟨by rfl, ?_⟩) ?_ ?_
                  rotate_left
                  · intro w'
                    go_simp
                    with_reducible rfl
                  rotate_left
                  · simp only [Act.put, List.setIfInBounds_toArray, List.set_cons_zero, List.set_cons_succ, i64_w, i32_w]
                    rfl
                  refine pure_ (i := 12) (N := some 44) (v := ?_) (a' := ?_) #[true, true, true, true, true, true, true, true, true, true, true, true, true, false, false, false, false, false, false, false, false, false, false, false, false, false, false, false, false, false, false, false, false, false, false, false] rfl rfl (any_of HT_.out (by kernel_rfl)) (fun _ _ _ h => h) (Or.inl ⟨by rfl, ?_⟩) ?_ ?_
                  rotate_left
                  · intro w'
                    go_simp
                    with_reducible rfl
                  rotate_left
                  · simp only [Act.put, List.setIfInBounds_toArray, List.set_cons_zero, List.set_cons_succ, i64_w, i32_w]
                    rfl
                  refine pure_ (i := 13) (N := some 45) (v := ?_) (a' := ?_) #[true, true, true, true, true, true, true, true, true, true, true, true, true, true, false, false, false, false, false, false, false, false, false, false, false, false, false, false, false, false, false, false, false, false, false, false] rfl rfl (any_of HT_.out (by kernel_rfl)) (fun _ _ _ h => h) (Or.inl ⟨by rfl, ?_⟩) ?_ ?_
                  rotate_left
                  · intro w'
                    go_simp
                    with_reducible rfl
                  rotate_left
                  · simp only [Act.put, List.setIfInBounds_toArray, List.set_cons_zero, List.set_cons_succ, i64_w, i32_w]
                    rfl
                  refine pure_ (i := 15) (N := some 47) (v := ?_) (a' := ?_) #[true, true, true, true, true, true, true, true, true, true, true, true, true, true, false, true, false, false, false, false, false, false, false, false, false, false, false, false, false, false, false, false, false, false, false, false] rfl rfl (any_of HT_.out (by kernel_rfl)) (fun _ _ _ h => h) (Or.inl ⟨by rfl, ?_⟩) ?_ ?_
                  rotate_left
                  · intro w'
                    go_simp
                    with_reducible rfl
                  rotate_left
                  · simp only [Act.put, List.setIfInBounds_toArray, List.set_cons_zero, List.set_cons_succ, i64_w, i32_w]
                    rfl
                  refine pure_ (i := 16) (N := some 48) (v := ?_) (a' := ?_) #[true, true, true, true, true, true, true, true, true, true, true, true, true, true, false, true, true, false, false, false, false, false, false, false, false, false, false, false, false, false, false, false, false, false, false, false] rfl rfl (any_of HT_.out (by kernel_rfl)) (fun _ _ _ h => h) (Or.inl ⟨by rfl, ?_⟩) ?_ ?_
                  rotate_left
                  · intro w'
                    go_simp
                    with_reducible rfl
                  rotate_left
                  · simp only [Act.put, List.setIfInBounds_toArray, List.set_cons_zero, List.set_cons_succ, i64_w, i32_w]
                    rfl
                  refine pure_ (i := 17) (N := some 49) (v := ?_) (a' := ?_) #[true, true, true, true, true, true, true, true, true, true, true, true, true, true, false, true, true, true, false, false, false, false, false, false, false, false, false, false, false, false, false, false, false, false, false, false] rfl rfl (any_of HT_.out (by kernel_rfl)) (fun _ _ _ h => h) (Or.inl ⟨by rfl, ?_⟩) ?_ ?_
                  rotate_left
                  · intro w'
                    go_simp
                    with_reducible rfl
                  rotate_left
                  · simp only [Act.put, List.setIfInBounds_toArray, List.set_cons_zero, List.set_cons_succ, i64_w, i32_w]
                    rfl
                  refine pure_ (i := 18) (N := some 50) (v := ?_) (a' := ?_) #[true, true, true, true, true, true, true, true, true, true, true, true, true, true, false, true, true, true, true, false, false, false, false, false, false, false, false, false, false, false, false, false, false, false, false, false] rfl rfl (any_of HT_.out (by kernel_rfl)) (fun _ _ _ h => h) (Or.inl ⟨by rfl, ?_⟩) ?_ ?_
                  rotate_left
                  · intro w'
                    go_simp
                    with_reducible rfl
                  rotate_left
                  · simp only [Act.put, List.setIfInBounds_toArray, List.set_cons_zero, List.set_cons_succ, i64_w, i32_w]
                    rfl
                  refine pure_ (i := 22) (N := some 54) (v := ?_) (a' := ?_) #[true, true, true, true, true, true, true, true, true, true, true, true, true, true, false, true, true, true, true, false, false, false, true, false, false, false, false, false, false, false, false, false, false, false, false, false] rfl rfl (any_of HT_.out (by kernel_rfl)) (fun _ _ _ h => h) (Or.inl ⟨by rfl, ?_⟩) ?_ ?_
                  rotate_left
                  · intro w'
                    go_simp
                    with_reducible rfl
                  rotate_left
                  · simp only [Act.put, List.setIfInBounds_toArray, List.set_cons_zero, List.set_cons_succ, i64_w, i32_w]
                    rfl
                  refine pure_ (i := 23) (N := some 55) (v := ?_) (a' := ?_) #[true, true, true, true, true, true, true, true, true, true, true, true, true, true, false, true, true, true, true, false, false, false, true, true, false, false, false, false, false, false, false, false, false, false, false, false] rfl rfl (any_of HT_.out (by kernel_rfl)) (fun _ _ _ h => h) (Or.inl ⟨by rfl, ?_⟩) ?_ ?_
                  rotate_left
                  · intro w'
                    go_simp
                    with_reducible rfl
                  rotate_left
                  · simp only [Act.put, List.setIfInBounds_toArray, List.set_cons_zero, List.set_cons_succ, i64_w, i32_w]
                    rfl
                  refine pure_ (i := 24) (N := some 56) (v := ?_) (a' := ?_) #[true, true, true, true, true, true, true, true, true, true, true, true, true, true, false, true, true, true, true, false, false, false, true, true, true, false, false, false, false, false, false, false, false, false, false, false] rfl rfl (any_of HT_.out (by kernel_rfl)) (fun _ _ _ h => h) (Or.inl ⟨by rfl, ?_⟩) ?_ ?_
                  rotate_left
                  · intro w'
                    go_simp
                    with_reducible rfl
                  rotate_left
                  · simp only [Act.put, List.setIfInBounds_toArray, List.set_cons_zero, List.set_cons_succ, i64_w, i32_w]
                    rfl
                  refine pure_ (i := 25) (N := some 57) (v := ?_) (a' := ?_) #[true, true, true, true, true, true, true, true, true, true, true, true, true, true, false, true, true, true, true, false, false, false, true, true, true, true, false, false, false, false, false, false, false, false, false, false] rfl rfl (any_of HT_.out (by kernel_rfl)) (fun _ _ _ h => h) (Or.inl ⟨by rfl, ?_⟩) ?_ ?_
                  rotate_left
                  · intro w'
                    go_simp
                    with_reducible rfl
                  rotate_left
                  · simp only [Act.put, List.setIfInBounds_toArray, List.set_cons_zero, List.set_cons_succ, i64_w, i32_w]
                    rfl
                  refine take_ (i := 14) (N := some 46) (v := ?_) (a' := ?_) #[true, true, true, true, true, true, true, true, true, true, true, true, true, true, true, true, true, true, true, false, false, false, true, true, true, true, false, false, false, false, false, false, false, false, false, false] rfl rfl (take_ofW HT_.out HW_.out (by kernel_rfl)) (fun _ _ _ h => h) (Or.inl ⟨by rfl, ?_⟩) hHeld ?_ ?_
                  rotate_left
                  · rintro w' ⟨s0, s1, s2, s3, s4, s5, s6, s7, s8, s9, s10, s11, s12, s13, s14⟩
                    go_simp
                    with_reducible rfl
                  rotate_left
                  · simp only [Act.put, List.setIfInBounds_toArray, List.set_cons_zero, List.set_cons_succ, i64_w, i32_w]
                    rfl
                  refine take_ (i := 19) (N := some 51) (v := ?_) (a' := ?_) #[true, true, true, true, true, true, true, true, true, true, true, true, true, true, true, true, true, true, true, true, false, false, true, true, true, true, false, false, false, false, false, false, false, false, false, false] rfl rfl (take_ofW HT_.out HW_.out (by kernel_rfl)) (fun _ _ _ h => h) (Or.inl ⟨by rfl, ?_⟩) hHeld ?_ ?_
                  rotate_left
                  · rintro w' ⟨s0, s1, s2, s3, s4, s5, s6, s7, s8, s9, s10, s11, s12, s13, s14⟩
                    go_simp
                    with_reducible rfl
                  rotate_left
                  · simp only [Act.put, List.setIfInBounds_toArray, List.set_cons_zero, List.set_cons_succ, i64_w, i32_w]
                    rfl
                  refine pure_ (i := 20) (N := some 52) (v := ?_) (a' := ?_) #[true, true, true, true, true, true, true, true, true, true, true, true, true, true, true, true, true, true, true, true, true, false, true, true, true, true, false, false, false, false, false, false, false, false, false, false] rfl rfl (any_of HT_.out (by kernel_rfl)) (fun _ _ _ h => h) (Or.inl ⟨by rfl, ?_⟩) ?_ ?_
                  rotate_left
                  · intro w'
                    go_simp
                    with_reducible rfl
                  rotate_left
                  · simp only [Act.put, List.setIfInBounds_toArray, List.set_cons_zero, List.set_cons_succ, i64_w, i32_w]
                    rfl
                  refine pure_ (i := 21) (N := some 53) (v := ?_) (a' := ?_) #[true, true, true, true, true, true, true, true, true, true, true, true, true, true, true, true, true, true, true, true, true, true, true, true, true, true, false, false, false, false, false, false, false, false, false, false] rfl rfl (any_of HT_.out (by kernel_rfl)) (fun _ _ _ h => h) (Or.inl ⟨by rfl, ?_⟩) ?_ ?_
                  rotate_left
                  · intro w'
                    go_simp
                    with_reducible rfl
                  rotate_left
                  · simp only [Act.put, List.setIfInBounds_toArray, List.set_cons_zero, List.set_cons_succ, i64_w, i32_w]
                    rfl
                  refine pure_ (i := 26) (N := some 58) (v := ?_) (a' := ?_) #[true, true, true, true, true, true, true, true, true, true, true, true, true, true, true, true, true, true, true, true, true, true, true, true, true, true, true, false, false, false, false, false, false, false, false, false] rfl rfl (any_of HT_.out (by kernel_rfl)) (fun _ _ _ h => h) (Or.inl ⟨by rfl, ?_⟩) ?_ ?_
                  rotate_left
                  · intro w'
                    go_simp
                    with_reducible rfl
                  rotate_left
                  · simp only [Act.put, List.setIfInBounds_toArray, List.set_cons_zero, List.set_cons_succ, i64_w, i32_w]
                    rfl
                  refine pure_ (i := 27) (N := some 59) (v := ?_) (a' := ?_) #[true, true, true, true, true, true, true, true, true, true, true, true, true, true, true, true, true, true, true, true, true, true, true, true, true, true, true, true, false, false, false, false, false, false, false, false] rfl rfl (any_of HT_.out (by kernel_rfl)) (fun _ _ _ h => h) (Or.inl ⟨by rfl, ?_⟩) ?_ ?_
                  rotate_left
                  · intro w'
                    go_simp
                    with_reducible rfl
                  rotate_left
                  · simp only [Act.put, List.setIfInBounds_toArray, List.set_cons_zero, List.set_cons_succ, i64_w, i32_w]
                    rfl
                  refine pure_ (i := 28) (N := some 60) (v := ?_) (a' := ?_) #[true, true, true, true, true, true, true, true, true, true, true, true, true, true, true, true, true, true, true, true, true, true, true, true, true, true, true, true, true, false, false, false, false, false, false, false] rfl rfl (any_of HT_.out (by kernel_rfl)) (fun _ _ _ h => h) (Or.inl ⟨by rfl, ?_⟩) ?_ ?_
                  rotate_left
                  · intro w'
                    go_simp
                    with_reducible rfl
                  rotate_left
                  · simp only [Act.put, List.setIfInBounds_toArray, List.set_cons_zero, List.set_cons_succ, i64_w, i32_w]
                    rfl
                  refine pure_ (i := 29) (N := some 61) (v := ?_) (a' := ?_) #[true, true, true, true, true, true, true, true, true, true, true, true, true, true, true, true, true, true, true, true, true, true, true, true, true, true, true, true, true, true, false, false, false, false, false, false] rfl rfl (any_of HT_.out (by kernel_rfl)) (fun _ _ _ h => h) (Or.inl ⟨by rfl, ?_⟩) ?_ ?_
                  rotate_left
                  · intro w'
                    go_simp
                    with_reducible rfl
                  rotate_left
                  · simp only [Act.put, List.setIfInBounds_toArray, List.set_cons_zero, List.set_cons_succ, i64_w, i32_w]
                    rfl
                  refine pure_ (i := 30) (N := some 62) (v := ?_) (a' := ?_) #[true, true, true, true, true, true, true, true, true, true, true, true, true, true, true, true, true, true, true, true, true, true, true, true, true, true, true, true, true, true, true, false, false, false, false, false] rfl rfl (any_of HT_.out (by kernel_rfl)) (fun _ _ _ h => h) (Or.inl ⟨by rfl, ?_⟩) ?_ ?_
                  rotate_left
                  · intro w'
                    go_simp
                    with_reducible rfl
                  rotate_left
                  · simp only [Act.put, List.setIfInBounds_toArray, List.set_cons_zero, List.set_cons_succ, i64_w, i32_w]
                    rfl
                  refine pure_ (i := 31) (N := some 63) (v := ?_) (a' := ?_) #[true, true, true, true, true, true, true, true, true, true, true, true, true, true, true, true, true, true, true, true, true, true, true, true, true, true, true, true, true, true, true, true, false, false, false, false] rfl rfl (any_of HT_.out (by kernel_rfl)) (fun _ _ _ h => h) (Or.inl ⟨by rfl, ?_⟩) ?_ ?_
                  rotate_left
                  · intro w'
                    go_simp
                    with_reducible rfl
                  rotate_left
                  · simp only [Act.put, List.setIfInBounds_toArray, List.set_cons_zero, List.set_cons_succ, i64_w, i32_w]
                    rfl
                  refine pure_ (i := 32) (N := some 64) (v := ?_) (a' := ?_) #[true, true, true, true, true, true, true, true, true, true, true, true, true, true, true, true, true, true, true, true, true, true, true, true, true, true, true, true, true, true, true, true, true, false, false, false] rfl rfl (any_of HT_.out (by kernel_rfl)) (fun _ _ _ h => h) (Or.inl ⟨by rfl, ?_⟩) ?_ ?_
                  rotate_left
                  · intro w'
                    go_simp
                    with_reducible rfl
                  rotate_left
                  · simp only [Act.put, List.setIfInBounds_toArray, List.set_cons_zero, List.set_cons_succ, i64_w, i32_w]
                    rfl
                  refine take_ (i := 33) (N := some 65) (v := ?_) (a' := ?_) #[true, true, true, true, true, true, true, true, true, true, true, true, true, true, true, true, true, true, true, true, true, true, true, true, true, true, true, true, true, true, true, true, true, true, false, false] rfl rfl (take_ofW HT_.out HW_.out (by kernel_rfl)) (fun _ _ _ h => h) (Or.inl ⟨by rfl, ?_⟩) hHeld ?_ ?_
                  rotate_left
                  · rintro w' ⟨s0, s1, s2, s3, s4, s5, s6, s7, s8, s9, s10, s11, s12, s13, s14⟩
                    go_simp
                    with_reducible rfl
                  rotate_left
                  · simp only [Act.put, List.setIfInBounds_toArray, List.set_cons_zero, List.set_cons_succ, i64_w, i32_w]
                    rfl
                  refine pure_ (i := 34) (N := some 66) (v := ?_) (a' := ?_) #[true, true, true, true, true, true, true, true, true, true, true, true, true, true, true, true, true, true, true, true, true, true, true, true, true, true, true, true, true, true, true, true, true, true, true, false] rfl rfl (any_of HT_.out (by kernel_rfl)) (fun _ _ _ h => h) (Or.inl ⟨by rfl, ?_⟩) ?_ ?_
                  rotate_left
                  · intro w'
                    go_simp
                    with_reducible rfl
                  rotate_left
                  · simp only [Act.put, List.setIfInBounds_toArray, List.set_cons_zero, List.set_cons_succ, i64_w, i32_w]
                    rfl
                  refine pure_ (i := 35) (N := some 67) (v := ?_) (a' := ?_) #[true, true, true, true, true, true, true, true, true, true, true, true, true, true, true, true, true, true, true, true, true, true, true, true, true, true, true, true, true, true, true, true, true, true, true, true] rfl rfl (any_of HT_.out (by kernel_rfl)) (fun _ _ _ h => h) (Or.inl ⟨by rfl, ?_⟩) ?_ ?_
                  rotate_left
                  · intro w'
                    go_simp
                    with_reducible rfl
                  rotate_left
                  · simp only [Act.put, List.setIfInBounds_toArray, List.set_cons_zero, List.set_cons_succ, i64_w, i32_w]
                    rfl
                  refine done_ (done_of HT_.out (by kernel_rfl)) ?_
                  have p325 : 0 ≤ (x11_1 : Int) := of_decide_eq_true (by first | (with_reducible assumption) | assumption)
                  have q325 : x11_1 < (t318.length : Int) := of_decide_eq_true (by first | (with_reducible assumption) | assumption)
                  obtain ⟨ad325, e325, hx325_0, hx325_1, hx325_2⟩ := at_T37 (Kd.R_reads' HO_9.out).2.2 x11_1 p325 q325
                  obtain rfl : ad321 = ad325 := (by injection e325)
                  replace p325 := eq_true p325
                  replace q325 := eq_true q325
                  try go_wp2
                  go_roundg k1
                  case measure => have := HK1.out; omega
                  case rel => exact ⟨((rd_T37 t318 x11_1).f1), (wrap64 (x11_1 + 1)), (by first | rfl | (simp; done) | (simp [*]; done)), (by first | rfl | (simp; done) | (simp [*]; done)), H', ⟨by have := HK1.out; omega⟩, ⟨by (with_reducible repeat (first | apply Kd.R_alloc | apply Kd.R_drewN | apply Kd.R_drew)); exact HO_9.out⟩, ⟨by (with_reducible repeat (first | refine blk_drewN ?_ _ | refine blk_drew ?_ | refine blk_alloc ?_ _)); exact BK314.out⟩, ⟨by (with_reducible repeat (first | refine blk_drewN ?_ _ | refine blk_drew ?_ | refine blk_alloc ?_ _)); exact BK315.out⟩, ⟨by repeat (first | (with_reducible first | exact HB.out | apply below_alloc | apply pw_below_drewN | apply below_drew1 | refine below_set ?_ GE314.out | refine below_set ?_ GE315.out) | exact HB.out)⟩⟩
                · rw [if_neg c25] at H
                  have c25b0 : (((rd_T37 t318 x11_1).f2) == 0) = false := beq_eq_false_iff_ne.mpr c25
                  have c25b1 : (((rd_T37 t318 x11_1).f2) != 0) = true := bne_iff_ne.mpr c25
                  exact absurd HT.out (by rw [← Option.some.inj H]; decide)
          · rw [if_neg c20] at H
            exact absurd H (by simp)
        · rw [if_neg c19] at H
          have c19b0 : decide (x11_1 < (t318.length : Int)) = false := decide_eq_false c19
          clear c19
          have H1 : ((braking_Duration.f k1 a0_0 a0_1 a0_2 0 (Int.tmod (wrap64 (a2)) 8) 0 0).bind fun t328 => ((braking_Duration.f k1 a0_0 a0_1 a0_2 0 (wrap64 ((Int.tmod (wrap64 (a2)) 8) + 1)) 0 0).bind fun t329 => (if t328 ≤ t329 then ((braking_Distance.f k1 a0_0 a0_1 a0_2 0 (Int.tmod (wrap64 (a2)) 8) 0 0).bind fun t330 => ((braking_Distance.f k1 a0_0 a0_1 a0_2 0 (wrap64 ((Int.tmod (wrap64 (a2)) 8) + 1)) 0 0).bind fun t331 => (some (decide (t330 ≤ t331))))) else (some false)))) = some r := by first | (rw [if_pos rfl] at H; exact H) | (rw [if_pos True.intro] at H; exact H)
          clear H
          have H := H1
          clear H1
          replace H := Option.bind_eq_some_iff.mp H
          obtain ⟨t328, A280, H⟩ := H
          replace H : ((braking_Duration.f k1 a0_0 a0_1 a0_2 0 (wrap64 ((Int.tmod (wrap64 (a2)) 8) + 1)) 0 0).bind fun t329 => (if t328 ≤ t329 then ((braking_Distance.f k1 a0_0 a0_1 a0_2 0 (Int.tmod (wrap64 (a2)) 8) 0 0).bind fun t330 => ((braking_Distance.f k1 a0_0 a0_1 a0_2 0 (wrap64 ((Int.tmod (wrap64 (a2)) 8) + 1)) 0 0).bind fun t331 => (some (decide (t330 ≤ t331))))) else (some false))) = some r := H
          have A28 := Aside0.mk A280
          clear A280
          replace H := Option.bind_eq_some_iff.mp H
          obtain ⟨t329, A290, H⟩ := H
          replace H : (if t328 ≤ t329 then ((braking_Distance.f k1 a0_0 a0_1 a0_2 0 (Int.tmod (wrap64 (a2)) 8) 0 0).bind fun t330 => ((braking_Distance.f k1 a0_0 a0_1 a0_2 0 (wrap64 ((Int.tmod (wrap64 (a2)) 8) + 1)) 0 0).bind fun t331 => (some (decide (t330 ≤ t331))))) else (some false)) = some r := H
          have A29 := Aside0.mk A290
          clear A290
          by_cases c30 : t328 ≤ t329
          · rw [if_pos c30] at H
            have c30b0 : decide (t328 ≤ t329) = true := decide_eq_true c30
            clear c30
            replace H := Option.bind_eq_some_iff.mp H
            obtain ⟨t330, A310, H⟩ := H
            replace H : ((braking_Distance.f k1 a0_0 a0_1 a0_2 0 (wrap64 ((Int.tmod (wrap64 (a2)) 8) + 1)) 0 0).bind fun t331 => (some (decide (t330 ≤ t331)))) = some r := H
            have A31 := Aside0.mk A310
            clear A310
            replace H := Option.bind_eq_some_iff.mp H
            obtain ⟨t331, A320, H⟩ := H
            replace H : (some (decide (t330 ≤ t331))) = some r := H
            have A32 := Aside0.mk A320
            clear A320
            obtain rfl := Option.some.inj H
            obtain ⟨Ao33, co33, eo33⟩ := Kd.R_slice HO_9.out
            subst eo33
            try go_wp2_with (first | ((with_reducible refine gate_dst (N := 12) rfl ?_); (try (refine gate_guard (by rfl) ?_; dsimp only)); refine box_event ?hg (N := 12) ?hd (cs := #[.int .i64 0, .int .i64 0, .int .i64 0]) (t := 37) ?hr ?_; (case hd => rfl); (case hg => rfl); (case hr => first | (go_simp; done) | (go_simp; rfl)); intro gb326 hg w34 hbox hb; have n0_ := Aside0.mk (Kd.R_below (Kd.R_elderB (by (with_reducible repeat (first | apply Kd.R_alloc | apply Kd.R_drewN | apply Kd.R_drew)); exact HO_9.out) gb326 (Nat.le_of_eq hg.symm)) hb); have n1_ := Aside0.mk (blk_below (g := gb314) (o := .cells #[.int .i64 a0_0, .int .i64 a0_1, .int .i64 a0_2] 23 (0, 0)) (by (with_reducible repeat (first | refine blk_drewN ?_ _ | refine blk_drew ?_ | refine blk_alloc ?_ _)); exact BK314.out) hb); have n2_ := Aside0.mk (blk_below (g := gb315) (o := .cells #[.int .i64 a1_0, .int .i64 a1_1, .int .i64 a1_2] 37 (0, 0)) (by (with_reducible repeat (first | refine blk_drewN ?_ _ | refine blk_drew ?_ | refine blk_alloc ?_ _)); exact BK315.out) hb); have n3_ := Aside0.mk (below_step (by repeat (first | (with_reducible first | exact HB.out | apply below_alloc | apply pw_below_drewN | apply below_drew1 | refine below_set ?_ GE314.out | refine below_set ?_ GE315.out) | exact HB.out)) hb); have n4_ := Aside0.mk (hbox); have n5_ := Aside0.mk ((by rw [hg]; exact (below_size (by repeat (first | (with_reducible first | exact HB.out | apply below_alloc | apply pw_below_drewN | apply below_drew1 | refine below_set ?_ GE314.out | refine below_set ?_ GE315.out) | exact HB.out))) : w.heap.size ≤ gb326)); have n6_ := Aside0.mk ((by rw [hg]; exact (below_size (by repeat (first | (with_reducible first | exact HB.out | apply below_alloc | apply pw_below_drewN | apply below_drew1 | refine below_set ?_ GE314.out | refine below_set ?_ GE315.out) | exact HB.out))) : w.heap.size ≤ gb326)); have n7_ := Aside0.mk ((by rw [hg]; exact Nat.ne_of_lt (blk_lt (g := gb314) (o := .cells #[.int .i64 a0_0, .int .i64 a0_1, .int .i64 a0_2] 23 (0, 0)) (by (with_reducible repeat (first | refine blk_drewN ?_ _ | refine blk_drew ?_ | refine blk_alloc ?_ _)); exact BK314.out)) : gb314 ≠ gb326)); have n8_ := Aside0.mk ((by rw [hg]; exact Nat.ne_of_gt (blk_lt (g := gb314) (o := .cells #[.int .i64 a0_0, .int .i64 a0_1, .int .i64 a0_2] 23 (0, 0)) (by (with_reducible repeat (first | refine blk_drewN ?_ _ | refine blk_drew ?_ | refine blk_alloc ?_ _)); exact BK314.out)) : gb326 ≠ gb314)); have n9_ := Aside0.mk ((by rw [hg]; exact Nat.ne_of_lt (blk_lt (g := gb315) (o := .cells #[.int .i64 a1_0, .int .i64 a1_1, .int .i64 a1_2] 37 (0, 0)) (by (with_reducible repeat (first | refine blk_drewN ?_ _ | refine blk_drew ?_ | refine blk_alloc ?_ _)); exact BK315.out)) : gb315 ≠ gb326)); have n10_ := Aside0.mk ((by rw [hg]; exact Nat.ne_of_gt (blk_lt (g := gb315) (o := .cells #[.int .i64 a1_0, .int .i64 a1_1, .int .i64 a1_2] 37 (0, 0)) (by (with_reducible repeat (first | refine blk_drewN ?_ _ | refine blk_drew ?_ | refine blk_alloc ?_ _)); exact BK315.out)) : gb326 ≠ gb315)); clear HO_9; clear BK314; clear BK315; clear HB; have HO_9 := n0_; have BK314 := n1_; have BK315 := n2_; have HB := n3_; have BK326 := n4_; have GW326 := n5_; have GE326 := n6_; have NB314_326 := n7_; have NB326_314 := n8_; have NB315_326 := n9_; have NB326_315 := n10_; clear n0_ n1_ n2_ n3_ n4_ n5_ n6_ n7_ n8_ n9_ n10_; clear hb hbox hg; have hnb35 := NB326_314.out; have hnc35 := NB314_326.out; have hnb36 := NB326_315.out; have hnc36 := NB315_326.out; have hcz37_0 : w34.cell? ⟨gb326, 0, none⟩ = some (.int .i64 0) := (blk_cell BK326.out 0).trans rfl; have hcz37_1 : w34.cell? ⟨gb326, 1, none⟩ = some (.int .i64 0) := (blk_cell BK326.out 1).trans rfl; have hcz37_2 : w34.cell? ⟨gb326, 2, none⟩ = some (.int .i64 0) := (blk_cell BK326.out 2).trans rfl; have hfz37_0 := blk_frozen BK326.out 0; have hfz37_1 := blk_frozen BK326.out 1; have hfz37_2 := blk_frozen BK326.out 2) | ((with_reducible refine gate_dst (N := 13) rfl ?_); (try (refine gate_guard (by rfl) ?_; dsimp only)); refine box_event ?hg (N := 13) ?hd (cs := #[.int .i64 0, .int .i64 0, .int .i64 0]) (t := 37) ?hr ?_; (case hd => rfl); (case hg => rfl); (case hr => first | (go_simp; done) | (go_simp; rfl)); intro gb327 hg w38 hbox hb; have n0_ := Aside0.mk (Kd.R_below (Kd.R_elderB (by (with_reducible repeat (first | apply Kd.R_alloc | apply Kd.R_drewN | apply Kd.R_drew)); exact (Kd.R_mono (Kd.R_far (p := ⟨gb326, 2, none⟩) (Kd.R_far (p := ⟨gb326, 1, none⟩) (Kd.R_far (p := ⟨gb326, 0, none⟩) (Kd.R_mono HO_9.out (fun k_ hk => (⟨hk, hk.2⟩ : _ ∧ k_ ≠ gb326))) (fun _ hk => hk.2) (.int .i64 0)) (fun _ hk => hk.2) (.int .i64 (Int.tmod (wrap64 (a2)) 8))) (fun _ hk => hk.2) (.int .i64 0)) (fun _ h_ => h_.1))) gb327 (Nat.le_of_eq hg.symm)) hb); have n1_ := Aside0.mk (blk_below (g := gb314) (o := .cells #[.int .i64 a0_0, .int .i64 a0_1, .int .i64 a0_2] 23 (0, 0)) (by (with_reducible repeat (first | refine blk_drewN ?_ _ | refine blk_drew ?_ | refine blk_alloc ?_ _)); refine blk_far ?_ NB314_326.out _; (with_reducible repeat (first | refine blk_drewN ?_ _ | refine blk_drew ?_ | refine blk_alloc ?_ _)); refine blk_far ?_ NB314_326.out _; (with_reducible repeat (first | refine blk_drewN ?_ _ | refine blk_drew ?_ | refine blk_alloc ?_ _)); refine blk_far ?_ NB314_326.out _; (with_reducible repeat (first | refine blk_drewN ?_ _ | refine blk_drew ?_ | refine blk_alloc ?_ _)); exact BK314.out) hb); have n2_ := Aside0.mk (blk_below (g := gb315) (o := .cells #[.int .i64 a1_0, .int .i64 a1_1, .int .i64 a1_2] 37 (0, 0)) (by (with_reducible repeat (first | refine blk_drewN ?_ _ | refine blk_drew ?_ | refine blk_alloc ?_ _)); refine blk_far ?_ NB315_326.out _; (with_reducible repeat (first | refine blk_drewN ?_ _ | refine blk_drew ?_ | refine blk_alloc ?_ _)); refine blk_far ?_ NB315_326.out _; (with_reducible repeat (first | refine blk_drewN ?_ _ | refine blk_drew ?_ | refine blk_alloc ?_ _)); refine blk_far ?_ NB315_326.out _; (with_reducible repeat (first | refine blk_drewN ?_ _ | refine blk_drew ?_ | refine blk_alloc ?_ _)); exact BK315.out) hb); have n3_ := Aside0.mk (blk_below (g := gb326) (o := .cells #[.int .i64 0, .int .i64 (Int.tmod (wrap64 (a2)) 8), .int .i64 0] 37 (0, 0)) (by (with_reducible repeat (first | refine blk_drewN ?_ _ | refine blk_drew ?_ | refine blk_alloc ?_ _)); refine blk_put (cs := #[.int .i64 0, .int .i64 (Int.tmod (wrap64 (a2)) 8), .int .i64 0]) ?_ 2 _ rfl; (with_reducible repeat (first | refine blk_drewN ?_ _ | refine blk_drew ?_ | refine blk_alloc ?_ _)); refine blk_put (cs := #[.int .i64 0, .int .i64 0, .int .i64 0]) ?_ 1 _ rfl; (with_reducible repeat (first | refine blk_drewN ?_ _ | refine blk_drew ?_ | refine blk_alloc ?_ _)); refine blk_put (cs := #[.int .i64 0, .int .i64 0, .int .i64 0]) ?_ 0 _ rfl; (with_reducible repeat (first | refine blk_drewN ?_ _ | refine blk_drew ?_ | refine blk_alloc ?_ _)); exact BK326.out) hb); have n4_ := Aside0.mk (below_step (by repeat (first | (with_reducible first | exact HB.out | apply below_alloc | apply pw_below_drewN | apply below_drew1 | refine below_set ?_ GE314.out | refine below_set ?_ GE315.out | refine below_set ?_ GE326.out) | exact HB.out)) hb); have n5_ := Aside0.mk (hbox); have n6_ := Aside0.mk ((by rw [hg]; exact (below_size (by repeat (first | (with_reducible first | exact HB.out | apply below_alloc | apply pw_below_drewN | apply below_drew1 | refine below_set ?_ GE314.out | refine below_set ?_ GE315.out | refine below_set ?_ GE326.out) | exact HB.out))) : w.heap.size ≤ gb327)); have n7_ := Aside0.mk ((by rw [hg]; exact (below_size (by repeat (first | (with_reducible first | exact HB.out | apply below_alloc | apply pw_below_drewN | apply below_drew1 | refine below_set ?_ GE314.out | refine below_set ?_ GE315.out | refine below_set ?_ GE326.out) | exact HB.out))) : w.heap.size ≤ gb327)); have n8_ := Aside0.mk ((by rw [hg]; exact Nat.ne_of_lt (blk_lt (g := gb314) (o := .cells #[.int .i64 a0_0, .int .i64 a0_1, .int .i64 a0_2] 23 (0, 0)) (by (with_reducible repeat (first | refine blk_drewN ?_ _ | refine blk_drew ?_ | refine blk_alloc ?_ _)); refine blk_far ?_ NB314_326.out _; (with_reducible repeat (first | refine blk_drewN ?_ _ | refine blk_drew ?_ | refine blk_alloc ?_ _)); refine blk_far ?_ NB314_326.out _; (with_reducible repeat (first | refine blk_drewN ?_ _ | refine blk_drew ?_ | refine blk_alloc ?_ _)); refine blk_far ?_ NB314_326.out _; (with_reducible repeat (first | refine blk_drewN ?_ _ | refine blk_drew ?_ | refine blk_alloc ?_ _)); exact BK314.out)) : gb314 ≠ gb327)); have n9_ := Aside0.mk ((by rw [hg]; exact Nat.ne_of_gt (blk_lt (g := gb314) (o := .cells #[.int .i64 a0_0, .int .i64 a0_1, .int .i64 a0_2] 23 (0, 0)) (by (with_reducible repeat (first | refine blk_drewN ?_ _ | refine blk_drew ?_ | refine blk_alloc ?_ _)); refine blk_far ?_ NB314_326.out _; (with_reducible repeat (first | refine blk_drewN ?_ _ | refine blk_drew ?_ | refine blk_alloc ?_ _)); refine blk_far ?_ NB314_326.out _; (with_reducible repeat (first | refine blk_drewN ?_ _ | refine blk_drew ?_ | refine blk_alloc ?_ _)); refine blk_far ?_ NB314_326.out _; (with_reducible repeat (first | refine blk_drewN ?_ _ | refine blk_drew ?_ | refine blk_alloc ?_ _)); exact BK314.out)) : gb327 ≠ gb314)); have n10_ := Aside0.mk ((by rw [hg]; exact Nat.ne_of_lt (blk_lt (g := gb315) (o := .cells #[.int .i64 a1_0, .int .i64 a1_1, .int .i64 a1_2] 37 (0, 0)) (by (with_reducible repeat (first | refine blk_drewN ?_ _ | refine blk_drew ?_ | refine blk_alloc ?_ _)); refine blk_far ?_ NB315_326.out _; (with_reducible repeat (first | refine blk_drewN ?_ _ | refine blk_drew ?_ | refine blk_alloc ?_ _)); refine blk_far ?_ NB315_326.out _; (with_reducible repeat (first | refine blk_drewN ?_ _ | refine blk_drew ?_ | refine blk_alloc ?_ _)); refine blk_far ?_ NB315_326.out _; (with_reducible repeat (first | refine blk_drewN ?_ _ | refine blk_drew ?_ | refine blk_alloc ?_ _)); exact BK315.out)) : gb315 ≠ gb327)); have n11_ := Aside0.mk ((by rw [hg]; exact Nat.ne_of_gt (blk_lt (g := gb315) (o := .cells #[.int .i64 a1_0, .int .i64 a1_1, .int .i64 a1_2] 37 (0, 0)) (by (with_reducible repeat (first | refine blk_drewN ?_ _ | refine blk_drew ?_ | refine blk_alloc ?_ _)); refine blk_far ?_ NB315_326.out _; (with_reducible repeat (first | refine blk_drewN ?_ _ | refine blk_drew ?_ | refine blk_alloc ?_ _)); refine blk_far ?_ NB315_326.out _; (with_reducible repeat (first | refine blk_drewN ?_ _ | refine blk_drew ?_ | refine blk_alloc ?_ _)); refine blk_far ?_ NB315_326.out _; (with_reducible repeat (first | refine blk_drewN ?_ _ | refine blk_drew ?_ | refine blk_alloc ?_ _)); exact BK315.out)) : gb327 ≠ gb315)); have n12_ := Aside0.mk ((by rw [hg]; exact Nat.ne_of_lt (blk_lt (g := gb326) (o := .cells #[.int .i64 0, .int .i64 (Int.tmod (wrap64 (a2)) 8), .int .i64 0] 37 (0, 0)) (by (with_reducible repeat (first | refine blk_drewN ?_ _ | refine blk_drew ?_ | refine blk_alloc ?_ _)); refine blk_put (cs := #[.int .i64 0, .int .i64 (Int.tmod (wrap64 (a2)) 8), .int .i64 0]) ?_ 2 _ rfl; (with_reducible repeat (first | refine blk_drewN ?_ _ | refine blk_drew ?_ | refine blk_alloc ?_ _)); refine blk_put (cs := #[.int .i64 0, .int .i64 0, .int .i64 0]) ?_ 1 _ rfl; (with_reducible repeat (first | refine blk_drewN ?_ _ | refine blk_drew ?_ | refine blk_alloc ?_ _)); refine blk_put (cs := #[.int .i64 0, .int .i64 0, .int .i64 0]) ?_ 0 _ rfl; (with_reducible repeat (first | refine blk_drewN ?_ _ | refine blk_drew ?_ | refine blk_alloc ?_ _)); exact BK326.out)) : gb326 ≠ gb327)); have n13_ := Aside0.mk ((by rw [hg]; exact Nat.ne_of_gt (blk_lt (g := gb326) (o := .cells #[.int .i64 0, .int .i64 (Int.tmod (wrap64 (a2)) 8), .int .i64 0] 37 (0, 0)) (by (with_reducible repeat (first | refine blk_drewN ?_ _ | refine blk_drew ?_ | refine blk_alloc ?_ _)); refine blk_put (cs := #[.int .i64 0, .int .i64 (Int.tmod (wrap64 (a2)) 8), .int .i64 0]) ?_ 2 _ rfl; (with_reducible repeat (first | refine blk_drewN ?_ _ | refine blk_drew ?_ | refine blk_alloc ?_ _)); refine blk_put (cs := #[.int .i64 0, .int .i64 0, .int .i64 0]) ?_ 1 _ rfl; (with_reducible repeat (first | refine blk_drewN ?_ _ | refine blk_drew ?_ | refine blk_alloc ?_ _)); refine blk_put (cs := #[.int .i64 0, .int .i64 0, .int .i64 0]) ?_ 0 _ rfl; (with_reducible repeat (first | refine blk_drewN ?_ _ | refine blk_drew ?_ | refine blk_alloc ?_ _)); exact BK326.out)) : gb327 ≠ gb326)); clear HO_9; clear BK314; clear BK315; clear BK326; clear HB; have HO_9 := n0_; have BK314 := n1_; have BK315 := n2_; have BK326 := n3_; have HB := n4_; have BK327 := n5_; have GW327 := n6_; have GE327 := n7_; have NB314_327 := n8_; have NB327_314 := n9_; have NB315_327 := n10_; have NB327_315 := n11_; have NB326_327 := n12_; have NB327_326 := n13_; clear n0_ n1_ n2_ n3_ n4_ n5_ n6_ n7_ n8_ n9_ n10_ n11_ n12_ n13_; clear hb hbox hg; have hnb39 := NB327_314.out; have hnc39 := NB314_327.out; have hnb40 := NB327_315.out; have hnc40 := NB315_327.out; have hnb41 := NB327_326.out; have hnc41 := NB326_327.out; have hcz42_0 : w38.cell? ⟨gb327, 0, none⟩ = some (.int .i64 0) := (blk_cell BK327.out 0).trans rfl; have hcz42_1 : w38.cell? ⟨gb327, 1, none⟩ = some (.int .i64 0) := (blk_cell BK327.out 1).trans rfl; have hcz42_2 : w38.cell? ⟨gb327, 2, none⟩ = some (.int .i64 0) := (blk_cell BK327.out 2).trans rfl; have hfz42_0 := blk_frozen BK327.out 0; have hfz42_1 := blk_frozen BK327.out 1; have hfz42_2 := blk_frozen BK327.out 2))
            have n0_ : Aside0 (Kd.R k37 37 (((w38.setCell ⟨gb327, 0, none⟩ (.int .i64 0)).setCell ⟨gb327, 1, none⟩ (.int .i64 (wrap64 ((Int.tmod (wrap64 (a2)) 8) + 1)))).setCell ⟨gb327, 2, none⟩ (.int .i64 0)) w.heap.size (fun k_ => k_ ≠ gb315 ∧ k_ ≠ gb326 ∧ k_ ≠ gb327) (.slice Ao33 t318.length co33) t318) := ⟨by (with_reducible repeat (first | apply Kd.R_alloc | apply Kd.R_drewN | apply Kd.R_drew)); exact Kd.R_mono (Kd.R_far (p := ⟨gb327, 2, none⟩) (Kd.R_far (p := ⟨gb327, 1, none⟩) (Kd.R_far (p := ⟨gb327, 0, none⟩) (Kd.R_mono HO_9.out (fun k_ hk => (⟨hk, hk.2⟩ : _ ∧ k_ ≠ gb327))) (fun _ hk => hk.2) (.int .i64 0)) (fun _ hk => hk.2) (.int .i64 (wrap64 ((Int.tmod (wrap64 (a2)) 8) + 1)))) (fun _ hk => hk.2) (.int .i64 0)) (fun _ hk => ⟨hk.1.1.1, ⟨hk.1.1.2, hk.1.2⟩⟩)⟩
            have n1_ : Aside0 ((((w38.setCell ⟨gb327, 0, none⟩ (.int .i64 0)).setCell ⟨gb327, 1, none⟩ (.int .i64 (wrap64 ((Int.tmod (wrap64 (a2)) 8) + 1)))).setCell ⟨gb327, 2, none⟩ (.int .i64 0)).heap[gb314]? = some (.cells #[.int .i64 a0_0, .int .i64 a0_1, .int .i64 a0_2] 23 (0, 0))) := ⟨by (with_reducible repeat (first | refine blk_drewN ?_ _ | refine blk_drew ?_ | refine blk_alloc ?_ _)); refine blk_far ?_ NB314_327.out _; (with_reducible repeat (first | refine blk_drewN ?_ _ | refine blk_drew ?_ | refine blk_alloc ?_ _)); refine blk_far ?_ NB314_327.out _; (with_reducible repeat (first | refine blk_drewN ?_ _ | refine blk_drew ?_ | refine blk_alloc ?_ _)); refine blk_far ?_ NB314_327.out _; (with_reducible repeat (first | refine blk_drewN ?_ _ | refine blk_drew ?_ | refine blk_alloc ?_ _)); exact BK314.out⟩
            have n2_ : Aside0 ((((w38.setCell ⟨gb327, 0, none⟩ (.int .i64 0)).setCell ⟨gb327, 1, none⟩ (.int .i64 (wrap64 ((Int.tmod (wrap64 (a2)) 8) + 1)))).setCell ⟨gb327, 2, none⟩ (.int .i64 0)).heap[gb315]? = some (.cells #[.int .i64 a1_0, .int .i64 a1_1, .int .i64 a1_2] 37 (0, 0))) := ⟨by (with_reducible repeat (first | refine blk_drewN ?_ _ | refine blk_drew ?_ | refine blk_alloc ?_ _)); refine blk_far ?_ NB315_327.out _; (with_reducible repeat (first | refine blk_drewN ?_ _ | refine blk_drew ?_ | refine blk_alloc ?_ _)); refine blk_far ?_ NB315_327.out _; (with_reducible repeat (first | refine blk_drewN ?_ _ | refine blk_drew ?_ | refine blk_alloc ?_ _)); refine blk_far ?_ NB315_327.out _; (with_reducible repeat (first | refine blk_drewN ?_ _ | refine blk_drew ?_ | refine blk_alloc ?_ _)); exact BK315.out⟩
            have n3_ : Aside0 ((((w38.setCell ⟨gb327, 0, none⟩ (.int .i64 0)).setCell ⟨gb327, 1, none⟩ (.int .i64 (wrap64 ((Int.tmod (wrap64 (a2)) 8) + 1)))).setCell ⟨gb327, 2, none⟩ (.int .i64 0)).heap[gb326]? = some (.cells #[.int .i64 0, .int .i64 (Int.tmod (wrap64 (a2)) 8), .int .i64 0] 37 (0, 0))) := ⟨by (with_reducible repeat (first | refine blk_drewN ?_ _ | refine blk_drew ?_ | refine blk_alloc ?_ _)); refine blk_far ?_ NB326_327.out _; (with_reducible repeat (first | refine blk_drewN ?_ _ | refine blk_drew ?_ | refine blk_alloc ?_ _)); refine blk_far ?_ NB326_327.out _; (with_reducible repeat (first | refine blk_drewN ?_ _ | refine blk_drew ?_ | refine blk_alloc ?_ _)); refine blk_far ?_ NB326_327.out _; (with_reducible repeat (first | refine blk_drewN ?_ _ | refine blk_drew ?_ | refine blk_alloc ?_ _)); exact BK326.out⟩
            have n4_ : Aside0 ((((w38.setCell ⟨gb327, 0, none⟩ (.int .i64 0)).setCell ⟨gb327, 1, none⟩ (.int .i64 (wrap64 ((Int.tmod (wrap64 (a2)) 8) + 1)))).setCell ⟨gb327, 2, none⟩ (.int .i64 0)).heap[gb327]? = some (.cells #[.int .i64 0, .int .i64 (wrap64 ((Int.tmod (wrap64 (a2)) 8) + 1)), .int .i64 0] 37 (0, 0))) := ⟨by (with_reducible repeat (first | refine blk_drewN ?_ _ | refine blk_drew ?_ | refine blk_alloc ?_ _)); refine blk_put (cs := #[.int .i64 0, .int .i64 (wrap64 ((Int.tmod (wrap64 (a2)) 8) + 1)), .int .i64 0]) ?_ 2 _ rfl; (with_reducible repeat (first | refine blk_drewN ?_ _ | refine blk_drew ?_ | refine blk_alloc ?_ _)); refine blk_put (cs := #[.int .i64 0, .int .i64 0, .int .i64 0]) ?_ 1 _ rfl; (with_reducible repeat (first | refine blk_drewN ?_ _ | refine blk_drew ?_ | refine blk_alloc ?_ _)); refine blk_put (cs := #[.int .i64 0, .int .i64 0, .int .i64 0]) ?_ 0 _ rfl; (with_reducible repeat (first | refine blk_drewN ?_ _ | refine blk_drew ?_ | refine blk_alloc ?_ _)); exact BK327.out⟩
            have n5_ : Aside0 (Below w.heap.size w (((w38.setCell ⟨gb327, 0, none⟩ (.int .i64 0)).setCell ⟨gb327, 1, none⟩ (.int .i64 (wrap64 ((Int.tmod (wrap64 (a2)) 8) + 1)))).setCell ⟨gb327, 2, none⟩ (.int .i64 0))) := ⟨by repeat (first | (with_reducible first | exact HB.out | apply below_alloc | apply pw_below_drewN | apply below_drew1 | refine below_set ?_ GE314.out | refine below_set ?_ GE315.out | refine below_set ?_ GE326.out | refine below_set ?_ GE327.out) | exact HB.out)⟩
            (try clear HO_9)
            (try clear BK314)
            (try clear BK315)
            (try clear BK326)
            (try clear BK327)
            (try clear HB)
            generalize (((w38.setCell ⟨gb327, 0, none⟩ (.int .i64 0)).setCell ⟨gb327, 1, none⟩ (.int .i64 (wrap64 ((Int.tmod (wrap64 (a2)) 8) + 1)))).setCell ⟨gb327, 2, none⟩ (.int .i64 0)) = w43 at n0_ n1_ n2_ n3_ n4_ n5_ ⊢
            have HO_9 := n0_
            have BK314 := n1_
            have BK315 := n2_
            have BK326 := n3_
            have BK327 := n4_
            have HB := n5_
            clear n0_ n1_ n2_ n3_ n4_ n5_
            have n0_ := Aside0.mk (Kd.R_drew HO_9.out)
            have n1_ := Aside0.mk (blk_drew BK314.out)
            have n2_ := Aside0.mk (blk_drew BK315.out)
            have n3_ := Aside0.mk (blk_drew BK326.out)
            have n4_ := Aside0.mk (blk_drew BK327.out)
            have n5_ := Aside0.mk (below_drew1 HB.out)
            clear HO_9
            clear BK314
            clear BK315
            clear BK326
            clear BK327
            clear HB
            have HO_9 := n0_
            have BK314 := n1_
            have BK315 := n2_
            have BK326 := n3_
            have BK327 := n4_
            have HB := n5_
            clear n0_ n1_ n2_ n3_ n4_ n5_
            refine start_ (n := 20) (S := fun w' => w'.cell? ⟨gb314, 0, none⟩ = some (.int .i64 a0_0) ∧ w'.cell? ⟨gb314, 1, none⟩ = some (.int .i64 a0_1) ∧ w'.cell? ⟨gb314, 2, none⟩ = some (.int .i64 a0_2) ∧ w'.cell? ⟨gb326, 0, none⟩ = some (.int .i64 0) ∧ w'.cell? ⟨gb326, 1, none⟩ = some (.int .i64 (Int.tmod (wrap64 (a2)) 8)) ∧ w'.cell? ⟨gb326, 2, none⟩ = some (.int .i64 0) ∧ w'.cell? ⟨gb327, 0, none⟩ = some (.int .i64 0) ∧ w'.cell? ⟨gb327, 1, none⟩ = some (.int .i64 (wrap64 ((Int.tmod (wrap64 (a2)) 8) + 1))) ∧ w'.cell? ⟨gb327, 2, none⟩ = some (.int .i64 0)) (ds := []) #[false, false, false, false, false, false, false, false, false, false, false, false, false, false, false, false, false, false, false, false] (by kernel_rfl) rfl rfl ⟨(blk_cell BK314.out 0).trans rfl, (blk_cell BK314.out 1).trans rfl, (blk_cell BK314.out 2).trans rfl, (blk_cell BK326.out 0).trans rfl, (blk_cell BK326.out 1).trans rfl, (blk_cell BK326.out 2).trans rfl, (blk_cell BK327.out 0).trans rfl, (blk_cell BK327.out 1).trans rfl, (blk_cell BK327.out 2).trans rfl⟩ (fun hHeld => ?_); refine with_tabW ambidexterlaw28_BrakingCategoryZero.tab15 ambidexterlaw28_BrakingCategoryZero.bits15 (fun HT_ HW_ => ?_)
            generalize w43.drew = w44 at HO_9 BK314 BK315 BK326 BK327 HB hHeld ⊢
            refine pure_ (i := 0) (N := some 81) (v := ?_) (a' := ?_) #[true, false, false, false, false, false, false, false, false, false, false, false, false, false, false, false, false, false, false, false] rfl rfl (any_of HT_.out (by kernel_rfl)) (fun _ _ _ h => h) (Or.inl ⟨by rfl, ?_⟩) ?_ ?_
            rotate_left
            · intro w'
              go_simp
              with_reducible rfl
            rotate_left
            · simp only [Act.put, List.setIfInBounds_toArray, List.set_cons_zero, List.set_cons_succ, i64_w, i32_w]
              rfl
            refine pure_ (i := 1) (N := some 82) (v := ?_) (a' := ?_) #[true, true, false, false, false, false, false, false, false, false, false, false, false, false, false, false, false, false, false, false] rfl rfl (any_of HT_.out (by kernel_rfl)) (fun _ _ _ h => h) (Or.inl ⟨by rfl, ?_⟩) ?_ ?_
            rotate_left
            · intro w'
              go_simp
              with_reducible rfl
            rotate_left
            · simp only [Act.put, List.setIfInBounds_toArray, List.set_cons_zero, List.set_cons_succ, i64_w, i32_w]
              rfl
            refine take_ (i := 2) (N := some 83) (v := ?_) (a' := ?_) #[true, true, true, false, false, false, false, false, false, false, false, false, false, false, false, false, false, false, false, false] rfl rfl (take_ofW HT_.out HW_.out (by kernel_rfl)) (fun _ _ _ h => h) (Or.inl ⟨by rfl, ?_⟩) hHeld ?_ ?_
            rotate_left
            · rintro w' ⟨s0, s1, s2, s3, s4, s5, s6, s7, s8⟩
              go_simp
              with_reducible rfl
            rotate_left
            · simp only [Act.put, List.setIfInBounds_toArray, List.set_cons_zero, List.set_cons_succ, i64_w, i32_w]
              rfl
            refine take_ (i := 3) (N := some 84) (v := ?_) (a' := ?_) #[true, true, true, true, false, false, false, false, false, false, false, false, false, false, false, false, false, false, false, false] rfl rfl (take_ofW HT_.out HW_.out (by kernel_rfl)) (fun _ _ _ h => h) (Or.inl ⟨by rfl, ?_⟩) hHeld ?_ ?_
            rotate_left
            · rintro w' ⟨s0, s1, s2, s3, s4, s5, s6, s7, s8⟩
              go_simp
              with_reducible rfl
            rotate_left
            · simp only [Act.put, List.setIfInBounds_toArray, List.set_cons_zero, List.set_cons_succ, i64_w, i32_w]
              rfl
            refine take_ (i := 5) (N := some 86) (v := ?_) (a' := ?_) #[true, true, true, true, false, true, false, false, false, false, false, false, false, false, false, false, false, false, false, false] rfl rfl (take_ofW HT_.out HW_.out (by kernel_rfl)) (fun _ _ _ h => h) (Or.inl ⟨by rfl, ?_⟩) hHeld ?_ ?_
            rotate_left
            · rintro w' ⟨s0, s1, s2, s3, s4, s5, s6, s7, s8⟩
              go_simp
              with_reducible rfl
            rotate_left
            · simp only [Act.put, List.setIfInBounds_toArray, List.set_cons_zero, List.set_cons_succ, i64_w, i32_w]
              rfl
            refine take_ (i := 6) (N := some 87) (v := ?_) (a' := ?_) #[true, true, true, true, false, true, true, false, false, false, false, false, false, false, false, false, false, false, false, false] rfl rfl (take_ofW HT_.out HW_.out (by kernel_rfl)) (fun _ _ _ h => h) (Or.inl ⟨by rfl, ?_⟩) hHeld ?_ ?_
            rotate_left
            · rintro w' ⟨s0, s1, s2, s3, s4, s5, s6, s7, s8⟩
              go_simp
              with_reducible rfl
            rotate_left
            · simp only [Act.put, List.setIfInBounds_toArray, List.set_cons_zero, List.set_cons_succ, i64_w, i32_w]
              rfl
            refine one_ (i := 4) (N := some 85) #[true, true, true, true, true, true, true, false, false, false, false, false, false, false, false, false, false, false, false, false] rfl rfl (one_of HT_.out (by kernel_rfl)) (by decide) (fun K hK => ?_)
            refine goes_ Try.func30 (by kernel_rfl) rfl #[.agg #[.int .i64 a0_0, .int .i64 a0_1, .int .i64 a0_2], .agg #[.int .i64 0, .int .i64 (Int.tmod (wrap64 (a2)) 8), .int .i64 0], .int .i64 0] (by rfl) rfl rfl (by (try simp only [List.map_toArray, List.map_cons, List.map_nil]); first | done | rfl | (simp only [List.length_drop, List.length_take]; rfl)) ?_
            with_reducible refine (braking_Duration.calls k1 a0_0 a0_1 a0_2 0 (Int.tmod (wrap64 (a2)) 8) 0 0 t328 _ A28.out).mono ?_
            rintro e w45 ⟨rfl, hb⟩
            refine ⟨_, rfl, ?_⟩
            have n0_ := Aside0.mk (Kd.R_below (by (with_reducible repeat (first | apply Kd.R_alloc | apply Kd.R_drewN | apply Kd.R_drew)); exact HO_9.out) hb)
            have n1_ := Aside0.mk (blk_below (g := gb314) (o := .cells #[.int .i64 a0_0, .int .i64 a0_1, .int .i64 a0_2] 23 (0, 0)) (by (with_reducible repeat (first | refine blk_drewN ?_ _ | refine blk_drew ?_ | refine blk_alloc ?_ _)); exact BK314.out) hb)
            have n2_ := Aside0.mk (blk_below (g := gb315) (o := .cells #[.int .i64 a1_0, .int .i64 a1_1, .int .i64 a1_2] 37 (0, 0)) (by (with_reducible repeat (first | refine blk_drewN ?_ _ | refine blk_drew ?_ | refine blk_alloc ?_ _)); exact BK315.out) hb)
            have n3_ := Aside0.mk (blk_below (g := gb326) (o := .cells #[.int .i64 0, .int .i64 (Int.tmod (wrap64 (a2)) 8), .int .i64 0] 37 (0, 0)) (by (with_reducible repeat (first | refine blk_drewN ?_ _ | refine blk_drew ?_ | refine blk_alloc ?_ _)); exact BK326.out) hb)
            have n4_ := Aside0.mk (blk_below (g := gb327) (o := .cells #[.int .i64 0, .int .i64 (wrap64 ((Int.tmod (wrap64 (a2)) 8) + 1)), .int .i64 0] 37 (0, 0)) (by (with_reducible repeat (first | refine blk_drewN ?_ _ | refine blk_drew ?_ | refine blk_alloc ?_ _)); exact BK327.out) hb)
            have n5_ := Aside0.mk (below_step (by repeat (first | (with_reducible first | exact HB.out | apply below_alloc | apply pw_below_drewN | apply below_drew1 | refine below_set ?_ GE314.out | refine below_set ?_ GE315.out | refine below_set ?_ GE326.out | refine below_set ?_ GE327.out) | exact HB.out)) hb)
            clear HO_9
            clear BK314
            clear BK315
            clear BK326
            clear BK327
            clear HB
            have HO_9 := n0_
            have BK314 := n1_
            have BK315 := n2_
            have BK326 := n3_
            have BK327 := n4_
            have HB := n5_
            clear n0_ n1_ n2_ n3_ n4_ n5_
            (try clear hb)
            (try clear hb2)
            (try clear hk)
            (try clear hi)
            refine hK.out _ _ ⟨(blk_cell BK314.out 0).trans rfl, (blk_cell BK314.out 1).trans rfl, (blk_cell BK314.out 2).trans rfl, (blk_cell BK326.out 0).trans rfl, (blk_cell BK326.out 1).trans rfl, (blk_cell BK326.out 2).trans rfl, (blk_cell BK327.out 0).trans rfl, (blk_cell BK327.out 1).trans rfl, (blk_cell BK327.out 2).trans rfl⟩ (fun hHeld => ?_)
            clear hK K
            refine norm_ (a' := ?_) ?_ ?_
            rotate_left
            · show Act.put _ (some 85) _ = _
              simp only [Act.put, List.setIfInBounds_toArray, List.set_cons_zero, List.set_cons_succ, i64_w, i32_w]
              rfl
            refine one_ (i := 7) (N := some 88) #[true, true, true, true, true, true, true, true, false, false, false, false, false, false, false, false, false, false, false, false] rfl rfl (one_of HT_.out (by kernel_rfl)) (by decide) (fun K hK => ?_)
            refine goes_ Try.func30 (by kernel_rfl) rfl #[.agg #[.int .i64 a0_0, .int .i64 a0_1, .int .i64 a0_2], .agg #[.int .i64 0, .int .i64 (wrap64 ((Int.tmod (wrap64 (a2)) 8) + 1)), .int .i64 0], .int .i64 0] (by rfl) rfl rfl (by (try simp only [List.map_toArray, List.map_cons, List.map_nil]); first | done | rfl | (simp only [List.length_drop, List.length_take]; rfl)) ?_
            with_reducible refine (braking_Duration.calls k1 a0_0 a0_1 a0_2 0 (wrap64 ((Int.tmod (wrap64 (a2)) 8) + 1)) 0 0 t329 _ A29.out).mono ?_
            rintro e w46 ⟨rfl, hb⟩
            refine ⟨_, rfl, ?_⟩
            have n0_ := Aside0.mk (Kd.R_below (by (with_reducible repeat (first | apply Kd.R_alloc | apply Kd.R_drewN | apply Kd.R_drew)); exact HO_9.out) hb)
            have n1_ := Aside0.mk (blk_below (g := gb314) (o := .cells #[.int .i64 a0_0, .int .i64 a0_1, .int .i64 a0_2] 23 (0, 0)) (by (with_reducible repeat (first | refine blk_drewN ?_ _ | refine blk_drew ?_ | refine blk_alloc ?_ _)); exact BK314.out) hb)
            have n2_ := Aside0.mk (blk_below (g := gb315) (o := .cells #[.int .i64 a1_0, .int .i64 a1_1, .int .i64 a1_2] 37 (0, 0)) (by (with_reducible repeat (first | refine blk_drewN ?_ _ | refine blk_drew ?_ | refine blk_alloc ?_ _)); exact BK315.out) hb)
            have n3_ := Aside0.mk (blk_below (g := gb326) (o := .cells #[.int .i64 0, .int .i64 (Int.tmod (wrap64 (a2)) 8), .int .i64 0] 37 (0, 0)) (by (with_reducible repeat (first | refine blk_drewN ?_ _ | refine blk_drew ?_ | refine blk_alloc ?_ _)); exact BK326.out) hb)
            have n4_ := Aside0.mk (blk_below (g := gb327) (o := .cells #[.int .i64 0, .int .i64 (wrap64 ((Int.tmod (wrap64 (a2)) 8) + 1)), .int .i64 0] 37 (0, 0)) (by (with_reducible repeat (first | refine blk_drewN ?_ _ | refine blk_drew ?_ | refine blk_alloc ?_ _)); exact BK327.out) hb)
            have n5_ := Aside0.mk (below_step (by repeat (first | (with_reducible first | exact HB.out | apply below_alloc | apply pw_below_drewN | apply below_drew1 | refine below_set ?_ GE314.out | refine below_set ?_ GE315.out | refine below_set ?_ GE326.out | refine below_set ?_ GE327.out) | exact HB.out)) hb)
            clear HO_9
            clear BK314
            clear BK315
            clear BK326
            clear BK327
            clear HB
            have HO_9 := n0_
            have BK314 := n1_
            have BK315 := n2_
            have BK326 := n3_
            have BK327 := n4_
            have HB := n5_
            clear n0_ n1_ n2_ n3_ n4_ n5_
            (try clear hb)
            (try clear hb2)
            (try clear hk)
            (try clear hi)
            refine hK.out _ _ ⟨(blk_cell BK314.out 0).trans rfl, (blk_cell BK314.out 1).trans rfl, (blk_cell BK314.out 2).trans rfl, (blk_cell BK326.out 0).trans rfl, (blk_cell BK326.out 1).trans rfl, (blk_cell BK326.out 2).trans rfl, (blk_cell BK327.out 0).trans rfl, (blk_cell BK327.out 1).trans rfl, (blk_cell BK327.out 2).trans rfl⟩ (fun hHeld => ?_)
            clear hK K
            refine norm_ (a' := ?_) ?_ ?_
            rotate_left
            · show Act.put _ (some 88) _ = _
              simp only [Act.put, List.setIfInBounds_toArray, List.set_cons_zero, List.set_cons_succ, i64_w, i32_w]
              rfl
            refine pure_ (i := 8) (N := some 89) (v := ?_) (a' := ?_) #[true, true, true, true, true, true, true, true, true, false, false, false, false, false, false, false, false, false, false, false] rfl rfl (any_of HT_.out (by kernel_rfl)) (fun _ _ _ h => h) (Or.inl ⟨by rfl, ?_⟩) ?_ ?_
            rotate_left
            · intro w'
              go_simp
              with_reducible rfl
            rotate_left
            · simp only [Act.put, List.setIfInBounds_toArray, List.set_cons_zero, List.set_cons_succ, i64_w, i32_w]
              rfl
            refine pure_ (i := 9) (N := some 90) (v := ?_) (a' := ?_) #[true, true, true, true, true, true, true, true, true, true, false, false, false, false, false, false, false, false, false, false] rfl rfl (any_of HT_.out (by kernel_rfl)) (fun _ _ _ h => h) (Or.inl ⟨by rfl, ?_⟩) ?_ ?_
            rotate_left
            · intro w'
              go_simp
              with_reducible rfl
            rotate_left
            · simp only [Act.put, List.setIfInBounds_toArray, List.set_cons_zero, List.set_cons_succ, i64_w, i32_w]
              rfl
            refine pure_ (i := 10) (N := some 91) (v := ?_) (a' := ?_) #[true, true, true, true, true, true, true, true, true, true, true, false, false, false, false, false, false, false, false, false] rfl rfl (any_of HT_.out (by kernel_rfl)) (fun _ _ _ h => h) (Or.inl ⟨by rfl, ?_⟩) ?_ ?_
            rotate_left
            · intro w'
              go_simp
              with_reducible rfl
            rotate_left
            · simp only [Act.put, List.setIfInBounds_toArray, List.set_cons_zero, List.set_cons_succ, i64_w, i32_w]
              rfl
            refine take_ (i := 11) (N := some 92) (v := ?_) (a' := ?_) #[true, true, true, true, true, true, true, true, true, true, true, true, false, false, false, false, false, false, false, false] rfl rfl (take_ofW HT_.out HW_.out (by kernel_rfl)) (fun _ _ _ h => h) (Or.inl ⟨by rfl, ?_⟩) hHeld ?_ ?_
            rotate_left
            · rintro w' ⟨s0, s1, s2, s3, s4, s5, s6, s7, s8⟩
              go_simp
              with_reducible rfl
            rotate_left
            · simp only [Act.put, List.setIfInBounds_toArray, List.set_cons_zero, List.set_cons_succ, i64_w, i32_w]
              rfl
            refine take_ (i := 12) (N := some 93) (v := ?_) (a' := ?_) #[true, true, true, true, true, true, true, true, true, true, true, true, true, false, false, false, false, false, false, false] rfl rfl (take_ofW HT_.out HW_.out (by kernel_rfl)) (fun _ _ _ h => h) (Or.inl ⟨by rfl, ?_⟩) hHeld ?_ ?_
            rotate_left
            · rintro w' ⟨s0, s1, s2, s3, s4, s5, s6, s7, s8⟩
              go_simp
              with_reducible rfl
            rotate_left
            · simp only [Act.put, List.setIfInBounds_toArray, List.set_cons_zero, List.set_cons_succ, i64_w, i32_w]
              rfl
            refine take_ (i := 14) (N := some 95) (v := ?_) (a' := ?_) #[true, true, true, true, true, true, true, true, true, true, true, true, true, false, true, false, false, false, false, false] rfl rfl (take_ofW HT_.out HW_.out (by kernel_rfl)) (fun _ _ _ h => h) (Or.inl ⟨by rfl, ?_⟩) hHeld ?_ ?_
            rotate_left
            · rintro w' ⟨s0, s1, s2, s3, s4, s5, s6, s7, s8⟩
              go_simp
              with_reducible rfl
            rotate_left
            · simp only [Act.put, List.setIfInBounds_toArray, List.set_cons_zero, List.set_cons_succ, i64_w, i32_w]
              rfl
            refine take_ (i := 15) (N := some 96) (v := ?_) (a' := ?_) #[true, true, true, true, true, true, true, true, true, true, true, true, true, false, true, true, false, false, false, false] rfl rfl (take_ofW HT_.out HW_.out (by kernel_rfl)) (fun _ _ _ h => h) (Or.inl ⟨by rfl, ?_⟩) hHeld ?_ ?_
            rotate_left
            · rintro w' ⟨s0, s1, s2, s3, s4, s5, s6, s7, s8⟩
              go_simp
              with_reducible rfl
            rotate_left
            · simp only [Act.put, List.setIfInBounds_toArray, List.set_cons_zero, List.set_cons_succ, i64_w, i32_w]
              rfl
            refine one_ (i := 13) (N := some 94) #[true, true, true, true, true, true, true, true, true, true, true, true, true, true, true, true, false, false, false, false] rfl rfl (one_of HT_.out (by kernel_rfl)) (by decide) (fun K hK => ?_)
            refine goes_ Try.func31 (by kernel_rfl) rfl #[.agg #[.int .i64 a0_0, .int .i64 a0_1, .int .i64 a0_2], .agg #[.int .i64 0, .int .i64 (Int.tmod (wrap64 (a2)) 8), .int .i64 0], .int .i64 0] (by rfl) rfl rfl (by (try simp only [List.map_toArray, List.map_cons, List.map_nil]); first | done | rfl | (simp only [List.length_drop, List.length_take]; rfl)) ?_
            with_reducible refine (braking_Distance.calls k1 a0_0 a0_1 a0_2 0 (Int.tmod (wrap64 (a2)) 8) 0 0 t330 _ A31.out).mono ?_
            rintro e w47 ⟨rfl, hb⟩
            refine ⟨_, rfl, ?_⟩
            have n0_ := Aside0.mk (Kd.R_below (by (with_reducible repeat (first | apply Kd.R_alloc | apply Kd.R_drewN | apply Kd.R_drew)); exact HO_9.out) hb)
            have n1_ := Aside0.mk (blk_below (g := gb314) (o := .cells #[.int .i64 a0_0, .int .i64 a0_1, .int .i64 a0_2] 23 (0, 0)) (by (with_reducible repeat (first | refine blk_drewN ?_ _ | refine blk_drew ?_ | refine blk_alloc ?_ _)); exact BK314.out) hb)
            have n2_ := Aside0.mk (blk_below (g := gb315) (o := .cells #[.int .i64 a1_0, .int .i64 a1_1, .int .i64 a1_2] 37 (0, 0)) (by (with_reducible repeat (first | refine blk_drewN ?_ _ | refine blk_drew ?_ | refine blk_alloc ?_ _)); exact BK315.out) hb)
            have n3_ := Aside0.mk (blk_below (g := gb326) (o := .cells #[.int .i64 0, .int .i64 (Int.tmod (wrap64 (a2)) 8), .int .i64 0] 37 (0, 0)) (by (with_reducible repeat (first | refine blk_drewN ?_ _ | refine blk_drew ?_ | refine blk_alloc ?_ _)); exact BK326.out) hb)
            have n4_ := Aside0.mk (blk_below (g := gb327) (o := .cells #[.int .i64 0, .int .i64 (wrap64 ((Int.tmod (wrap64 (a2)) 8) + 1)), .int .i64 0] 37 (0, 0)) (by (with_reducible repeat (first | refine blk_drewN ?_ _ | refine blk_drew ?_ | refine blk_alloc ?_ _)); exact BK327.out) hb)
            have n5_ := Aside0.mk (below_step (by repeat (first | (with_reducible first | exact HB.out | apply below_alloc | apply pw_below_drewN | apply below_drew1 | refine below_set ?_ GE314.out | refine below_set ?_ GE315.out | refine below_set ?_ GE326.out | refine below_set ?_ GE327.out) | exact HB.out)) hb)
            clear HO_9
            clear BK314
            clear BK315
            clear BK326
            clear BK327
            clear HB
            have HO_9 := n0_
            have BK314 := n1_
            have BK315 := n2_
            have BK326 := n3_
            have BK327 := n4_
            have HB := n5_
            clear n0_ n1_ n2_ n3_ n4_ n5_
            (try clear hb)
            (try clear hb2)
            (try clear hk)
            (try clear hi)
            refine hK.out _ _ ⟨(blk_cell BK314.out 0).trans rfl, (blk_cell BK314.out 1).trans rfl, (blk_cell BK314.out 2).trans rfl, (blk_cell BK326.out 0).trans rfl, (blk_cell BK326.out 1).trans rfl, (blk_cell BK326.out 2).trans rfl, (blk_cell BK327.out 0).trans rfl, (blk_cell BK327.out 1).trans rfl, (blk_cell BK327.out 2).trans rfl⟩ (fun hHeld => ?_)
            clear hK K
            refine norm_ (a' := ?_) ?_ ?_
            rotate_left
            · show Act.put _ (some 94) _ = _
              simp only [Act.put, List.setIfInBounds_toArray, List.set_cons_zero, List.set_cons_succ, i64_w, i32_w]
              rfl
            refine one_ (i := 16) (N := some 97) #[true, true, true, true, true, true, true, true, true, true, true, true, true, true, true, true, true, false, false, false] rfl rfl (one_of HT_.out (by kernel_rfl)) (by decide) (fun K hK => ?_)
            refine goes_ Try.func31 (by kernel_rfl) rfl #[.agg #[.int .i64 a0_0, .int .i64 a0_1, .int .i64 a0_2], .agg #[.int .i64 0, .int .i64 (wrap64 ((Int.tmod (wrap64 (a2)) 8) + 1)), .int .i64 0], .int .i64 0] (by rfl) rfl rfl (by (try simp only [List.map_toArray, List.map_cons, List.map_nil]); first | done | rfl | (simp only [List.length_drop, List.length_take]; rfl)) ?_
            with_reducible refine (braking_Distance.calls k1 a0_0 a0_1 a0_2 0 (wrap64 ((Int.tmod (wrap64 (a2)) 8) + 1)) 0 0 t331 _ A32.out).mono ?_
            rintro e w48 ⟨rfl, hb⟩
            refine ⟨_, rfl, ?_⟩
            have n0_ := Aside0.mk (Kd.R_below (by (with_reducible repeat (first | apply Kd.R_alloc | apply Kd.R_drewN | apply Kd.R_drew)); exact HO_9.out) hb)
            have n1_ := Aside0.mk (blk_below (g := gb314) (o := .cells #[.int .i64 a0_0, .int .i64 a0_1, .int .i64 a0_2] 23 (0, 0)) (by (with_reducible repeat (first | refine blk_drewN ?_ _ | refine blk_drew ?_ | refine blk_alloc ?_ _)); exact BK314.out) hb)
            have n2_ := Aside0.mk (blk_below (g := gb315) (o := .cells #[.int .i64 a1_0, .int .i64 a1_1, .int .i64 a1_2] 37 (0, 0)) (by (with_reducible repeat (first | refine blk_drewN ?_ _ | refine blk_drew ?_ | refine blk_alloc ?_ _)); exact BK315.out) hb)
            have n3_ := Aside0.mk (blk_below (g := gb326) (o := .cells #[.int .i64 0, .int .i64 (Int.tmod (wrap64 (a2)) 8), .int .i64 0] 37 (0, 0)) (by (with_reducible repeat (first | refine blk_drewN ?_ _ | refine blk_drew ?_ | refine blk_alloc ?_ _)); exact BK326.out) hb)
            have n4_ := Aside0.mk (blk_below (g := gb327) (o := .cells #[.int .i64 0, .int .i64 (wrap64 ((Int.tmod (wrap64 (a2)) 8) + 1)), .int .i64 0] 37 (0, 0)) (by (with_reducible repeat (first | refine blk_drewN ?_ _ | refine blk_drew ?_ | refine blk_alloc ?_ _)); exact BK327.out) hb)
            have n5_ := Aside0.mk (below_step (by repeat (first | (with_reducible first | exact HB.out | apply below_alloc | apply pw_below_drewN | apply below_drew1 | refine below_set ?_ GE314.out | refine below_set ?_ GE315.out | refine below_set ?_ GE326.out | refine below_set ?_ GE327.out) | exact HB.out)) hb)
            clear HO_9
            clear BK314
            clear BK315
            clear BK326
            clear BK327
            clear HB
            have HO_9 := n0_
            have BK314 := n1_
            have BK315 := n2_
            have BK326 := n3_
            have BK327 := n4_
            have HB := n5_
            clear n0_ n1_ n2_ n3_ n4_ n5_
            (try clear hb)
            (try clear hb2)
            (try clear hk)
            (try clear hi)
            refine hK.out _ _ ⟨(blk_cell BK314.out 0).trans rfl, (blk_cell BK314.out 1).trans rfl, (blk_cell BK314.out 2).trans rfl, (blk_cell BK326.out 0).trans rfl, (blk_cell BK326.out 1).trans rfl, (blk_cell BK326.out 2).trans rfl, (blk_cell BK327.out 0).trans rfl, (blk_cell BK327.out 1).trans rfl, (blk_cell BK327.out 2).trans rfl⟩ (fun hHeld => ?_)
            clear hK K
            refine norm_ (a' := ?_) ?_ ?_
            rotate_left
            · show Act.put _ (some 97) _ = _
              simp only [Act.put, List.setIfInBounds_toArray, List.set_cons_zero, List.set_cons_succ, i64_w, i32_w]
              rfl
            refine pure_ (i := 17) (N := some 98) (v := ?_) (a' := ?_) #[true, true, true, true, true, true, true, true, true, true, true, true, true, true, true, true, true, true, false, false] rfl rfl (any_of HT_.out (by kernel_rfl)) (fun _ _ _ h => h) (Or.inl ⟨by rfl, ?_⟩) ?_ ?_
            rotate_left
            · intro w'
              go_simp
              with_reducible rfl
            rotate_left
            · simp only [Act.put, List.setIfInBounds_toArray, List.set_cons_zero, List.set_cons_succ, i64_w, i32_w]
              rfl
            refine pure_ (i := 18) (N := some 99) (v := ?_) (a' := ?_) #[true, true, true, true, true, true, true, true, true, true, true, true, true, true, true, true, true, true, true, false] rfl rfl (any_of HT_.out (by kernel_rfl)) (fun _ _ _ h => h) (Or.inl ⟨by rfl, ?_⟩) ?_ ?_
            rotate_left
            · intro w'
              go_simp
              with_reducible rfl
            rotate_left
            · simp only [Act.put, List.setIfInBounds_toArray, List.set_cons_zero, List.set_cons_succ, i64_w, i32_w]
              rfl
            refine pure_ (i := 19) (N := some 6) (v := ?_) (a' := ?_) #[true, true, true, true, true, true, true, true, true, true, true, true, true, true, true, true, true, true, true, true] rfl rfl (any_of HT_.out (by kernel_rfl)) (fun _ _ _ h => h) (Or.inl ⟨by rfl, ?_⟩) ?_ ?_
            rotate_left
            · intro w'
              go_simp
              with_reducible rfl
            rotate_left
            · simp only [Act.put, List.setIfInBounds_toArray, List.set_cons_zero, List.set_cons_succ, i64_w, i32_w]
              rfl
            refine done_ (done_of HT_.out (by kernel_rfl)) ?_
            try go_wp2
            go_ret
            exact ⟨by first | rfl | (simp [errW_none, errW_some] <;> rfl) | (simp [*, errW_none, errW_some] <;> rfl), by repeat (first | (with_reducible first | exact HB.out | apply below_alloc | apply pw_below_drewN | apply below_drew1 | refine below_set ?_ GE314.out | refine below_set ?_ GE315.out | refine below_set ?_ GE326.out | refine below_set ?_ GE327.out) | exact HB.out)⟩
          · rw [if_neg c30] at H
            have c30b0 : decide (t328 ≤ t329) = false := decide_eq_false c30
            clear c30
            exact absurd HT.out (by rw [← Option.some.inj H]; decide)
  · replace c6 := Bool.eq_false_iff.mpr c6
    subst c6
    have H1 : (some true) = some r := by rw [if_neg (show ¬ (false = true) by decide)] at H; exact H
    clear H
    have H := H1
    clear H1
    obtain rfl := Option.some.inj H
    go_enter Try.func12, Try.ntmps12
    go_wp2_with (first | ((with_reducible refine gate_dst (N := 3) rfl ?_); (try (refine gate_guard (by rfl) ?_; dsimp only)); refine box_event ?hg (N := 3) ?hd (cs := #[.int .i64 a0_0, .int .i64 a0_1, .int .i64 a0_2]) (t := 23) ?hr ?_; (case hd => rfl); (case hg => rfl); (case hr => first | (go_simp; done) | (go_simp; rfl)); intro gb314 hg w49 hbox hb; have n0_ := Aside0.mk (below_step (by repeat (first | (with_reducible first | exact HB.out | apply below_alloc | apply pw_below_drewN | apply below_drew1) | exact HB.out)) hb); have n1_ := Aside0.mk (hbox); have n2_ := Aside0.mk ((by rw [hg]; exact (below_size (by repeat (first | (with_reducible first | exact HB.out | apply below_alloc | apply pw_below_drewN | apply below_drew1) | exact HB.out))) : w.heap.size ≤ gb314)); have n3_ := Aside0.mk ((by rw [hg]; exact (below_size (by repeat (first | (with_reducible first | exact HB.out | apply below_alloc | apply pw_below_drewN | apply below_drew1) | exact HB.out))) : w.heap.size ≤ gb314)); clear HB; have HB := n0_; have BK314 := n1_; have GW314 := n2_; have GE314 := n3_; clear n0_ n1_ n2_ n3_; clear hb hbox hg) | ((with_reducible refine gate_dst (N := 4) rfl ?_); (try (refine gate_guard (by rfl) ?_; dsimp only)); refine box_event ?hg (N := 4) ?hd (cs := #[.int .i64 a1_0, .int .i64 a1_1, .int .i64 a1_2]) (t := 37) ?hr ?_; (case hd => rfl); (case hg => rfl); (case hr => first | (go_simp; done) | (go_simp; rfl)); intro gb315 hg w50 hbox hb; have n0_ := Aside0.mk (blk_below (g := gb314) (o := .cells #[.int .i64 a0_0, .int .i64 a0_1, .int .i64 a0_2] 23 (0, 0)) (by (with_reducible repeat (first | refine blk_drewN ?_ _ | refine blk_drew ?_ | refine blk_alloc ?_ _)); exact BK314.out) hb); have n1_ := Aside0.mk (below_step (by repeat (first | (with_reducible first | exact HB.out | apply below_alloc | apply pw_below_drewN | apply below_drew1 | refine below_set ?_ GE314.out) | exact HB.out)) hb); have n2_ := Aside0.mk (hbox); have n3_ := Aside0.mk ((by rw [hg]; exact (below_size (by repeat (first | (with_reducible first | exact HB.out | apply below_alloc | apply pw_below_drewN | apply below_drew1 | refine below_set ?_ GE314.out) | exact HB.out))) : w.heap.size ≤ gb315)); have n4_ := Aside0.mk ((by rw [hg]; exact (below_size (by repeat (first | (with_reducible first | exact HB.out | apply below_alloc | apply pw_below_drewN | apply below_drew1 | refine below_set ?_ GE314.out) | exact HB.out))) : w.heap.size ≤ gb315)); have n5_ := Aside0.mk ((by rw [hg]; exact Nat.ne_of_lt (blk_lt (g := gb314) (o := .cells #[.int .i64 a0_0, .int .i64 a0_1, .int .i64 a0_2] 23 (0, 0)) (by (with_reducible repeat (first | refine blk_drewN ?_ _ | refine blk_drew ?_ | refine blk_alloc ?_ _)); exact BK314.out)) : gb314 ≠ gb315)); have n6_ := Aside0.mk ((by rw [hg]; exact Nat.ne_of_gt (blk_lt (g := gb314) (o := .cells #[.int .i64 a0_0, .int .i64 a0_1, .int .i64 a0_2] 23 (0, 0)) (by (with_reducible repeat (first | refine blk_drewN ?_ _ | refine blk_drew ?_ | refine blk_alloc ?_ _)); exact BK314.out)) : gb315 ≠ gb314)); clear BK314; clear HB; have BK314 := n0_; have HB := n1_; have BK315 := n2_; have GW315 := n3_; have GE315 := n4_; have NB314_315 := n5_; have NB315_314 := n6_; clear n0_ n1_ n2_ n3_ n4_ n5_ n6_; clear hb hbox hg) | ((with_reducible refine gate_callee (f := 25) rfl ?_); refine goesL_ (some 14) rfl rfl Try.func25 (by kernel_rfl) rfl #[] rfl (by (try simp only [List.map_toArray, List.map_cons, List.map_nil]); first | done | rfl | (simp only [List.length_drop, List.length_take]; rfl)) ?_; (with_reducible refine (ambidexterlaw28_head.calls k  true _ A4.out).mono ?_); rintro e w51 ⟨rfl, hb⟩; refine ⟨_, rfl, ?_⟩; have n0_ := Aside0.mk (blk_below (g := gb314) (o := .cells #[.int .i64 a0_0, .int .i64 a0_1, .int .i64 a0_2] 23 (0, 0)) (by (with_reducible repeat (first | refine blk_drewN ?_ _ | refine blk_drew ?_ | refine blk_alloc ?_ _)); exact BK314.out) hb); have n1_ := Aside0.mk (blk_below (g := gb315) (o := .cells #[.int .i64 a1_0, .int .i64 a1_1, .int .i64 a1_2] 37 (0, 0)) (by (with_reducible repeat (first | refine blk_drewN ?_ _ | refine blk_drew ?_ | refine blk_alloc ?_ _)); exact BK315.out) hb); have n2_ := Aside0.mk (below_step (by repeat (first | (with_reducible first | exact HB.out | apply below_alloc | apply pw_below_drewN | apply below_drew1 | refine below_set ?_ GE314.out | refine below_set ?_ GE315.out) | exact HB.out)) hb); clear BK314; clear BK315; clear HB; have BK314 := n0_; have BK315 := n1_; have HB := n2_; clear n0_ n1_ n2_; (try clear hb); (try clear hb2); (try clear hk); (try clear hi); have hnb52 := NB314_315.out; have hnc52 := NB315_314.out; have hcz53_0 : w51.cell? ⟨gb314, 0, none⟩ = some (.int .i64 a0_0) := (blk_cell BK314.out 0).trans rfl; have hcz53_1 : w51.cell? ⟨gb314, 1, none⟩ = some (.int .i64 a0_1) := (blk_cell BK314.out 1).trans rfl; have hcz53_2 : w51.cell? ⟨gb314, 2, none⟩ = some (.int .i64 a0_2) := (blk_cell BK314.out 2).trans rfl; have hfz53_0 := blk_frozen BK314.out 0; have hfz53_1 := blk_frozen BK314.out 1; have hfz53_2 := blk_frozen BK314.out 2; have hcz54_0 : w51.cell? ⟨gb315, 0, none⟩ = some (.int .i64 a1_0) := (blk_cell BK315.out 0).trans rfl; have hcz54_1 : w51.cell? ⟨gb315, 1, none⟩ = some (.int .i64 a1_1) := (blk_cell BK315.out 1).trans rfl; have hcz54_2 : w51.cell? ⟨gb315, 2, none⟩ = some (.int .i64 a1_2) := (blk_cell BK315.out 2).trans rfl; have hfz54_0 := blk_frozen BK315.out 0; have hfz54_1 := blk_frozen BK315.out 1; have hfz54_2 := blk_frozen BK315.out 2) | ((with_reducible refine gate_callee (f := 26) rfl ?_); refine goesL_ (some 17) rfl rfl Try.func26 (by kernel_rfl) rfl #[.agg #[.int .i64 a0_0, .int .i64 a0_1, .int .i64 a0_2], .agg #[.int .i64 a1_0, .int .i64 a1_1, .int .i64 a1_2]] rfl (by (try simp only [List.map_toArray, List.map_cons, List.map_nil]); first | done | rfl | (simp only [List.length_drop, List.length_take]; rfl)) ?_; (with_reducible refine (ambidexterref28_May.calls a0_0 a0_1 a0_2 a1_0 a1_1 a1_2 false _ A5.out).mono ?_); rintro e w55 ⟨rfl, hb⟩; refine ⟨_, rfl, ?_⟩; have n0_ := Aside0.mk (blk_below (g := gb314) (o := .cells #[.int .i64 a0_0, .int .i64 a0_1, .int .i64 a0_2] 23 (0, 0)) (by (with_reducible repeat (first | refine blk_drewN ?_ _ | refine blk_drew ?_ | refine blk_alloc ?_ _)); exact BK314.out) hb); have n1_ := Aside0.mk (blk_below (g := gb315) (o := .cells #[.int .i64 a1_0, .int .i64 a1_1, .int .i64 a1_2] 37 (0, 0)) (by (with_reducible repeat (first | refine blk_drewN ?_ _ | refine blk_drew ?_ | refine blk_alloc ?_ _)); exact BK315.out) hb); have n2_ := Aside0.mk (below_step (by repeat (first | (with_reducible first | exact HB.out | apply below_alloc | apply pw_below_drewN | apply below_drew1 | refine below_set ?_ GE314.out | refine below_set ?_ GE315.out) | exact HB.out)) hb); clear BK314; clear BK315; clear HB; have BK314 := n0_; have BK315 := n1_; have HB := n2_; clear n0_ n1_ n2_; (try clear hb); (try clear hb2); (try clear hk); (try clear hi)))
    go_ret
    exact ⟨by first | rfl | (simp [errW_none, errW_some] <;> rfl) | (simp [*, errW_none, errW_some] <;> rfl), by repeat (first | (with_reducible first | exact HB.out | apply below_alloc | apply pw_below_drewN | apply below_drew1 | refine below_set ?_ GE314.out | refine below_set ?_ GE315.out) | exact HB.out)⟩

end Go.Proofs.Ytjcefdockfbnaaa.P
