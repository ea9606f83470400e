-- Written by this session's own program, for this seat. Lean checks it.
import Derived.Test.YtehibiikdlgneaaP0
import Derived.Test.YtehibiikdlgneaaP11
import Derived.Test.YtehibiikdlgneaaP12
namespace Go.Proofs.Ytehibiikdlgneaa.P
open Go.RowKit Go.Proofs.YtehibiikdlgneaaW.PrintWords Go.Proofs.YtehibiikdlgneaaW.PrintLast Go.Proofs.YtehibiikdlgneaaW.PrintMore
attribute [local go_sem] max2_int min2_int max_two min_two max_three min_three max_four min_four   -- for this text's walks alone
set_option linter.unusedVariables false
set_option linter.unusedSimpArgs false

/-! ### ambidexterlaw25_ServoShiftInvariant: function 14 -/
def ambidexterlaw25_ServoShiftInvariant.l0 : Nat → Int → List (S54) → Bool → Int → Int → Int → Int → Int → Bool → Int → Int → Int → Int → Bool → Option (Bool)
  | 0, _, _, _, _, _, _, _, _, _, _, _, _, _, _ => none
  | k + 1, x1, x2, x7, x10, x610000, x610001, x610002, x610003, x610004, x616000, x616001, x616002, x616003, x616004 => if x10 < (x2.length : Int) then (if 0 ≤ x10 then ((servo_Step.f x610000 x610001 x610002 x610003 x610004 (Int.tmod (wrap64 ((rd_T54 x2 x10).f0)) 4) (wrap64 ((rd_T54 x2 x10).f1)) (wrap64 ((rd_T54 x2 x10).f2))).bind fun bt619 => ((servo_Step.f x616000 x616001 x616002 x616003 x616004 (Int.tmod (wrap64 ((rd_T54 x2 x10).f0)) 4) (wrap64 ((wrap64 ((rd_T54 x2 x10).f1)) + (wrap64 (x1)))) (wrap64 ((wrap64 ((rd_T54 x2 x10).f2)) + (wrap64 (x1))))).bind fun bt629 => (if bt619.2.2.2.2.2 = bt629.2.2.2.2.2 then (if (bt619.2.2.2.2.1 != bt629.2.2.2.2.1) = true then (some false) else (ambidexterlaw25_ServoShiftInvariant.l0 k x1 x2 x7 (wrap64 (x10 + 1)) bt619.1 bt619.2.1 bt619.2.2.1 bt619.2.2.2.1 bt619.2.2.2.2.1 bt629.1 bt629.2.1 bt629.2.2.1 bt629.2.2.2.1 bt629.2.2.2.2.1)) else (some false)))) else (none)) else (some x7)
def ambidexterlaw25_ServoShiftInvariant.f (k : Nat) (a0 : Int) (a1 : Int) (l2 : List (S54)) : Option (Bool) := (ambidexterlaw25_head.f).bind fun t603 => (if (l2.length : Int) > 300 then (some t603) else ((servo_New.f (wrap64 (a0))).bind fun bt604 => ((servo_New.f (wrap64 ((wrap64 (a0)) + (wrap64 (16 * (wrap64 (a1))))))).bind fun bt610 => (ambidexterlaw25_ServoShiftInvariant.l0 k a1 l2 t603 0 bt604.1 bt604.2.1 bt604.2.2.1 bt604.2.2.2.1 bt604.2.2.2.2 bt610.1 bt610.2.1 bt610.2.2.1 bt610.2.2.2.1 bt610.2.2.2.2))))
theorem ambidexterlaw25_ServoShiftInvariant.mono_l : ∀ k, (∀ y0 y1 y2 y3 y4 y5 y6 y7 y8 y9 y10 y11 y12 y13, LeO (ambidexterlaw25_ServoShiftInvariant.l0 k y0 y1 y2 y3 y4 y5 y6 y7 y8 y9 y10 y11 y12 y13) (ambidexterlaw25_ServoShiftInvariant.l0 (k + 1) y0 y1 y2 y3 y4 y5 y6 y7 y8 y9 y10 y11 y12 y13))
  | 0 => fun _ _ _ _ _ _ _ _ _ _ _ _ _ _ r h => by simp [ambidexterlaw25_ServoShiftInvariant.l0] at h
  | k + 1 => by
    have ih0 := ambidexterlaw25_ServoShiftInvariant.mono_l k
    · intro y0 y1 y2 y3 y4 y5 y6 y7 y8 y9 y10 y11 y12 y13
      unfold ambidexterlaw25_ServoShiftInvariant.l0
      repeat' first
      | (with_reducible exact ih0 _ _ _ _ _ _ _ _ _ _ _ _ _ _)
      | (with_reducible exact LeO.refl _)
      | (with_reducible exact LeO.none _)
      | (with_reducible refine LeO.ite ?_ ?_)
      | (with_reducible refine LeO.bind ?_ (fun _ => ?_))
      | exact ih0 _ _ _ _ _ _ _ _ _ _ _ _ _ _
      | exact LeO.none _
      | refine LeO.ite ?_ ?_
      | refine LeO.bind ?_ (fun _ => ?_)
theorem ambidexterlaw25_ServoShiftInvariant.mono : ∀ a0 a1 a2 k, LeO (ambidexterlaw25_ServoShiftInvariant.f k a0 a1 a2) (ambidexterlaw25_ServoShiftInvariant.f (k + 1) a0 a1 a2) := by
  intro a0 a1 a2 k
  have ih0 := ambidexterlaw25_ServoShiftInvariant.mono_l k
  unfold ambidexterlaw25_ServoShiftInvariant.f
  repeat' first
      | (with_reducible exact ih0 _ _ _ _ _ _ _ _ _ _ _ _ _ _)
      | (with_reducible exact LeO.refl _)
      | (with_reducible exact LeO.none _)
      | (with_reducible refine LeO.ite ?_ ?_)
      | (with_reducible refine LeO.bind ?_ (fun _ => ?_))
      | exact ih0 _ _ _ _ _ _ _ _ _ _ _ _ _ _
      | exact LeO.none _
      | refine LeO.ite ?_ ?_
      | refine LeO.bind ?_ (fun _ => ?_)
def ambidexterlaw25_ServoShiftInvariant.T9 : Bool × List (List Nat × List Nat) := (true, [([], []), ([], []), ([], []), ([1, 2], [1, 2]), ([3], [3]), ([4], [4]), ([5], [5]), ([6], [6]), ([], []), ([], []), ([8, 9], [8, 9]), ([10], [10]), ([11], [11]), ([12], [12]), ([], []), ([], []), ([14, 15], [14, 15]), ([16], [16]), ([17], [17]), ([18], [18]), ([0, 7, 13, 19], [0, 7, 13, 19]), ([20], [20]), ([21], [21]), ([21], [21]), ([], []), ([24, 22, 20, 0, 1, 2, 3, 4, 5, 6, 7, 8, 9, 10, 11, 12, 13, 14, 15, 16, 17, 18, 19, 20, 21, 22, 24], [22, 24]), ([23, 25, 0, 1, 2, 3, 4, 5, 6, 7, 8, 9, 10, 11, 12, 13, 14, 15, 16, 17, 18, 19, 20, 21, 22, 23, 24, 25], [23])])
def ambidexterlaw25_ServoShiftInvariant.B9 : List Nat := [0, 0, 0, 6, 14, 30, 62, 126, 0, 0, 768, 1792, 3840, 7936, 0, 0, 49152, 114688, 245760, 507904, 1048575, 2097151, 4194303, 4194303, 0, 25165823, 67108863]
theorem ambidexterlaw25_ServoShiftInvariant.tab9 : rtab .any (opsOf Try.f14 9) = ambidexterlaw25_ServoShiftInvariant.T9 := by kernel_rfl
theorem ambidexterlaw25_ServoShiftInvariant.bits9 : waitsOk ambidexterlaw25_ServoShiftInvariant.T9.2 ambidexterlaw25_ServoShiftInvariant.B9 = true := by kernel_rfl
def ambidexterlaw25_ServoShiftInvariant.T10 : Bool × List (List Nat × List Nat) := (true, [([], []), ([], []), ([], []), ([1, 2], [1, 2]), ([3], [3]), ([4], [4]), ([5], [5]), ([6], [6]), ([], []), ([], []), ([8, 9], [8, 9]), ([10], [10]), ([11], [11]), ([12], [12]), ([], []), ([14], [14]), ([13, 15], [13, 15]), ([], []), ([], []), ([17, 18], [17, 18]), ([19], [19]), ([20], [20]), ([21], [21]), ([], []), ([23], [23]), ([22, 24], [22, 24]), ([0, 7, 16, 25], [0, 7, 16, 25]), ([26], [26]), ([27], [27]), ([27], [27]), ([], []), ([30, 28, 26, 0, 1, 2, 3, 4, 5, 6, 7, 8, 9, 10, 11, 12, 13, 14, 15, 16, 17, 18, 19, 20, 21, 22, 23, 24, 25, 26, 27, 28, 30], [28, 30]), ([29, 31, 0, 1, 2, 3, 4, 5, 6, 7, 8, 9, 10, 11, 12, 13, 14, 15, 16, 17, 18, 19, 20, 21, 22, 23, 24, 25, 26, 27, 28, 29, 30, 31], [29])])
def ambidexterlaw25_ServoShiftInvariant.B10 : List Nat := [0, 0, 0, 6, 14, 30, 62, 126, 0, 0, 768, 1792, 3840, 7936, 0, 16384, 65280, 0, 0, 393216, 917504, 1966080, 4063232, 0, 8388608, 33423360, 67108863, 134217727, 268435455, 268435455, 0, 1610612735, 4294967295]
theorem ambidexterlaw25_ServoShiftInvariant.tab10 : rtab .any (opsOf Try.f14 10) = ambidexterlaw25_ServoShiftInvariant.T10 := by kernel_rfl
theorem ambidexterlaw25_ServoShiftInvariant.bits10 : waitsOk ambidexterlaw25_ServoShiftInvariant.T10.2 ambidexterlaw25_ServoShiftInvariant.B10 = true := by kernel_rfl
set_option maxHeartbeats 8000000 in
set_option maxRecDepth 100000 in
theorem ambidexterlaw25_ServoShiftInvariant.calls0 (k : Nat) (a0 : Int) (a1 : Int) (A2 : Option Addr) (c2 : Nat) (l2 : List (S54)) (r : Bool) (w : World) (hr2 : Kd.C k54 w A2 l2.length l2) (hc2 : l2.length ≤ c2) (h : ambidexterlaw25_ServoShiftInvariant.f k a0 a1 l2 = some r) (hT : r = true) :
    Calls Try.prog 14 #[.int .i16 a0, .int .i8 a1, .slice A2 l2.length c2] w fun e w' => e = .returned (.bool r) ∧ Below w.heap.size w w' := by
  have hu49 := Try.underlying49
  have HR2 := Aside0.mk hr2
  have HC2 := Aside0.mk hc2
  clear hr2 hc2
  have HB := Aside0.mk (Below.refl w.heap.size w)
  have H : ((ambidexterlaw25_head.f).bind fun t603 => (if (l2.length : Int) > 300 then (some t603) else ((servo_New.f (wrap64 (a0))).bind fun bt604 => ((servo_New.f (wrap64 ((wrap64 (a0)) + (wrap64 (16 * (wrap64 (a1))))))).bind fun bt610 => (ambidexterlaw25_ServoShiftInvariant.l0 k a1 l2 t603 0 bt604.1 bt604.2.1 bt604.2.2.1 bt604.2.2.2.1 bt604.2.2.2.2 bt610.1 bt610.2.1 bt610.2.2.1 bt610.2.2.2.1 bt610.2.2.2.2))))) = some r := h
  clear h
  have HT := Aside0.mk hT
  clear hT
  replace H := Option.bind_eq_some_iff.mp H
  obtain ⟨t603, A40, H⟩ := H
  obtain rfl := ambidexterlaw25_head.is_true A40
  replace H : (if (l2.length : Int) > 300 then (some true) else ((servo_New.f (wrap64 (a0))).bind fun bt604 => ((servo_New.f (wrap64 ((wrap64 (a0)) + (wrap64 (16 * (wrap64 (a1))))))).bind fun bt610 => (ambidexterlaw25_ServoShiftInvariant.l0 k a1 l2 true 0 bt604.1 bt604.2.1 bt604.2.2.1 bt604.2.2.2.1 bt604.2.2.2.2 bt610.1 bt610.2.1 bt610.2.2.1 bt610.2.2.2.1 bt610.2.2.2.2)))) = some r := H
  have A4 := Aside0.mk A40
  clear A40
  by_cases c5 : (l2.length : Int) > 300
  · rw [if_pos c5] at H
    have c5b0 : decide (300 < (l2.length : Int)) = true := decide_eq_true c5
    have c5b1 : decide (300 < l2.length) = true := decide_eq_true (by omega)
    clear c5
    obtain rfl := Option.some.inj H
    go_enter Try.func14, Try.ntmps14
    go_wp2_with (first | ((with_reducible refine gate_callee (f := 29) rfl ?_); refine goesL_ (some 15) rfl rfl Try.func29 (by kernel_rfl) rfl #[] rfl (by (try simp only [List.map_toArray, List.map_cons, List.map_nil]); first | done | rfl | (simp only [List.length_drop, List.length_take]; rfl)) ?_; (with_reducible refine (ambidexterlaw25_head.calls  true _ A4.out).mono ?_); rintro e w6 ⟨rfl, hb⟩; refine ⟨_, rfl, ?_⟩; have n0_ := Aside0.mk (below_step (by repeat (first | (with_reducible first | exact HB.out | apply below_alloc | apply pw_below_drewN | apply below_drew1) | exact HB.out)) hb); clear HB; have HB := n0_; clear n0_; (try clear hb); (try clear hb2); (try clear hk); (try clear hi)))
    go_ret
    exact ⟨by first | rfl | (simp [errW_none, errW_some] <;> rfl) | (simp [*, errW_none, errW_some] <;> rfl), by repeat (first | (with_reducible first | exact HB.out | apply below_alloc | apply pw_below_drewN | apply below_drew1) | exact HB.out)⟩
  · rw [if_neg c5] at H
    have c5b0 : decide (300 < (l2.length : Int)) = false := decide_eq_false c5
    have c5b1 : decide (300 < l2.length) = false := decide_eq_false (by omega)
    clear c5
    replace H := Option.bind_eq_some_iff.mp H
    obtain ⟨⟨t604, t605, t606, t607, t608⟩, A70, H⟩ := H
    replace H : ((servo_New.f (wrap64 ((wrap64 (a0)) + (wrap64 (16 * (wrap64 (a1))))))).bind fun bt610 => (ambidexterlaw25_ServoShiftInvariant.l0 k a1 l2 true 0 t604 t605 t606 t607 t608 bt610.1 bt610.2.1 bt610.2.2.1 bt610.2.2.2.1 bt610.2.2.2.2)) = some r := H
    have A7 := Aside0.mk A70
    clear A70
    replace H := Option.bind_eq_some_iff.mp H
    obtain ⟨⟨t610, t611, t612, t613, t614⟩, A80, H⟩ := H
    replace H : (ambidexterlaw25_ServoShiftInvariant.l0 k a1 l2 true 0 t604 t605 t606 t607 t608 t610 t611 t612 t613 t614) = some r := H
    have A8 := Aside0.mk A80
    clear A80
    have H' := Aside0.mk H
    clear H
    go_enter Try.func14, Try.ntmps14
    go_wp2_with (first | ((with_reducible refine gate_callee (f := 29) rfl ?_); refine goesL_ (some 15) rfl rfl Try.func29 (by kernel_rfl) rfl #[] rfl (by (try simp only [List.map_toArray, List.map_cons, List.map_nil]); first | done | rfl | (simp only [List.length_drop, List.length_take]; rfl)) ?_; (with_reducible refine (ambidexterlaw25_head.calls  true _ A4.out).mono ?_); rintro e w9 ⟨rfl, hb⟩; refine ⟨_, rfl, ?_⟩; have n0_ := Aside0.mk (below_step (by repeat (first | (with_reducible first | exact HB.out | apply below_alloc | apply pw_below_drewN | apply below_drew1) | exact HB.out)) hb); clear HB; have HB := n0_; clear n0_; (try clear hb); (try clear hb2); (try clear hk); (try clear hi)) | ((with_reducible refine gate_callee (f := 30) rfl ?_); refine goesL_ (some 22) rfl rfl Try.func30 (by kernel_rfl) rfl #[.int .i64 (wrap64 (a0))] rfl (by (try simp only [List.map_toArray, List.map_cons, List.map_nil]); first | done | rfl | (simp only [List.length_drop, List.length_take]; rfl)) ?_; (with_reducible refine (servo_New.calls (wrap64 (a0)) t604 t605 t606 t607 t608 _ A7.out).mono ?_); rintro e w10 ⟨rfl, hb⟩; refine ⟨_, rfl, ?_⟩; have n0_ := Aside0.mk (below_step (by repeat (first | (with_reducible first | exact HB.out | apply below_alloc | apply pw_below_drewN | apply below_drew1) | exact HB.out)) hb); clear HB; have HB := n0_; clear n0_; (try clear hb); (try clear hb2); (try clear hk); (try clear hi)) | ((with_reducible refine gate_dst (N := 8) rfl ?_); refine box_event ?hg (N := 8) ?hd (cs := #[.int .i64 0, .int .i64 0, .int .i64 0, .int .i64 0, .bool false]) (t := 49) ?hr ?_; (case hd => rfl); (case hg => rfl); (case hr => first | (go_simp; done) | (go_simp; rfl)); intro gb609 hg w11 hbox hb; have n0_ := Aside0.mk (below_step (by repeat (first | (with_reducible first | exact HB.out | apply below_alloc | apply pw_below_drewN | apply below_drew1) | exact HB.out)) hb); have n1_ := Aside0.mk (hbox); have n2_ := Aside0.mk ((by rw [hg]; exact (below_size (by repeat (first | (with_reducible first | exact HB.out | apply below_alloc | apply pw_below_drewN | apply below_drew1) | exact HB.out))) : w.heap.size ≤ gb609)); have n3_ := Aside0.mk ((by rw [hg]; exact (below_size (by repeat (first | (with_reducible first | exact HB.out | apply below_alloc | apply pw_below_drewN | apply below_drew1) | exact HB.out))) : w.heap.size ≤ gb609)); clear HB; have HB := n0_; have BK609 := n1_; have GW609 := n2_; have GE609 := n3_; clear n0_ n1_ n2_ n3_; clear hb hbox hg; have hcz12_0 : w11.cell? ⟨gb609, 0, none⟩ = some (.int .i64 0) := (blk_cell BK609.out 0).trans rfl; have hcz12_1 : w11.cell? ⟨gb609, 1, none⟩ = some (.int .i64 0) := (blk_cell BK609.out 1).trans rfl; have hcz12_2 : w11.cell? ⟨gb609, 2, none⟩ = some (.int .i64 0) := (blk_cell BK609.out 2).trans rfl; have hcz12_3 : w11.cell? ⟨gb609, 3, none⟩ = some (.int .i64 0) := (blk_cell BK609.out 3).trans rfl; have hcz12_4 : w11.cell? ⟨gb609, 4, none⟩ = some (.bool false) := (blk_cell BK609.out 4).trans rfl; have hfz12_0 := blk_frozen BK609.out 0; have hfz12_1 := blk_frozen BK609.out 1; have hfz12_2 := blk_frozen BK609.out 2; have hfz12_3 := blk_frozen BK609.out 3; have hfz12_4 := blk_frozen BK609.out 4) | ((with_reducible refine gate_callee (f := 30) rfl ?_); refine goesL_ (some 29) rfl rfl Try.func30 (by kernel_rfl) rfl #[.int .i64 (wrap64 ((wrap64 (a0)) + (wrap64 (16 * (wrap64 (a1))))))] rfl (by (try simp only [List.map_toArray, List.map_cons, List.map_nil]); first | done | rfl | (simp only [List.length_drop, List.length_take]; rfl)) ?_; (with_reducible refine (servo_New.calls (wrap64 ((wrap64 (a0)) + (wrap64 (16 * (wrap64 (a1)))))) t610 t611 t612 t613 t614 _ A8.out).mono ?_); rintro e w13 ⟨rfl, hb⟩; refine ⟨_, rfl, ?_⟩; have n0_ := Aside0.mk (blk_below (g := gb609) (o := .cells #[.int .i64 t604, .int .i64 t605, .int .i64 t606, .int .i64 t607, .bool t608] 49 (0, 0)) (by (with_reducible repeat (first | refine blk_drewN ?_ _ | refine blk_drew ?_ | refine blk_alloc ?_ _)); refine blk_put (cs := #[.int .i64 t604, .int .i64 t605, .int .i64 t606, .int .i64 t607, .bool false]) ?_ 4 _ rfl; (with_reducible repeat (first | refine blk_drewN ?_ _ | refine blk_drew ?_ | refine blk_alloc ?_ _)); refine blk_put (cs := #[.int .i64 t604, .int .i64 t605, .int .i64 t606, .int .i64 0, .bool false]) ?_ 3 _ rfl; (with_reducible repeat (first | refine blk_drewN ?_ _ | refine blk_drew ?_ | refine blk_alloc ?_ _)); refine blk_put (cs := #[.int .i64 t604, .int .i64 t605, .int .i64 0, .int .i64 0, .bool false]) ?_ 2 _ rfl; (with_reducible repeat (first | refine blk_drewN ?_ _ | refine blk_drew ?_ | refine blk_alloc ?_ _)); refine blk_put (cs := #[.int .i64 t604, .int .i64 0, .int .i64 0, .int .i64 0, .bool false]) ?_ 1 _ rfl; (with_reducible repeat (first | refine blk_drewN ?_ _ | refine blk_drew ?_ | refine blk_alloc ?_ _)); refine blk_put (cs := #[.int .i64 0, .int .i64 0, .int .i64 0, .int .i64 0, .bool false]) ?_ 0 _ rfl; (with_reducible repeat (first | refine blk_drewN ?_ _ | refine blk_drew ?_ | refine blk_alloc ?_ _)); exact BK609.out) hb); have n1_ := Aside0.mk (below_step (by repeat (first | (with_reducible first | exact HB.out | apply below_alloc | apply pw_below_drewN | apply below_drew1 | refine below_set ?_ GE609.out) | exact HB.out)) hb); clear BK609; clear HB; have BK609 := n0_; have HB := n1_; clear n0_ n1_; (try clear hb); (try clear hb2); (try clear hk); (try clear hi)) | ((with_reducible refine gate_dst (N := 9) rfl ?_); refine box_event ?hg (N := 9) ?hd (cs := #[.int .i64 0, .int .i64 0, .int .i64 0, .int .i64 0, .bool false]) (t := 49) ?hr ?_; (case hd => rfl); (case hg => rfl); (case hr => first | (go_simp; done) | (go_simp; rfl)); intro gb615 hg w14 hbox hb; have n0_ := Aside0.mk (blk_below (g := gb609) (o := .cells #[.int .i64 t604, .int .i64 t605, .int .i64 t606, .int .i64 t607, .bool t608] 49 (0, 0)) (by (with_reducible repeat (first | refine blk_drewN ?_ _ | refine blk_drew ?_ | refine blk_alloc ?_ _)); exact BK609.out) hb); have n1_ := Aside0.mk (below_step (by repeat (first | (with_reducible first | exact HB.out | apply below_alloc | apply pw_below_drewN | apply below_drew1 | refine below_set ?_ GE609.out) | exact HB.out)) hb); have n2_ := Aside0.mk (hbox); have n3_ := Aside0.mk ((by rw [hg]; exact (below_size (by repeat (first | (with_reducible first | exact HB.out | apply below_alloc | apply pw_below_drewN | apply below_drew1 | refine below_set ?_ GE609.out) | exact HB.out))) : w.heap.size ≤ gb615)); have n4_ := Aside0.mk ((by rw [hg]; exact (below_size (by repeat (first | (with_reducible first | exact HB.out | apply below_alloc | apply pw_below_drewN | apply below_drew1 | refine below_set ?_ GE609.out) | exact HB.out))) : w.heap.size ≤ gb615)); have n5_ := Aside0.mk ((by rw [hg]; exact Nat.ne_of_lt (blk_lt (g := gb609) (o := .cells #[.int .i64 t604, .int .i64 t605, .int .i64 t606, .int .i64 t607, .bool t608] 49 (0, 0)) (by (with_reducible repeat (first | refine blk_drewN ?_ _ | refine blk_drew ?_ | refine blk_alloc ?_ _)); exact BK609.out)) : gb609 ≠ gb615)); have n6_ := Aside0.mk ((by rw [hg]; exact Nat.ne_of_gt (blk_lt (g := gb609) (o := .cells #[.int .i64 t604, .int .i64 t605, .int .i64 t606, .int .i64 t607, .bool t608] 49 (0, 0)) (by (with_reducible repeat (first | refine blk_drewN ?_ _ | refine blk_drew ?_ | refine blk_alloc ?_ _)); exact BK609.out)) : gb615 ≠ gb609)); clear BK609; clear HB; have BK609 := n0_; have HB := n1_; have BK615 := n2_; have GW615 := n3_; have GE615 := n4_; have NB609_615 := n5_; have NB615_609 := n6_; clear n0_ n1_ n2_ n3_ n4_ n5_ n6_; clear hb hbox hg; have hnb15 := NB615_609.out; have hnc15 := NB609_615.out; have hcz16_0 : w14.cell? ⟨gb615, 0, none⟩ = some (.int .i64 0) := (blk_cell BK615.out 0).trans rfl; have hcz16_1 : w14.cell? ⟨gb615, 1, none⟩ = some (.int .i64 0) := (blk_cell BK615.out 1).trans rfl; have hcz16_2 : w14.cell? ⟨gb615, 2, none⟩ = some (.int .i64 0) := (blk_cell BK615.out 2).trans rfl; have hcz16_3 : w14.cell? ⟨gb615, 3, none⟩ = some (.int .i64 0) := (blk_cell BK615.out 3).trans rfl; have hcz16_4 : w14.cell? ⟨gb615, 4, none⟩ = some (.bool false) := (blk_cell BK615.out 4).trans rfl; have hfz16_0 := blk_frozen BK615.out 0; have hfz16_1 := blk_frozen BK615.out 1; have hfz16_2 := blk_frozen BK615.out 2; have hfz16_3 := blk_frozen BK615.out 3; have hfz16_4 := blk_frozen BK615.out 4))
    go_loopg [10] k (fun kq v10 w' => ∃ (x10_1 : Int) (x610000_1 : Int) (x610001_1 : Int) (x610002_1 : Int) (x610003_1 : Int) (x610004_1 : Bool) (x616000_1 : Int) (x616001_1 : Int) (x616002_1 : Int) (x616003_1 : Int) (x616004_1 : Bool), v10 = .int .i64 x10_1 ∧ Aside0 (ambidexterlaw25_ServoShiftInvariant.l0 kq a1 l2 true x10_1 x610000_1 x610001_1 x610002_1 x610003_1 x610004_1 x616000_1 x616001_1 x616002_1 x616003_1 x616004_1 = some r) ∧ Aside0 (kq ≤ k) ∧ Aside0 (w'.heap[gb609]? = some (.cells #[.int .i64 x610000_1, .int .i64 x610001_1, .int .i64 x610002_1, .int .i64 x610003_1, .bool x610004_1] 49 (0, 0))) ∧ Aside0 (w'.heap[gb615]? = some (.cells #[.int .i64 x616000_1, .int .i64 x616001_1, .int .i64 x616002_1, .int .i64 x616003_1, .bool x616004_1] 49 (0, 0))) ∧ Aside0 (Below w.heap.size w w'))
    case atStart => exact ⟨(0), (t604), (t605), (t606), (t607), (t608), (t610), (t611), (t612), (t613), (t614), (by first | rfl | (simp; done) | (simp [*]; done)), H', ⟨Nat.le_refl _⟩, ⟨by (with_reducible repeat (first | refine blk_drewN ?_ _ | refine blk_drew ?_ | refine blk_alloc ?_ _)); refine blk_far ?_ NB609_615.out _; (with_reducible repeat (first | refine blk_drewN ?_ _ | refine blk_drew ?_ | refine blk_alloc ?_ _)); refine blk_far ?_ NB609_615.out _; (with_reducible repeat (first | refine blk_drewN ?_ _ | refine blk_drew ?_ | refine blk_alloc ?_ _)); refine blk_far ?_ NB609_615.out _; (with_reducible repeat (first | refine blk_drewN ?_ _ | refine blk_drew ?_ | refine blk_alloc ?_ _)); refine blk_far ?_ NB609_615.out _; (with_reducible repeat (first | refine blk_drewN ?_ _ | refine blk_drew ?_ | refine blk_alloc ?_ _)); refine blk_far ?_ NB609_615.out _; (with_reducible repeat (first | refine blk_drewN ?_ _ | refine blk_drew ?_ | refine blk_alloc ?_ _)); exact BK609.out⟩, ⟨by (with_reducible repeat (first | refine blk_drewN ?_ _ | refine blk_drew ?_ | refine blk_alloc ?_ _)); refine blk_put (cs := #[.int .i64 t610, .int .i64 t611, .int .i64 t612, .int .i64 t613, .bool false]) ?_ 4 _ rfl; (with_reducible repeat (first | refine blk_drewN ?_ _ | refine blk_drew ?_ | refine blk_alloc ?_ _)); refine blk_put (cs := #[.int .i64 t610, .int .i64 t611, .int .i64 t612, .int .i64 0, .bool false]) ?_ 3 _ rfl; (with_reducible repeat (first | refine blk_drewN ?_ _ | refine blk_drew ?_ | refine blk_alloc ?_ _)); refine blk_put (cs := #[.int .i64 t610, .int .i64 t611, .int .i64 0, .int .i64 0, .bool false]) ?_ 2 _ rfl; (with_reducible repeat (first | refine blk_drewN ?_ _ | refine blk_drew ?_ | refine blk_alloc ?_ _)); refine blk_put (cs := #[.int .i64 t610, .int .i64 0, .int .i64 0, .int .i64 0, .bool false]) ?_ 1 _ rfl; (with_reducible repeat (first | refine blk_drewN ?_ _ | refine blk_drew ?_ | refine blk_alloc ?_ _)); refine blk_put (cs := #[.int .i64 0, .int .i64 0, .int .i64 0, .int .i64 0, .bool false]) ?_ 0 _ rfl; (with_reducible repeat (first | refine blk_drewN ?_ _ | refine blk_drew ?_ | refine blk_alloc ?_ _)); exact BK615.out⟩, ⟨by repeat (first | (with_reducible first | exact HB.out | apply below_alloc | apply pw_below_drewN | apply below_drew1 | refine below_set ?_ GE609.out | refine below_set ?_ GE615.out) | exact HB.out)⟩⟩
    case round =>
      clear H'
      try clear c1
      try clear c2
      try clear p2
      try clear c3
      try clear c5
      try clear c5b0
      try clear c5b1
      try clear p6
      try clear c14
      try clear c15
      try clear hcz12_0
      try clear hcz12_1
      try clear hcz12_2
      try clear hcz12_3
      try clear hcz12_4
      try clear hcz16_0
      try clear hcz16_1
      try clear hcz16_2
      try clear hcz16_3
      try clear hcz16_4
      try clear hfz12_0
      try clear hfz12_1
      try clear hfz12_2
      try clear hfz12_3
      try clear hfz12_4
      try clear hfz16_0
      try clear hfz16_1
      try clear hfz16_2
      try clear hfz16_3
      try clear hfz16_4
      obtain ⟨x10_1, x610000_1, x610001_1, x610002_1, x610003_1, x610004_1, x616000_1, x616001_1, x616002_1, x616003_1, x616004_1, rfl, HA, HK1, BK609, BK615, HB⟩ := hrel
      cases gk with
      | zero => exact absurd HA.out (by simp [ambidexterlaw25_ServoShiftInvariant.l0])
      | succ k1 =>
        have H := HA.out
        clear HA
        simp only [ambidexterlaw25_ServoShiftInvariant.l0] at H
        by_cases c17 : x10_1 < (l2.length : Int)
        · rw [if_pos c17] at H
          have c17b0 : decide (x10_1 < (l2.length : Int)) = true := decide_eq_true c17
          clear c17
          by_cases c18 : 0 ≤ x10_1
          · rw [if_pos c18] at H
            have c18b0 : decide (0 ≤ x10_1) = true := decide_eq_true c18
            clear c18
            replace H := Option.bind_eq_some_iff.mp H
            obtain ⟨⟨t619, t620, t621, t622, t623, t624⟩, A190, H⟩ := H
            replace H : ((servo_Step.f x616000_1 x616001_1 x616002_1 x616003_1 x616004_1 (Int.tmod (wrap64 ((rd_T54 l2 x10_1).f0)) 4) (wrap64 ((wrap64 ((rd_T54 l2 x10_1).f1)) + (wrap64 (a1)))) (wrap64 ((wrap64 ((rd_T54 l2 x10_1).f2)) + (wrap64 (a1))))).bind fun bt629 => (if t624 = bt629.2.2.2.2.2 then (if (t623 != bt629.2.2.2.2.1) = true then (some false) else (ambidexterlaw25_ServoShiftInvariant.l0 k1 a1 l2 true (wrap64 (x10_1 + 1)) t619 t620 t621 t622 t623 bt629.1 bt629.2.1 bt629.2.2.1 bt629.2.2.2.1 bt629.2.2.2.2.1)) else (some false))) = some r := H
            have A19 := Aside0.mk A190
            clear A190
            replace H := Option.bind_eq_some_iff.mp H
            obtain ⟨⟨t629, t630, t631, t632, t633, t634⟩, A200, H⟩ := H
            replace H : (if t624 = t634 then (if (t623 != t633) = true then (some false) else (ambidexterlaw25_ServoShiftInvariant.l0 k1 a1 l2 true (wrap64 (x10_1 + 1)) t619 t620 t621 t622 t623 t629 t630 t631 t632 t633)) else (some false)) = some r := H
            have A20 := Aside0.mk A200
            clear A200
            by_cases c21 : t624 = t634
            · rw [if_pos c21] at H
              have c21b0 : (t624 == t634) = true := beq_iff_eq.mpr c21
              have c21b1 : (t624 != t634) = false := bne_eq_false_iff_eq.mpr c21
              clear c21
              by_cases c22 : (t623 != t633) = true
              · rw [if_pos c22] at H
                have c22b0 : (t623 != t633) = true := c22
                (try (have c22b1 : decide (t623 = t633) = false := by simpa using c22))
                (try (have c22b2 : (t623 == t633) = false := by simpa using c22))
                (try (have c22b3 : ¬ (t623 = t633) := by simpa using c22))
                clear c22
                exact absurd HT.out (by rw [← Option.some.inj H]; decide)
              · rw [if_neg c22] at H
                have c22b0 : (t623 != t633) = false := by simpa using c22
                (try (have c22b1 : decide (t623 = t633) = true := by simpa using c22))
                (try (have c22b2 : (t623 == t633) = true := by simpa using c22))
                clear c22
                have H' := Aside0.mk H
                clear H
                try go_wp2
                have n0_ := Aside0.mk (blk_drew BK609.out)
                have n1_ := Aside0.mk (blk_drew BK615.out)
                have n2_ := Aside0.mk (below_drew1 HB.out)
                clear BK609
                clear BK615
                clear HB
                have BK609 := n0_
                have BK615 := n1_
                have HB := n2_
                clear n0_ n1_ n2_
                have p616 : 0 ≤ (x10_1 : Int) := of_decide_eq_true (by first | (with_reducible assumption) | assumption)
                have q616 : x10_1 < (l2.length : Int) := of_decide_eq_true (by first | (with_reducible assumption) | assumption)
                obtain ⟨ad616, e616, hx616_0, hx616_1, hx616_2⟩ := at_T54 HR2.out x10_1 p616 q616
                have hw616_2 := hx616_2
                have hw616_1 := hx616_1
                have hw616_0 := hx616_0
                cases e616
                replace hx616_0 := (HB.out.cell (World.block_lt_of_cell? w _ hx616_0)).trans hx616_0
                replace hx616_1 := (HB.out.cell (World.block_lt_of_cell? w _ hx616_1)).trans hx616_1
                replace hx616_2 := (HB.out.cell (World.block_lt_of_cell? w _ hx616_2)).trans hx616_2
                replace p616 := eq_true p616
                replace q616 := eq_true q616
                have p617 : 0 ≤ (x10_1 : Int) := of_decide_eq_true (by first | (with_reducible assumption) | assumption)
                have q617 : x10_1 < (l2.length : Int) := of_decide_eq_true (by first | (with_reducible assumption) | assumption)
                obtain ⟨ad617, e617, hx617_0, hx617_1, hx617_2⟩ := at_T54 HR2.out x10_1 p617 q617
                have hw617_2 := hx617_2
                have hw617_1 := hx617_1
                have hw617_0 := hx617_0
                obtain rfl : ad616 = ad617 := (by injection e617)
                replace hx617_0 := (HB.out.cell (World.block_lt_of_cell? w _ hx617_0)).trans hx617_0
                replace hx617_1 := (HB.out.cell (World.block_lt_of_cell? w _ hx617_1)).trans hx617_1
                replace hx617_2 := (HB.out.cell (World.block_lt_of_cell? w _ hx617_2)).trans hx617_2
                replace p617 := eq_true p617
                replace q617 := eq_true q617
                have p618 : 0 ≤ (x10_1 : Int) := of_decide_eq_true (by first | (with_reducible assumption) | assumption)
                have q618 : x10_1 < (l2.length : Int) := of_decide_eq_true (by first | (with_reducible assumption) | assumption)
                obtain ⟨ad618, e618, hx618_0, hx618_1, hx618_2⟩ := at_T54 HR2.out x10_1 p618 q618
                have hw618_2 := hx618_2
                have hw618_1 := hx618_1
                have hw618_0 := hx618_0
                obtain rfl : ad616 = ad618 := (by injection e618)
                replace hx618_0 := (HB.out.cell (World.block_lt_of_cell? w _ hx618_0)).trans hx618_0
                replace hx618_1 := (HB.out.cell (World.block_lt_of_cell? w _ hx618_1)).trans hx618_1
                replace hx618_2 := (HB.out.cell (World.block_lt_of_cell? w _ hx618_2)).trans hx618_2
                replace p618 := eq_true p618
                replace q618 := eq_true q618
                refine start_ (n := 27) (S := fun w' => w'.cell? ⟨gb609, 0, none⟩ = some (.int .i64 x610000_1) ∧ w'.cell? ⟨gb609, 1, none⟩ = some (.int .i64 x610001_1) ∧ w'.cell? ⟨gb609, 2, none⟩ = some (.int .i64 x610002_1) ∧ w'.cell? ⟨gb609, 3, none⟩ = some (.int .i64 x610003_1) ∧ w'.cell? ⟨gb609, 4, none⟩ = some (.bool x610004_1) ∧ w'.cell? (ad616.add ((x10_1).toNat * 3)) = some (.int .u8 ((rd_T54 l2 x10_1).f0)) ∧ w'.cell? ⟨(ad616.add ((x10_1).toNat * 3)).block, (ad616.add ((x10_1).toNat * 3)).off + 1, none⟩ = some (.int .i16 ((rd_T54 l2 x10_1).f1)) ∧ w'.cell? ⟨(ad616.add ((x10_1).toNat * 3)).block, (ad616.add ((x10_1).toNat * 3)).off + 2, none⟩ = some (.int .i16 ((rd_T54 l2 x10_1).f2)) ∧ w'.cell? (ad616.add ((x10_1).toNat * 3)) = some (.int .u8 ((rd_T54 l2 x10_1).f0)) ∧ w'.cell? ⟨(ad616.add ((x10_1).toNat * 3)).block, (ad616.add ((x10_1).toNat * 3)).off + 1, none⟩ = some (.int .i16 ((rd_T54 l2 x10_1).f1)) ∧ w'.cell? ⟨(ad616.add ((x10_1).toNat * 3)).block, (ad616.add ((x10_1).toNat * 3)).off + 2, none⟩ = some (.int .i16 ((rd_T54 l2 x10_1).f2)) ∧ w'.cell? (ad616.add ((x10_1).toNat * 3)) = some (.int .u8 ((rd_T54 l2 x10_1).f0)) ∧ w'.cell? ⟨(ad616.add ((x10_1).toNat * 3)).block, (ad616.add ((x10_1).toNat * 3)).off + 1, none⟩ = some (.int .i16 ((rd_T54 l2 x10_1).f1)) ∧ w'.cell? ⟨(ad616.add ((x10_1).toNat * 3)).block, (ad616.add ((x10_1).toNat * 3)).off + 2, none⟩ = some (.int .i16 ((rd_T54 l2 x10_1).f2))) (ds := []) #[false, false, false, false, false, false, false, false, false, false, false, false, false, false, false, false, false, false, false, false, false, false, false, false, false, false, false] (by kernel_rfl) rfl rfl ⟨(blk_cell BK609.out 0).trans rfl, (blk_cell BK609.out 1).trans rfl, (blk_cell BK609.out 2).trans rfl, (blk_cell BK609.out 3).trans rfl, (blk_cell BK609.out 4).trans rfl, ((HB.out.cell (World.block_lt_of_cell? w _ hw616_0)).trans hw616_0), ((HB.out.cell (World.block_lt_of_cell? w _ hw616_1)).trans hw616_1), ((HB.out.cell (World.block_lt_of_cell? w _ hw616_2)).trans hw616_2), ((HB.out.cell (World.block_lt_of_cell? w _ hw617_0)).trans hw617_0), ((HB.out.cell (World.block_lt_of_cell? w _ hw617_1)).trans hw617_1), ((HB.out.cell (World.block_lt_of_cell? w _ hw617_2)).trans hw617_2), ((HB.out.cell (World.block_lt_of_cell? w _ hw618_0)).trans hw618_0), ((HB.out.cell (World.block_lt_of_cell? w _ hw618_1)).trans hw618_1), ((HB.out.cell (World.block_lt_of_cell? w _ hw618_2)).trans hw618_2)⟩ (fun hHeld => ?_); refine with_tabW ambidexterlaw25_ServoShiftInvariant.tab9 ambidexterlaw25_ServoShiftInvariant.bits9 (fun HT_ HW_ => ?_)
                generalize wr.drew = w23 at BK609 BK615 HB hx616_0 hx616_1 hx616_2 hx617_0 hx617_1 hx617_2 hx618_0 hx618_1 hx618_2 hHeld ⊢
                refine pure_ (i := 1) (N := some 38) (v := ?_) (a' := ?_) #[false, true, false, false, false, false, false, false, false, false, false, false, false, false, false, false, false, false, false, false, false, false, false, false, false, false, false] rfl rfl (any_of HT_.out (by kernel_rfl)) (fun _ _ _ h => h) (Or.inl ⟨by rfl, ?_⟩) ?_ ?_
                rotate_left
                · intro w'
                  go_simp
                  with_reducible rfl
                rotate_left
                · simp only [Act.put, List.setIfInBounds_toArray, List.set_cons_zero, List.set_cons_succ, i64_w, i32_w]
                  rfl
                refine pure_ (i := 2) (N := some 39) (v := ?_) (a' := ?_) #[false, true, true, false, false, false, false, false, false, false, false, false, false, false, false, false, false, false, false, false, false, false, false, false, false, false, false] rfl rfl (any_of HT_.out (by kernel_rfl)) (fun _ _ _ h => h) (Or.inl ⟨by rfl, ?_⟩) ?_ ?_
                rotate_left
                · intro w'
                  go_simp
                  with_reducible rfl
                rotate_left
                · simp only [Act.put, List.setIfInBounds_toArray, List.set_cons_zero, List.set_cons_succ, i64_w, i32_w]
                  rfl
                refine pure_ (i := 3) (N := some 40) (v := ?_) (a' := ?_) #[false, true, true, true, false, false, false, false, false, false, false, false, false, false, false, false, false, false, false, false, false, false, false, false, false, false, false] rfl rfl (any_of HT_.out (by kernel_rfl)) (fun _ _ _ h => h) (Or.inl ⟨by rfl, ?_⟩) ?_ ?_
                rotate_left
                · intro w'
                  go_simp
                  with_reducible rfl
                rotate_left
                · simp only [Act.put, List.setIfInBounds_toArray, List.set_cons_zero, List.set_cons_succ, i64_w, i32_w]
                  rfl
                refine pure_ (i := 4) (N := some 41) (v := ?_) (a' := ?_) #[false, true, true, true, true, false, false, false, false, false, false, false, false, false, false, false, false, false, false, false, false, false, false, false, false, false, false] rfl rfl (any_of HT_.out (by kernel_rfl)) (fun _ _ _ h => h) (Or.inl ⟨by rfl, ?_⟩) ?_ ?_
                rotate_left
                · intro w'
                  go_simp
                  with_reducible rfl
                rotate_left
                · simp only [Act.put, List.setIfInBounds_toArray, List.set_cons_zero, List.set_cons_succ, i64_w, i32_w]
                  rfl
                refine pure_ (i := 8) (N := some 45) (v := ?_) (a' := ?_) #[false, true, true, true, true, false, false, false, true, false, false, false, false, false, false, false, false, false, false, false, false, false, false, false, false, false, false] rfl rfl (any_of HT_.out (by kernel_rfl)) (fun _ _ _ h => h) (Or.inl ⟨by rfl, ?_⟩) ?_ ?_
                rotate_left
                · intro w'
                  go_simp
                  with_reducible rfl
                rotate_left
                · simp only [Act.put, List.setIfInBounds_toArray, List.set_cons_zero, List.set_cons_succ, i64_w, i32_w]
                  rfl
                refine pure_ (i := 9) (N := some 46) (v := ?_) (a' := ?_) #[false, true, true, true, true, false, false, false, true, true, false, false, false, false, false, false, false, false, false, false, false, false, false, false, false, false, false] rfl rfl (any_of HT_.out (by kernel_rfl)) (fun _ _ _ h => h) (Or.inl ⟨by rfl, ?_⟩) ?_ ?_
                rotate_left
                · intro w'
                  go_simp
                  with_reducible rfl
                rotate_left
                · simp only [Act.put, List.setIfInBounds_toArray, List.set_cons_zero, List.set_cons_succ, i64_w, i32_w]
                  rfl
                refine pure_ (i := 10) (N := some 47) (v := ?_) (a' := ?_) #[false, true, true, true, true, false, false, false, true, true, true, false, false, false, false, false, false, false, false, false, false, false, false, false, false, false, false] rfl rfl (any_of HT_.out (by kernel_rfl)) (fun _ _ _ h => h) (Or.inl ⟨by rfl, ?_⟩) ?_ ?_
                rotate_left
                · intro w'
                  go_simp
                  with_reducible rfl
                rotate_left
                · simp only [Act.put, List.setIfInBounds_toArray, List.set_cons_zero, List.set_cons_succ, i64_w, i32_w]
                  rfl
                refine pure_ (i := 11) (N := some 48) (v := ?_) (a' := ?_) #[false, true, true, true, true, false, false, false, true, true, true, true, false, false, false, false, false, false, false, false, false, false, false, false, false, false, false] rfl rfl (any_of HT_.out (by kernel_rfl)) (fun _ _ _ h => h) (Or.inl ⟨by rfl, ?_⟩) ?_ ?_
                rotate_left
                · intro w'
                  go_simp
                  with_reducible rfl
                rotate_left
                · simp only [Act.put, List.setIfInBounds_toArray, List.set_cons_zero, List.set_cons_succ, i64_w, i32_w]
                  rfl
                refine pure_ (i := 14) (N := some 51) (v := ?_) (a' := ?_) #[false, true, true, true, true, false, false, false, true, true, true, true, false, false, true, false, false, false, false, false, false, false, false, false, false, false, false] rfl rfl (any_of HT_.out (by kernel_rfl)) (fun _ _ _ h => h) (Or.inl ⟨by rfl, ?_⟩) ?_ ?_
                rotate_left
                · intro w'
                  go_simp
                  with_reducible rfl
                rotate_left
                · simp only [Act.put, List.setIfInBounds_toArray, List.set_cons_zero, List.set_cons_succ, i64_w, i32_w]
                  rfl
                refine pure_ (i := 15) (N := some 52) (v := ?_) (a' := ?_) #[false, true, true, true, true, false, false, false, true, true, true, true, false, false, true, true, false, false, false, false, false, false, false, false, false, false, false] rfl rfl (any_of HT_.out (by kernel_rfl)) (fun _ _ _ h => h) (Or.inl ⟨by rfl, ?_⟩) ?_ ?_
                rotate_left
                · intro w'
                  go_simp
                  with_reducible rfl
                rotate_left
                · simp only [Act.put, List.setIfInBounds_toArray, List.set_cons_zero, List.set_cons_succ, i64_w, i32_w]
                  rfl
                refine pure_ (i := 16) (N := some 53) (v := ?_) (a' := ?_) #[false, true, true, true, true, false, false, false, true, true, true, true, false, false, true, true, true, false, false, false, false, false, false, false, false, false, false] rfl rfl (any_of HT_.out (by kernel_rfl)) (fun _ _ _ h => h) (Or.inl ⟨by rfl, ?_⟩) ?_ ?_
                rotate_left
                · intro w'
                  go_simp
                  with_reducible rfl
                rotate_left
                · simp only [Act.put, List.setIfInBounds_toArray, List.set_cons_zero, List.set_cons_succ, i64_w, i32_w]
                  rfl
                refine pure_ (i := 17) (N := some 54) (v := ?_) (a' := ?_) #[false, true, true, true, true, false, false, false, true, true, true, true, false, false, true, true, true, true, false, false, false, false, false, false, false, false, false] rfl rfl (any_of HT_.out (by kernel_rfl)) (fun _ _ _ h => h) (Or.inl ⟨by rfl, ?_⟩) ?_ ?_
                rotate_left
                · intro w'
                  go_simp
                  with_reducible rfl
                rotate_left
                · simp only [Act.put, List.setIfInBounds_toArray, List.set_cons_zero, List.set_cons_succ, i64_w, i32_w]
                  rfl
                refine take_ (i := 0) (N := some 37) (v := ?_) (a' := ?_) #[true, true, true, true, true, false, false, false, true, true, true, true, false, false, true, true, true, true, false, false, false, false, false, false, false, false, false] rfl rfl (take_ofW HT_.out HW_.out (by kernel_rfl)) (fun _ _ _ h => h) (Or.inl ⟨by rfl, ?_⟩) hHeld ?_ ?_
                rotate_left
                · rintro w' ⟨s0, s1, s2, s3, s4, s5, s6, s7, s8, s9, s10, s11, s12, s13⟩
                  go_simp
                  with_reducible rfl
                rotate_left
                · simp only [Act.put, List.setIfInBounds_toArray, List.set_cons_zero, List.set_cons_succ, i64_w, i32_w]
                  rfl
                refine take_ (i := 5) (N := some 42) (v := ?_) (a' := ?_) #[true, true, true, true, true, true, false, false, true, true, true, true, false, false, true, true, true, true, false, false, false, false, false, false, false, false, false] rfl rfl (take_ofW HT_.out HW_.out (by kernel_rfl)) (fun _ _ _ h => h) (Or.inl ⟨by rfl, ?_⟩) hHeld ?_ ?_
                rotate_left
                · rintro w' ⟨s0, s1, s2, s3, s4, s5, s6, s7, s8, s9, s10, s11, s12, s13⟩
                  go_simp
                  with_reducible rfl
                rotate_left
                · simp only [Act.put, List.setIfInBounds_toArray, List.set_cons_zero, List.set_cons_succ, i64_w, i32_w]
                  rfl
                refine pure_ (i := 6) (N := some 43) (v := ?_) (a' := ?_) #[true, true, true, true, true, true, true, false, true, true, true, true, false, false, true, true, true, true, false, false, false, false, false, false, false, false, false] rfl rfl (any_of HT_.out (by kernel_rfl)) (fun _ _ _ h => h) (Or.inl ⟨by rfl, ?_⟩) ?_ ?_
                rotate_left
                · intro w'
                  go_simp
                  with_reducible rfl
                rotate_left
                · simp only [Act.put, List.setIfInBounds_toArray, List.set_cons_zero, List.set_cons_succ, i64_w, i32_w]
                  rfl
                refine pure_ (i := 7) (N := some 44) (v := ?_) (a' := ?_) #[true, true, true, true, true, true, true, true, true, true, true, true, false, false, true, true, true, true, false, false, false, false, false, false, false, false, false] rfl rfl (any_of HT_.out (by kernel_rfl)) (fun _ _ _ h => h) (Or.inl ⟨by rfl, ?_⟩) ?_ ?_
                rotate_left
                · intro w'
                  go_simp
                  with_reducible rfl
                rotate_left
                · simp only [Act.put, List.setIfInBounds_toArray, List.set_cons_zero, List.set_cons_succ, i64_w, i32_w]
                  rfl
                refine take_ (i := 12) (N := some 49) (v := ?_) (a' := ?_) #[true, true, true, true, true, true, true, true, true, true, true, true, true, false, true, true, true, true, false, false, false, false, false, false, false, false, false] rfl rfl (take_ofW HT_.out HW_.out (by kernel_rfl)) (fun _ _ _ h => h) (Or.inl ⟨by rfl, ?_⟩) hHeld ?_ ?_
                rotate_left
                · rintro w' ⟨s0, s1, s2, s3, s4, s5, s6, s7, s8, s9, s10, s11, s12, s13⟩
                  go_simp
                  with_reducible rfl
                rotate_left
                · simp only [Act.put, List.setIfInBounds_toArray, List.set_cons_zero, List.set_cons_succ, i64_w, i32_w]
                  rfl
                refine pure_ (i := 13) (N := some 50) (v := ?_) (a' := ?_) #[true, true, true, true, true, true, true, true, true, true, true, true, true, true, true, true, true, true, false, false, false, false, false, false, false, false, false] rfl rfl (any_of HT_.out (by kernel_rfl)) (fun _ _ _ h => h) (Or.inl ⟨by rfl, ?_⟩) ?_ ?_
                rotate_left
                · intro w'
                  go_simp
                  with_reducible rfl
                rotate_left
                · simp only [Act.put, List.setIfInBounds_toArray, List.set_cons_zero, List.set_cons_succ, i64_w, i32_w]
                  rfl
                refine take_ (i := 18) (N := some 55) (v := ?_) (a' := ?_) #[true, true, true, true, true, true, true, true, true, true, true, true, true, true, true, true, true, true, true, false, false, false, false, false, false, false, false] rfl rfl (take_ofW HT_.out HW_.out (by kernel_rfl)) (fun _ _ _ h => h) (Or.inl ⟨by rfl, ?_⟩) hHeld ?_ ?_
                rotate_left
                · rintro w' ⟨s0, s1, s2, s3, s4, s5, s6, s7, s8, s9, s10, s11, s12, s13⟩
                  go_simp
                  with_reducible rfl
                rotate_left
                · simp only [Act.put, List.setIfInBounds_toArray, List.set_cons_zero, List.set_cons_succ, i64_w, i32_w]
                  rfl
                refine pure_ (i := 19) (N := some 56) (v := ?_) (a' := ?_) #[true, true, true, true, true, true, true, true, true, true, true, true, true, true, true, true, true, true, true, true, false, false, false, false, false, false, false] rfl rfl (any_of HT_.out (by kernel_rfl)) (fun _ _ _ h => h) (Or.inl ⟨by rfl, ?_⟩) ?_ ?_
                rotate_left
                · intro w'
                  go_simp
                  with_reducible rfl
                rotate_left
                · simp only [Act.put, List.setIfInBounds_toArray, List.set_cons_zero, List.set_cons_succ, i64_w, i32_w]
                  rfl
                refine join_ (σ := Nat) 2 #[true, true, true, true, true, true, true, true, true, true, true, true, true, true, true, true, true, true, true, true, true, true, true, true, true, false, false] (fun s_ => [(57, .tuple #[.agg #[.int .i64 t619, .int .i64 t620, .int .i64 t621, .int .i64 t622, .bool t623], .int .i64 t624]), (11, .pointer (some ⟨s_, 0, none⟩)), (36, .tuple #[.agg #[.int .i64 t619, .int .i64 t620, .int .i64 t621, .int .i64 t622, .bool t623], .int .i64 t624]), (58, .agg #[.int .i64 t619, .int .i64 t620, .int .i64 t621, .int .i64 t622, .bool t623]), (59, .int .i64 t624)]) (fun s_ w' => (w'.cell? ⟨gb609, 0, none⟩ = some (.int .i64 x610000_1) ∧ w'.cell? ⟨gb609, 1, none⟩ = some (.int .i64 x610001_1) ∧ w'.cell? ⟨gb609, 2, none⟩ = some (.int .i64 x610002_1) ∧ w'.cell? ⟨gb609, 3, none⟩ = some (.int .i64 x610003_1) ∧ w'.cell? ⟨gb609, 4, none⟩ = some (.bool x610004_1) ∧ w'.cell? (ad616.add ((x10_1).toNat * 3)) = some (.int .u8 ((rd_T54 l2 x10_1).f0)) ∧ w'.cell? ⟨(ad616.add ((x10_1).toNat * 3)).block, (ad616.add ((x10_1).toNat * 3)).off + 1, none⟩ = some (.int .i16 ((rd_T54 l2 x10_1).f1)) ∧ w'.cell? ⟨(ad616.add ((x10_1).toNat * 3)).block, (ad616.add ((x10_1).toNat * 3)).off + 2, none⟩ = some (.int .i16 ((rd_T54 l2 x10_1).f2)) ∧ w'.cell? (ad616.add ((x10_1).toNat * 3)) = some (.int .u8 ((rd_T54 l2 x10_1).f0)) ∧ w'.cell? ⟨(ad616.add ((x10_1).toNat * 3)).block, (ad616.add ((x10_1).toNat * 3)).off + 1, none⟩ = some (.int .i16 ((rd_T54 l2 x10_1).f1)) ∧ w'.cell? ⟨(ad616.add ((x10_1).toNat * 3)).block, (ad616.add ((x10_1).toNat * 3)).off + 2, none⟩ = some (.int .i16 ((rd_T54 l2 x10_1).f2)) ∧ w'.cell? (ad616.add ((x10_1).toNat * 3)) = some (.int .u8 ((rd_T54 l2 x10_1).f0)) ∧ w'.cell? ⟨(ad616.add ((x10_1).toNat * 3)).block, (ad616.add ((x10_1).toNat * 3)).off + 1, none⟩ = some (.int .i16 ((rd_T54 l2 x10_1).f1)) ∧ w'.cell? ⟨(ad616.add ((x10_1).toNat * 3)).block, (ad616.add ((x10_1).toNat * 3)).off + 2, none⟩ = some (.int .i16 ((rd_T54 l2 x10_1).f2))) ∧ (w'.heap[gb609]? = some (.cells #[.int .i64 x610000_1, .int .i64 x610001_1, .int .i64 x610002_1, .int .i64 x610003_1, .bool x610004_1] 49 (0, 0))) ∧ (w'.heap[gb615]? = some (.cells #[.int .i64 x616000_1, .int .i64 x616001_1, .int .i64 x616002_1, .int .i64 x616003_1, .bool x616004_1] 49 (0, 0))) ∧ (w'.heap[s_]? = some (.cells #[.int .i64 0, .int .i64 0, .int .i64 0, .int .i64 0, .bool false] 49 (0, 0))) ∧ (w.heap.size ≤ s_) ∧ (w.heap.size ≤ s_) ∧ (gb609 ≠ s_) ∧ (s_ ≠ gb609) ∧ (gb615 ≠ s_) ∧ (s_ ≠ gb615) ∧ (Below w.heap.size w w')) ?_ ?_
                rotate_left
                · intro hCont
                  refine two_ (i := 20) (j := 24) (Ni := some 57) (Nj := some 11) #[true, true, true, true, true, true, true, true, true, true, true, true, true, true, true, true, true, true, true, true, true, false, false, false, false, false, false] #[true, true, true, true, true, true, true, true, true, true, true, true, true, true, true, true, true, true, true, true, false, false, false, false, true, false, false] rfl rfl rfl rfl (two_of HT_.out (by kernel_rfl)) (by decide) (by decide) (fun K hK => ?_) (fun K hK => ?_)
                  · skip
                    refine goes_ Try.func32 (by kernel_rfl) rfl #[.agg #[.int .i64 x610000_1, .int .i64 x610001_1, .int .i64 x610002_1, .int .i64 x610003_1, .bool x610004_1], .int .i64 (Int.tmod (wrap64 ((rd_T54 l2 x10_1).f0)) 4), .int .i64 (wrap64 ((rd_T54 l2 x10_1).f1)), .int .i64 (wrap64 ((rd_T54 l2 x10_1).f2))] (by rfl) rfl rfl (by (try simp only [List.map_toArray, List.map_cons, List.map_nil]); first | done | rfl | (simp only [List.length_drop, List.length_take]; rfl)) ?_
                    with_reducible refine (servo_Step.calls x610000_1 x610001_1 x610002_1 x610003_1 x610004_1 (Int.tmod (wrap64 ((rd_T54 l2 x10_1).f0)) 4) (wrap64 ((rd_T54 l2 x10_1).f1)) (wrap64 ((rd_T54 l2 x10_1).f2)) t619 t620 t621 t622 t623 t624 _ A19.out).mono ?_
                    rintro e w24 ⟨rfl, hb⟩
                    refine ⟨_, rfl, ?_⟩
                    have n0_ := Aside0.mk (blk_below (g := gb609) (o := .cells #[.int .i64 x610000_1, .int .i64 x610001_1, .int .i64 x610002_1, .int .i64 x610003_1, .bool x610004_1] 49 (0, 0)) (by (with_reducible repeat (first | refine blk_drewN ?_ _ | refine blk_drew ?_ | refine blk_alloc ?_ _)); exact BK609.out) hb)
                    have n1_ := Aside0.mk (blk_below (g := gb615) (o := .cells #[.int .i64 x616000_1, .int .i64 x616001_1, .int .i64 x616002_1, .int .i64 x616003_1, .bool x616004_1] 49 (0, 0)) (by (with_reducible repeat (first | refine blk_drewN ?_ _ | refine blk_drew ?_ | refine blk_alloc ?_ _)); exact BK615.out) hb)
                    have n2_ := Aside0.mk (below_step (by repeat (first | (with_reducible first | exact HB.out | apply below_alloc | apply pw_below_drewN | apply below_drew1 | refine below_set ?_ GE609.out | refine below_set ?_ GE615.out) | exact HB.out)) hb)
                    clear BK609
                    clear BK615
                    clear HB
                    have BK609 := n0_
                    have BK615 := n1_
                    have HB := n2_
                    clear n0_ n1_ n2_
                    (try clear hb)
                    (try clear hb2)
                    (try clear hk)
                    (try clear hi)
                    refine hK.out _ _ ⟨(blk_cell BK609.out 0).trans rfl, (blk_cell BK609.out 1).trans rfl, (blk_cell BK609.out 2).trans rfl, (blk_cell BK609.out 3).trans rfl, (blk_cell BK609.out 4).trans rfl, ((HB.out.cell (World.block_lt_of_cell? w _ hw616_0)).trans hw616_0), ((HB.out.cell (World.block_lt_of_cell? w _ hw616_1)).trans hw616_1), ((HB.out.cell (World.block_lt_of_cell? w _ hw616_2)).trans hw616_2), ((HB.out.cell (World.block_lt_of_cell? w _ hw617_0)).trans hw617_0), ((HB.out.cell (World.block_lt_of_cell? w _ hw617_1)).trans hw617_1), ((HB.out.cell (World.block_lt_of_cell? w _ hw617_2)).trans hw617_2), ((HB.out.cell (World.block_lt_of_cell? w _ hw618_0)).trans hw618_0), ((HB.out.cell (World.block_lt_of_cell? w _ hw618_1)).trans hw618_1), ((HB.out.cell (World.block_lt_of_cell? w _ hw618_2)).trans hw618_2)⟩ (fun hHeld => ?_)
                    clear hK K
                    refine norm_ (a' := ?_) ?_ ?_
                    rotate_left
                    · show Act.put _ (some 57) _ = _
                      simp only [Act.put, List.setIfInBounds_toArray, List.set_cons_zero, List.set_cons_succ, i64_w, i32_w]
                      rfl
                    refine pure_ (i := 21) (N := some 36) (v := ?_) (a' := ?_) #[true, true, true, true, true, true, true, true, true, true, true, true, true, true, true, true, true, true, true, true, true, true, false, false, false, false, false] rfl rfl (any_of HT_.out (by kernel_rfl)) (fun _ _ _ h => h) (Or.inl ⟨by rfl, ?_⟩) ?_ ?_
                    rotate_left
                    · intro w'
                      go_simp
                      with_reducible rfl
                    rotate_left
                    · simp only [Act.put, List.setIfInBounds_toArray, List.set_cons_zero, List.set_cons_succ, i64_w, i32_w]
                      rfl
                    refine pure_ (i := 22) (N := some 58) (v := ?_) (a' := ?_) #[true, true, true, true, true, true, true, true, true, true, true, true, true, true, true, true, true, true, true, true, true, true, true, false, false, false, false] rfl rfl (any_of HT_.out (by kernel_rfl)) (fun _ _ _ h => h) (Or.inl ⟨by rfl, ?_⟩) ?_ ?_
                    rotate_left
                    · intro w'
                      go_simp
                      with_reducible rfl
                    rotate_left
                    · simp only [Act.put, List.setIfInBounds_toArray, List.set_cons_zero, List.set_cons_succ, i64_w, i32_w]
                      rfl
                    refine pure_ (i := 23) (N := some 59) (v := ?_) (a' := ?_) #[true, true, true, true, true, true, true, true, true, true, true, true, true, true, true, true, true, true, true, true, true, true, true, true, false, false, false] rfl rfl (any_of HT_.out (by kernel_rfl)) (fun _ _ _ h => h) (Or.inl ⟨by rfl, ?_⟩) ?_ ?_
                    rotate_left
                    · intro w'
                      go_simp
                      with_reducible rfl
                    rotate_left
                    · simp only [Act.put, List.setIfInBounds_toArray, List.set_cons_zero, List.set_cons_succ, i64_w, i32_w]
                      rfl
                    refine one_ (i := 24) (N := some 11) #[true, true, true, true, true, true, true, true, true, true, true, true, true, true, true, true, true, true, true, true, true, true, true, true, true, false, false] rfl rfl (one_of HT_.out (by kernel_rfl)) (by decide) (fun K hK => ?_)
                    refine box_step ?hg (N := 11) ?hd (cs := #[.int .i64 0, .int .i64 0, .int .i64 0, .int .i64 0, .bool false]) (t := 49) ?hr ?_; (case hd => rfl); (case hg => rfl); (case hr => first | (go_simp; done) | (go_simp; rfl))
                    intro gb625 hg w25 hbox hb
                    have n0_ := Aside0.mk (blk_below (g := gb609) (o := .cells #[.int .i64 x610000_1, .int .i64 x610001_1, .int .i64 x610002_1, .int .i64 x610003_1, .bool x610004_1] 49 (0, 0)) (by (with_reducible repeat (first | refine blk_drewN ?_ _ | refine blk_drew ?_ | refine blk_alloc ?_ _)); exact BK609.out) hb)
                    have n1_ := Aside0.mk (blk_below (g := gb615) (o := .cells #[.int .i64 x616000_1, .int .i64 x616001_1, .int .i64 x616002_1, .int .i64 x616003_1, .bool x616004_1] 49 (0, 0)) (by (with_reducible repeat (first | refine blk_drewN ?_ _ | refine blk_drew ?_ | refine blk_alloc ?_ _)); exact BK615.out) hb)
                    have n2_ := Aside0.mk (below_step (by repeat (first | (with_reducible first | exact HB.out | apply below_alloc | apply pw_below_drewN | apply below_drew1 | refine below_set ?_ GE609.out | refine below_set ?_ GE615.out) | exact HB.out)) hb)
                    have n3_ := Aside0.mk (hbox)
                    have n4_ := Aside0.mk ((by rw [hg]; exact (below_size (by repeat (first | (with_reducible first | exact HB.out | apply below_alloc | apply pw_below_drewN | apply below_drew1 | refine below_set ?_ GE609.out | refine below_set ?_ GE615.out) | exact HB.out))) : w.heap.size ≤ gb625))
                    have n5_ := Aside0.mk ((by rw [hg]; exact (below_size (by repeat (first | (with_reducible first | exact HB.out | apply below_alloc | apply pw_below_drewN | apply below_drew1 | refine below_set ?_ GE609.out | refine below_set ?_ GE615.out) | exact HB.out))) : w.heap.size ≤ gb625))
                    have n6_ := Aside0.mk ((by rw [hg]; exact Nat.ne_of_lt (blk_lt (g := gb609) (o := .cells #[.int .i64 x610000_1, .int .i64 x610001_1, .int .i64 x610002_1, .int .i64 x610003_1, .bool x610004_1] 49 (0, 0)) (by (with_reducible repeat (first | refine blk_drewN ?_ _ | refine blk_drew ?_ | refine blk_alloc ?_ _)); exact BK609.out)) : gb609 ≠ gb625))
                    have n7_ := Aside0.mk ((by rw [hg]; exact Nat.ne_of_gt (blk_lt (g := gb609) (o := .cells #[.int .i64 x610000_1, .int .i64 x610001_1, .int .i64 x610002_1, .int .i64 x610003_1, .bool x610004_1] 49 (0, 0)) (by (with_reducible repeat (first | refine blk_drewN ?_ _ | refine blk_drew ?_ | refine blk_alloc ?_ _)); exact BK609.out)) : gb625 ≠ gb609))
                    have n8_ := Aside0.mk ((by rw [hg]; exact Nat.ne_of_lt (blk_lt (g := gb615) (o := .cells #[.int .i64 x616000_1, .int .i64 x616001_1, .int .i64 x616002_1, .int .i64 x616003_1, .bool x616004_1] 49 (0, 0)) (by (with_reducible repeat (first | refine blk_drewN ?_ _ | refine blk_drew ?_ | refine blk_alloc ?_ _)); exact BK615.out)) : gb615 ≠ gb625))
                    have n9_ := Aside0.mk ((by rw [hg]; exact Nat.ne_of_gt (blk_lt (g := gb615) (o := .cells #[.int .i64 x616000_1, .int .i64 x616001_1, .int .i64 x616002_1, .int .i64 x616003_1, .bool x616004_1] 49 (0, 0)) (by (with_reducible repeat (first | refine blk_drewN ?_ _ | refine blk_drew ?_ | refine blk_alloc ?_ _)); exact BK615.out)) : gb625 ≠ gb615))
                    clear BK609
                    clear BK615
                    clear HB
                    have BK609 := n0_
                    have BK615 := n1_
                    have HB := n2_
                    have BK625 := n3_
                    have GW625 := n4_
                    have GE625 := n5_
                    have NB609_625 := n6_
                    have NB625_609 := n7_
                    have NB615_625 := n8_
                    have NB625_615 := n9_
                    clear n0_ n1_ n2_ n3_ n4_ n5_ n6_ n7_ n8_ n9_
                    clear hb hbox hg
                    refine hK.out _ _ ⟨(blk_cell BK609.out 0).trans rfl, (blk_cell BK609.out 1).trans rfl, (blk_cell BK609.out 2).trans rfl, (blk_cell BK609.out 3).trans rfl, (blk_cell BK609.out 4).trans rfl, ((HB.out.cell (World.block_lt_of_cell? w _ hw616_0)).trans hw616_0), ((HB.out.cell (World.block_lt_of_cell? w _ hw616_1)).trans hw616_1), ((HB.out.cell (World.block_lt_of_cell? w _ hw616_2)).trans hw616_2), ((HB.out.cell (World.block_lt_of_cell? w _ hw617_0)).trans hw617_0), ((HB.out.cell (World.block_lt_of_cell? w _ hw617_1)).trans hw617_1), ((HB.out.cell (World.block_lt_of_cell? w _ hw617_2)).trans hw617_2), ((HB.out.cell (World.block_lt_of_cell? w _ hw618_0)).trans hw618_0), ((HB.out.cell (World.block_lt_of_cell? w _ hw618_1)).trans hw618_1), ((HB.out.cell (World.block_lt_of_cell? w _ hw618_2)).trans hw618_2)⟩ (fun hHeld => ?_)
                    clear hK K
                    refine norm_ (a' := ?_) ?_ ?_
                    rotate_left
                    · show Act.put _ (some 11) _ = _
                      simp only [Act.put, List.setIfInBounds_toArray, List.set_cons_zero, List.set_cons_succ, i64_w, i32_w]
                      rfl
                    exact norm_ (by simp only [putAll, Act.put, List.setIfInBounds_toArray, List.set_cons_zero, List.set_cons_succ]) (hCont (gb625) _ ⟨hHeld, (by (with_reducible repeat (first | refine blk_drewN ?_ _ | refine blk_drew ?_ | refine blk_alloc ?_ _)); exact BK609.out), (by (with_reducible repeat (first | refine blk_drewN ?_ _ | refine blk_drew ?_ | refine blk_alloc ?_ _)); exact BK615.out), (by (with_reducible repeat (first | refine blk_drewN ?_ _ | refine blk_drew ?_ | refine blk_alloc ?_ _)); exact BK625.out), GW625.out, GE625.out, NB609_625.out, NB625_609.out, NB615_625.out, NB625_615.out, (by repeat (first | (with_reducible first | exact HB.out | apply below_alloc | apply pw_below_drewN | apply below_drew1 | refine below_set ?_ GE609.out | refine below_set ?_ GE615.out | refine below_set ?_ GE625.out) | exact HB.out))⟩)
                  · skip
                    refine box_step ?hg (N := 11) ?hd (cs := #[.int .i64 0, .int .i64 0, .int .i64 0, .int .i64 0, .bool false]) (t := 49) ?hr ?_; (case hd => rfl); (case hg => rfl); (case hr => first | (go_simp; done) | (go_simp; rfl))
                    intro gb625 hg w24 hbox hb
                    have n0_ := Aside0.mk (blk_below (g := gb609) (o := .cells #[.int .i64 x610000_1, .int .i64 x610001_1, .int .i64 x610002_1, .int .i64 x610003_1, .bool x610004_1] 49 (0, 0)) (by (with_reducible repeat (first | refine blk_drewN ?_ _ | refine blk_drew ?_ | refine blk_alloc ?_ _)); exact BK609.out) hb)
                    have n1_ := Aside0.mk (blk_below (g := gb615) (o := .cells #[.int .i64 x616000_1, .int .i64 x616001_1, .int .i64 x616002_1, .int .i64 x616003_1, .bool x616004_1] 49 (0, 0)) (by (with_reducible repeat (first | refine blk_drewN ?_ _ | refine blk_drew ?_ | refine blk_alloc ?_ _)); exact BK615.out) hb)
                    have n2_ := Aside0.mk (below_step (by repeat (first | (with_reducible first | exact HB.out | apply below_alloc | apply pw_below_drewN | apply below_drew1 | refine below_set ?_ GE609.out | refine below_set ?_ GE615.out) | exact HB.out)) hb)
                    have n3_ := Aside0.mk (hbox)
                    have n4_ := Aside0.mk ((by rw [hg]; exact (below_size (by repeat (first | (with_reducible first | exact HB.out | apply below_alloc | apply pw_below_drewN | apply below_drew1 | refine below_set ?_ GE609.out | refine below_set ?_ GE615.out) | exact HB.out))) : w.heap.size ≤ gb625))
                    have n5_ := Aside0.mk ((by rw [hg]; exact (below_size (by repeat (first | (with_reducible first | exact HB.out | apply below_alloc | apply pw_below_drewN | apply below_drew1 | refine below_set ?_ GE609.out | refine below_set ?_ GE615.out) | exact HB.out))) : w.heap.size ≤ gb625))
                    have n6_ := Aside0.mk ((by rw [hg]; exact Nat.ne_of_lt (blk_lt (g := gb609) (o := .cells #[.int .i64 x610000_1, .int .i64 x610001_1, .int .i64 x610002_1, .int .i64 x610003_1, .bool x610004_1] 49 (0, 0)) (by (with_reducible repeat (first | refine blk_drewN ?_ _ | refine blk_drew ?_ | refine blk_alloc ?_ _)); exact BK609.out)) : gb609 ≠ gb625))
                    have n7_ := Aside0.mk ((by rw [hg]; exact Nat.ne_of_gt (blk_lt (g := gb609) (o := .cells #[.int .i64 x610000_1, .int .i64 x610001_1, .int .i64 x610002_1, .int .i64 x610003_1, .bool x610004_1] 49 (0, 0)) (by (with_reducible repeat (first | refine blk_drewN ?_ _ | refine blk_drew ?_ | refine blk_alloc ?_ _)); exact BK609.out)) : gb625 ≠ gb609))
                    have n8_ := Aside0.mk ((by rw [hg]; exact Nat.ne_of_lt (blk_lt (g := gb615) (o := .cells #[.int .i64 x616000_1, .int .i64 x616001_1, .int .i64 x616002_1, .int .i64 x616003_1, .bool x616004_1] 49 (0, 0)) (by (with_reducible repeat (first | refine blk_drewN ?_ _ | refine blk_drew ?_ | refine blk_alloc ?_ _)); exact BK615.out)) : gb615 ≠ gb625))
                    have n9_ := Aside0.mk ((by rw [hg]; exact Nat.ne_of_gt (blk_lt (g := gb615) (o := .cells #[.int .i64 x616000_1, .int .i64 x616001_1, .int .i64 x616002_1, .int .i64 x616003_1, .bool x616004_1] 49 (0, 0)) (by (with_reducible repeat (first | refine blk_drewN ?_ _ | refine blk_drew ?_ | refine blk_alloc ?_ _)); exact BK615.out)) : gb625 ≠ gb615))
                    clear BK609
                    clear BK615
                    clear HB
                    have BK609 := n0_
                    have BK615 := n1_
                    have HB := n2_
                    have BK625 := n3_
                    have GW625 := n4_
                    have GE625 := n5_
                    have NB609_625 := n6_
                    have NB625_609 := n7_
                    have NB615_625 := n8_
                    have NB625_615 := n9_
                    clear n0_ n1_ n2_ n3_ n4_ n5_ n6_ n7_ n8_ n9_
                    clear hb hbox hg
                    refine hK.out _ _ ⟨(blk_cell BK609.out 0).trans rfl, (blk_cell BK609.out 1).trans rfl, (blk_cell BK609.out 2).trans rfl, (blk_cell BK609.out 3).trans rfl, (blk_cell BK609.out 4).trans rfl, ((HB.out.cell (World.block_lt_of_cell? w _ hw616_0)).trans hw616_0), ((HB.out.cell (World.block_lt_of_cell? w _ hw616_1)).trans hw616_1), ((HB.out.cell (World.block_lt_of_cell? w _ hw616_2)).trans hw616_2), ((HB.out.cell (World.block_lt_of_cell? w _ hw617_0)).trans hw617_0), ((HB.out.cell (World.block_lt_of_cell? w _ hw617_1)).trans hw617_1), ((HB.out.cell (World.block_lt_of_cell? w _ hw617_2)).trans hw617_2), ((HB.out.cell (World.block_lt_of_cell? w _ hw618_0)).trans hw618_0), ((HB.out.cell (World.block_lt_of_cell? w _ hw618_1)).trans hw618_1), ((HB.out.cell (World.block_lt_of_cell? w _ hw618_2)).trans hw618_2)⟩ (fun hHeld => ?_)
                    clear hK K
                    refine norm_ (a' := ?_) ?_ ?_
                    rotate_left
                    · show Act.put _ (some 11) _ = _
                      simp only [Act.put, List.setIfInBounds_toArray, List.set_cons_zero, List.set_cons_succ, i64_w, i32_w]
                      rfl
                    refine one_ (i := 20) (N := some 57) #[true, true, true, true, true, true, true, true, true, true, true, true, true, true, true, true, true, true, true, true, true, false, false, false, true, false, false] rfl rfl (one_of HT_.out (by kernel_rfl)) (by decide) (fun K hK => ?_)
                    refine goes_ Try.func32 (by kernel_rfl) rfl #[.agg #[.int .i64 x610000_1, .int .i64 x610001_1, .int .i64 x610002_1, .int .i64 x610003_1, .bool x610004_1], .int .i64 (Int.tmod (wrap64 ((rd_T54 l2 x10_1).f0)) 4), .int .i64 (wrap64 ((rd_T54 l2 x10_1).f1)), .int .i64 (wrap64 ((rd_T54 l2 x10_1).f2))] (by rfl) rfl rfl (by (try simp only [List.map_toArray, List.map_cons, List.map_nil]); first | done | rfl | (simp only [List.length_drop, List.length_take]; rfl)) ?_
                    with_reducible refine (servo_Step.calls x610000_1 x610001_1 x610002_1 x610003_1 x610004_1 (Int.tmod (wrap64 ((rd_T54 l2 x10_1).f0)) 4) (wrap64 ((rd_T54 l2 x10_1).f1)) (wrap64 ((rd_T54 l2 x10_1).f2)) t619 t620 t621 t622 t623 t624 _ A19.out).mono ?_
                    rintro e w25 ⟨rfl, hb⟩
                    refine ⟨_, rfl, ?_⟩
                    have n0_ := Aside0.mk (blk_below (g := gb609) (o := .cells #[.int .i64 x610000_1, .int .i64 x610001_1, .int .i64 x610002_1, .int .i64 x610003_1, .bool x610004_1] 49 (0, 0)) (by (with_reducible repeat (first | refine blk_drewN ?_ _ | refine blk_drew ?_ | refine blk_alloc ?_ _)); exact BK609.out) hb)
                    have n1_ := Aside0.mk (blk_below (g := gb615) (o := .cells #[.int .i64 x616000_1, .int .i64 x616001_1, .int .i64 x616002_1, .int .i64 x616003_1, .bool x616004_1] 49 (0, 0)) (by (with_reducible repeat (first | refine blk_drewN ?_ _ | refine blk_drew ?_ | refine blk_alloc ?_ _)); exact BK615.out) hb)
                    have n2_ := Aside0.mk (blk_below (g := gb625) (o := .cells #[.int .i64 0, .int .i64 0, .int .i64 0, .int .i64 0, .bool false] 49 (0, 0)) (by (with_reducible repeat (first | refine blk_drewN ?_ _ | refine blk_drew ?_ | refine blk_alloc ?_ _)); exact BK625.out) hb)
                    have n3_ := Aside0.mk (below_step (by repeat (first | (with_reducible first | exact HB.out | apply below_alloc | apply pw_below_drewN | apply below_drew1 | refine below_set ?_ GE609.out | refine below_set ?_ GE615.out | refine below_set ?_ GE625.out) | exact HB.out)) hb)
                    clear BK609
                    clear BK615
                    clear BK625
                    clear HB
                    have BK609 := n0_
                    have BK615 := n1_
                    have BK625 := n2_
                    have HB := n3_
                    clear n0_ n1_ n2_ n3_
                    (try clear hb)
                    (try clear hb2)
                    (try clear hk)
                    (try clear hi)
                    refine hK.out _ _ ⟨(blk_cell BK609.out 0).trans rfl, (blk_cell BK609.out 1).trans rfl, (blk_cell BK609.out 2).trans rfl, (blk_cell BK609.out 3).trans rfl, (blk_cell BK609.out 4).trans rfl, ((HB.out.cell (World.block_lt_of_cell? w _ hw616_0)).trans hw616_0), ((HB.out.cell (World.block_lt_of_cell? w _ hw616_1)).trans hw616_1), ((HB.out.cell (World.block_lt_of_cell? w _ hw616_2)).trans hw616_2), ((HB.out.cell (World.block_lt_of_cell? w _ hw617_0)).trans hw617_0), ((HB.out.cell (World.block_lt_of_cell? w _ hw617_1)).trans hw617_1), ((HB.out.cell (World.block_lt_of_cell? w _ hw617_2)).trans hw617_2), ((HB.out.cell (World.block_lt_of_cell? w _ hw618_0)).trans hw618_0), ((HB.out.cell (World.block_lt_of_cell? w _ hw618_1)).trans hw618_1), ((HB.out.cell (World.block_lt_of_cell? w _ hw618_2)).trans hw618_2)⟩ (fun hHeld => ?_)
                    clear hK K
                    refine norm_ (a' := ?_) ?_ ?_
                    rotate_left
                    · show Act.put _ (some 57) _ = _
                      simp only [Act.put, List.setIfInBounds_toArray, List.set_cons_zero, List.set_cons_succ, i64_w, i32_w]
                      rfl
                    refine pure_ (i := 21) (N := some 36) (v := ?_) (a' := ?_) #[true, true, true, true, true, true, true, true, true, true, true, true, true, true, true, true, true, true, true, true, true, true, false, false, true, false, false] rfl rfl (any_of HT_.out (by kernel_rfl)) (fun _ _ _ h => h) (Or.inl ⟨by rfl, ?_⟩) ?_ ?_
                    rotate_left
                    · intro w'
                      go_simp
                      with_reducible rfl
                    rotate_left
                    · simp only [Act.put, List.setIfInBounds_toArray, List.set_cons_zero, List.set_cons_succ, i64_w, i32_w]
                      rfl
                    refine pure_ (i := 22) (N := some 58) (v := ?_) (a' := ?_) #[true, true, true, true, true, true, true, true, true, true, true, true, true, true, true, true, true, true, true, true, true, true, true, false, true, false, false] rfl rfl (any_of HT_.out (by kernel_rfl)) (fun _ _ _ h => h) (Or.inl ⟨by rfl, ?_⟩) ?_ ?_
                    rotate_left
                    · intro w'
                      go_simp
                      with_reducible rfl
                    rotate_left
                    · simp only [Act.put, List.setIfInBounds_toArray, List.set_cons_zero, List.set_cons_succ, i64_w, i32_w]
                      rfl
                    refine pure_ (i := 23) (N := some 59) (v := ?_) (a' := ?_) #[true, true, true, true, true, true, true, true, true, true, true, true, true, true, true, true, true, true, true, true, true, true, true, true, true, false, false] rfl rfl (any_of HT_.out (by kernel_rfl)) (fun _ _ _ h => h) (Or.inl ⟨by rfl, ?_⟩) ?_ ?_
                    rotate_left
                    · intro w'
                      go_simp
                      with_reducible rfl
                    rotate_left
                    · simp only [Act.put, List.setIfInBounds_toArray, List.set_cons_zero, List.set_cons_succ, i64_w, i32_w]
                      rfl
                    exact norm_ (by simp only [putAll, Act.put, List.setIfInBounds_toArray, List.set_cons_zero, List.set_cons_succ]) (hCont (gb625) _ ⟨hHeld, (by (with_reducible repeat (first | refine blk_drewN ?_ _ | refine blk_drew ?_ | refine blk_alloc ?_ _)); exact BK609.out), (by (with_reducible repeat (first | refine blk_drewN ?_ _ | refine blk_drew ?_ | refine blk_alloc ?_ _)); exact BK615.out), (by (with_reducible repeat (first | refine blk_drewN ?_ _ | refine blk_drew ?_ | refine blk_alloc ?_ _)); exact BK625.out), GW625.out, GE625.out, NB609_625.out, NB625_609.out, NB615_625.out, NB625_615.out, (by repeat (first | (with_reducible first | exact HB.out | apply below_alloc | apply pw_below_drewN | apply below_drew1 | refine below_set ?_ GE609.out | refine below_set ?_ GE615.out | refine below_set ?_ GE625.out) | exact HB.out))⟩)
                rintro gb625 w26 ⟨hS_, h0_, h1_, h2_, h3_, h4_, h5_, h6_, h7_, h8_, h9_⟩
                have n0_ : Aside0 (w26.heap[gb609]? = some (.cells #[.int .i64 x610000_1, .int .i64 x610001_1, .int .i64 x610002_1, .int .i64 x610003_1, .bool x610004_1] 49 (0, 0))) := ⟨h0_⟩
                have n1_ : Aside0 (w26.heap[gb615]? = some (.cells #[.int .i64 x616000_1, .int .i64 x616001_1, .int .i64 x616002_1, .int .i64 x616003_1, .bool x616004_1] 49 (0, 0))) := ⟨h1_⟩
                have n2_ : Aside0 (w26.heap[gb625]? = some (.cells #[.int .i64 0, .int .i64 0, .int .i64 0, .int .i64 0, .bool false] 49 (0, 0))) := ⟨h2_⟩
                have n3_ : Aside0 (w.heap.size ≤ gb625) := ⟨h3_⟩
                have n4_ : Aside0 (w.heap.size ≤ gb625) := ⟨h4_⟩
                have n5_ : Aside0 (gb609 ≠ gb625) := ⟨h5_⟩
                have n6_ : Aside0 (gb625 ≠ gb609) := ⟨h6_⟩
                have n7_ : Aside0 (gb615 ≠ gb625) := ⟨h7_⟩
                have n8_ : Aside0 (gb625 ≠ gb615) := ⟨h8_⟩
                have n9_ : Aside0 (Below w.heap.size w w26) := ⟨h9_⟩
                clear BK609
                clear BK615
                clear HB
                clear h0_ h1_ h2_ h3_ h4_ h5_ h6_ h7_ h8_ h9_
                have BK609 := n0_
                have BK615 := n1_
                have BK625 := n2_
                have GW625 := n3_
                have GE625 := n4_
                have NB609_625 := n5_
                have NB625_609 := n6_
                have NB615_625 := n7_
                have NB625_615 := n8_
                have HB := n9_
                clear n0_ n1_ n2_ n3_ n4_ n5_ n6_ n7_ n8_ n9_
                have hHeld : w26.cell? ⟨gb609, 0, none⟩ = some (.int .i64 x610000_1) ∧ w26.cell? ⟨gb609, 1, none⟩ = some (.int .i64 x610001_1) ∧ w26.cell? ⟨gb609, 2, none⟩ = some (.int .i64 x610002_1) ∧ w26.cell? ⟨gb609, 3, none⟩ = some (.int .i64 x610003_1) ∧ w26.cell? ⟨gb609, 4, none⟩ = some (.bool x610004_1) ∧ w26.cell? (ad616.add ((x10_1).toNat * 3)) = some (.int .u8 ((rd_T54 l2 x10_1).f0)) ∧ w26.cell? ⟨(ad616.add ((x10_1).toNat * 3)).block, (ad616.add ((x10_1).toNat * 3)).off + 1, none⟩ = some (.int .i16 ((rd_T54 l2 x10_1).f1)) ∧ w26.cell? ⟨(ad616.add ((x10_1).toNat * 3)).block, (ad616.add ((x10_1).toNat * 3)).off + 2, none⟩ = some (.int .i16 ((rd_T54 l2 x10_1).f2)) ∧ w26.cell? (ad616.add ((x10_1).toNat * 3)) = some (.int .u8 ((rd_T54 l2 x10_1).f0)) ∧ w26.cell? ⟨(ad616.add ((x10_1).toNat * 3)).block, (ad616.add ((x10_1).toNat * 3)).off + 1, none⟩ = some (.int .i16 ((rd_T54 l2 x10_1).f1)) ∧ w26.cell? ⟨(ad616.add ((x10_1).toNat * 3)).block, (ad616.add ((x10_1).toNat * 3)).off + 2, none⟩ = some (.int .i16 ((rd_T54 l2 x10_1).f2)) ∧ w26.cell? (ad616.add ((x10_1).toNat * 3)) = some (.int .u8 ((rd_T54 l2 x10_1).f0)) ∧ w26.cell? ⟨(ad616.add ((x10_1).toNat * 3)).block, (ad616.add ((x10_1).toNat * 3)).off + 1, none⟩ = some (.int .i16 ((rd_T54 l2 x10_1).f1)) ∧ w26.cell? ⟨(ad616.add ((x10_1).toNat * 3)).block, (ad616.add ((x10_1).toNat * 3)).off + 2, none⟩ = some (.int .i16 ((rd_T54 l2 x10_1).f2)) := hS_
                refine norm_ (a' := ?_) ?_ ?_
                rotate_left
                · simp only [putAll, Act.put, List.setIfInBounds_toArray, List.set_cons_zero, List.set_cons_succ]
                  rfl
                refine one_ (i := 25) (N := none) #[true, true, true, true, true, true, true, true, true, true, true, true, true, true, true, true, true, true, true, true, true, true, true, true, true, true, false] rfl rfl (one_of HT_.out (by kernel_rfl)) (by decide) (fun K hK => ?_)
                have hs27 : w26.cell? ⟨gb625, 0, none⟩ = some (.int .i64 0) := (blk_cell BK625.out 0).trans rfl
                have hfs27 := blk_frozen BK625.out 0
                have hns27_0 := NB609_625.out
                have hns27_1 := NB615_625.out
                have hms27_0 := NB625_609.out
                have hms27_1 := NB625_615.out
                have hs28 : w26.cell? ⟨gb625, 1, none⟩ = some (.int .i64 0) := (blk_cell BK625.out 1).trans rfl
                have hfs28 := blk_frozen BK625.out 1
                have hns28_0 := NB609_625.out
                have hns28_1 := NB615_625.out
                have hms28_0 := NB625_609.out
                have hms28_1 := NB625_615.out
                have hs29 : w26.cell? ⟨gb625, 2, none⟩ = some (.int .i64 0) := (blk_cell BK625.out 2).trans rfl
                have hfs29 := blk_frozen BK625.out 2
                have hns29_0 := NB609_625.out
                have hns29_1 := NB615_625.out
                have hms29_0 := NB625_609.out
                have hms29_1 := NB625_615.out
                have hs30 : w26.cell? ⟨gb625, 3, none⟩ = some (.int .i64 0) := (blk_cell BK625.out 3).trans rfl
                have hfs30 := blk_frozen BK625.out 3
                have hns30_0 := NB609_625.out
                have hns30_1 := NB615_625.out
                have hms30_0 := NB625_609.out
                have hms30_1 := NB625_615.out
                have hs31 : w26.cell? ⟨gb625, 4, none⟩ = some (.bool false) := (blk_cell BK625.out 4).trans rfl
                have hfs31 := blk_frozen BK625.out 4
                have hns31_0 := NB609_625.out
                have hns31_1 := NB615_625.out
                have hms31_0 := NB625_609.out
                have hms31_1 := NB625_615.out
                refine skip_ (w1 := ?_) (by rfl) rfl ?_ ?_
                rotate_left
                · go_simp
                  rfl
                refine hK.out _ _ ⟨((cell_far (p := ⟨gb625, _, none⟩) NB609_625.out _).trans (((cell_far (p := ⟨gb625, _, none⟩) NB609_625.out _).trans (((cell_far (p := ⟨gb625, _, none⟩) NB609_625.out _).trans (((cell_far (p := ⟨gb625, _, none⟩) NB609_625.out _).trans (((cell_far (p := ⟨gb625, _, none⟩) NB609_625.out _).trans (hHeld.1)))))))))), ((cell_far (p := ⟨gb625, _, none⟩) NB609_625.out _).trans (((cell_far (p := ⟨gb625, _, none⟩) NB609_625.out _).trans (((cell_far (p := ⟨gb625, _, none⟩) NB609_625.out _).trans (((cell_far (p := ⟨gb625, _, none⟩) NB609_625.out _).trans (((cell_far (p := ⟨gb625, _, none⟩) NB609_625.out _).trans (hHeld.2.1)))))))))), ((cell_far (p := ⟨gb625, _, none⟩) NB609_625.out _).trans (((cell_far (p := ⟨gb625, _, none⟩) NB609_625.out _).trans (((cell_far (p := ⟨gb625, _, none⟩) NB609_625.out _).trans (((cell_far (p := ⟨gb625, _, none⟩) NB609_625.out _).trans (((cell_far (p := ⟨gb625, _, none⟩) NB609_625.out _).trans (hHeld.2.2.1)))))))))), ((cell_far (p := ⟨gb625, _, none⟩) NB609_625.out _).trans (((cell_far (p := ⟨gb625, _, none⟩) NB609_625.out _).trans (((cell_far (p := ⟨gb625, _, none⟩) NB609_625.out _).trans (((cell_far (p := ⟨gb625, _, none⟩) NB609_625.out _).trans (((cell_far (p := ⟨gb625, _, none⟩) NB609_625.out _).trans (hHeld.2.2.2.1)))))))))), ((cell_far (p := ⟨gb625, _, none⟩) NB609_625.out _).trans (((cell_far (p := ⟨gb625, _, none⟩) NB609_625.out _).trans (((cell_far (p := ⟨gb625, _, none⟩) NB609_625.out _).trans (((cell_far (p := ⟨gb625, _, none⟩) NB609_625.out _).trans (((cell_far (p := ⟨gb625, _, none⟩) NB609_625.out _).trans (hHeld.2.2.2.2.1)))))))))), ((cell_far (p := ⟨gb625, _, none⟩) (by first | exact Nat.ne_of_lt (Nat.lt_of_lt_of_le (by have := World.block_lt_of_cell? _ _ hw616_0; first | rwa [add_block] at this | exact this) GW625.out) | (rw [add_block]; exact Nat.ne_of_lt (Nat.lt_of_lt_of_le (by have := World.block_lt_of_cell? _ _ hw616_0; first | rwa [add_block] at this | exact this) GW625.out)) | (show (Addr.add _ _).block ≠ _; rw [add_block]; exact Nat.ne_of_lt (Nat.lt_of_lt_of_le (by have := World.block_lt_of_cell? _ _ hw616_0; first | rwa [add_block] at this | exact this) GW625.out)) | (dsimp only; exact Nat.ne_of_lt (Nat.lt_of_lt_of_le (by have := World.block_lt_of_cell? _ _ hw616_0; first | rwa [add_block] at this | exact this) GW625.out))) _).trans (((cell_far (p := ⟨gb625, _, none⟩) (by first | exact Nat.ne_of_lt (Nat.lt_of_lt_of_le (by have := World.block_lt_of_cell? _ _ hw616_0; first | rwa [add_block] at this | exact this) GW625.out) | (rw [add_block]; exact Nat.ne_of_lt (Nat.lt_of_lt_of_le (by have := World.block_lt_of_cell? _ _ hw616_0; first | rwa [add_block] at this | exact this) GW625.out)) | (show (Addr.add _ _).block ≠ _; rw [add_block]; exact Nat.ne_of_lt (Nat.lt_of_lt_of_le (by have := World.block_lt_of_cell? _ _ hw616_0; first | rwa [add_block] at this | exact this) GW625.out)) | (dsimp only; exact Nat.ne_of_lt (Nat.lt_of_lt_of_le (by have := World.block_lt_of_cell? _ _ hw616_0; first | rwa [add_block] at this | exact this) GW625.out))) _).trans (((cell_far (p := ⟨gb625, _, none⟩) (by first | exact Nat.ne_of_lt (Nat.lt_of_lt_of_le (by have := World.block_lt_of_cell? _ _ hw616_0; first | rwa [add_block] at this | exact this) GW625.out) | (rw [add_block]; exact Nat.ne_of_lt (Nat.lt_of_lt_of_le (by have := World.block_lt_of_cell? _ _ hw616_0; first | rwa [add_block] at this | exact this) GW625.out)) | (show (Addr.add _ _).block ≠ _; rw [add_block]; exact Nat.ne_of_lt (Nat.lt_of_lt_of_le (by have := World.block_lt_of_cell? _ _ hw616_0; first | rwa [add_block] at this | exact this) GW625.out)) | (dsimp only; exact Nat.ne_of_lt (Nat.lt_of_lt_of_le (by have := World.block_lt_of_cell? _ _ hw616_0; first | rwa [add_block] at this | exact this) GW625.out))) _).trans (((cell_far (p := ⟨gb625, _, none⟩) (by first | exact Nat.ne_of_lt (Nat.lt_of_lt_of_le (by have := World.block_lt_of_cell? _ _ hw616_0; first | rwa [add_block] at this | exact this) GW625.out) | (rw [add_block]; exact Nat.ne_of_lt (Nat.lt_of_lt_of_le (by have := World.block_lt_of_cell? _ _ hw616_0; first | rwa [add_block] at this | exact this) GW625.out)) | (show (Addr.add _ _).block ≠ _; rw [add_block]; exact Nat.ne_of_lt (Nat.lt_of_lt_of_le (by have := World.block_lt_of_cell? _ _ hw616_0; first | rwa [add_block] at this | exact this) GW625.out)) | (dsimp only; exact Nat.ne_of_lt (Nat.lt_of_lt_of_le (by have := World.block_lt_of_cell? _ _ hw616_0; first | rwa [add_block] at this | exact this) GW625.out))) _).trans (((cell_far (p := ⟨gb625, _, none⟩) (by first | exact Nat.ne_of_lt (Nat.lt_of_lt_of_le (by have := World.block_lt_of_cell? _ _ hw616_0; first | rwa [add_block] at this | exact this) GW625.out) | (rw [add_block]; exact Nat.ne_of_lt (Nat.lt_of_lt_of_le (by have := World.block_lt_of_cell? _ _ hw616_0; first | rwa [add_block] at this | exact this) GW625.out)) | (show (Addr.add _ _).block ≠ _; rw [add_block]; exact Nat.ne_of_lt (Nat.lt_of_lt_of_le (by have := World.block_lt_of_cell? _ _ hw616_0; first | rwa [add_block] at this | exact this) GW625.out)) | (dsimp only; exact Nat.ne_of_lt (Nat.lt_of_lt_of_le (by have := World.block_lt_of_cell? _ _ hw616_0; first | rwa [add_block] at this | exact this) GW625.out))) _).trans (hHeld.2.2.2.2.2.1)))))))))), ((cell_far (p := ⟨gb625, _, none⟩) (by first | exact Nat.ne_of_lt (Nat.lt_of_lt_of_le (by have := World.block_lt_of_cell? _ _ hw616_1; first | rwa [add_block] at this | exact this) GW625.out) | (rw [add_block]; exact Nat.ne_of_lt (Nat.lt_of_lt_of_le (by have := World.block_lt_of_cell? _ _ hw616_1; first | rwa [add_block] at this | exact this) GW625.out)) | (show (Addr.add _ _).block ≠ _; rw [add_block]; exact Nat.ne_of_lt (Nat.lt_of_lt_of_le (by have := World.block_lt_of_cell? _ _ hw616_1; first | rwa [add_block] at this | exact this) GW625.out)) | (dsimp only; exact Nat.ne_of_lt (Nat.lt_of_lt_of_le (by have := World.block_lt_of_cell? _ _ hw616_1; first | rwa [add_block] at this | exact this) GW625.out))) _).trans (((cell_far (p := ⟨gb625, _, none⟩) (by first | exact Nat.ne_of_lt (Nat.lt_of_lt_of_le (by have := World.block_lt_of_cell? _ _ hw616_1; first | rwa [add_block] at this | exact this) GW625.out) | (rw [add_block]; exact Nat.ne_of_lt (Nat.lt_of_lt_of_le (by have := World.block_lt_of_cell? _ _ hw616_1; first | rwa [add_block] at this | exact this) GW625.out)) | (show (Addr.add _ _).block ≠ _; rw [add_block]; exact Nat.ne_of_lt (Nat.lt_of_lt_of_le (by have := World.block_lt_of_cell? _ _ hw616_1; first | rwa [add_block] at this | exact this) GW625.out)) | (dsimp only; exact Nat.ne_of_lt (Nat.lt_of_lt_of_le (by have := World.block_lt_of_cell? _ _ hw616_1; first | rwa [add_block] at this | exact this) GW625.out))) _).trans (((cell_far (p := ⟨gb625, _, none⟩) (by first | exact Nat.ne_of_lt (Nat.lt_of_lt_of_le (by have := World.block_lt_of_cell? _ _ hw616_1; first | rwa [add_block] at this | exact this) GW625.out) | (rw [add_block]; exact Nat.ne_of_lt (Nat.lt_of_lt_of_le (by have := World.block_lt_of_cell? _ _ hw616_1; first | rwa [add_block] at this | exact this) GW625.out)) | (show (Addr.add _ _).block ≠ _; rw [add_block]; exact Nat.ne_of_lt (Nat.lt_of_lt_of_le (by have := World.block_lt_of_cell? _ _ hw616_1; first | rwa [add_block] at this | exact this) GW625.out)) | (dsimp only; exact Nat.ne_of_lt (Nat.lt_of_lt_of_le (by have := World.block_lt_of_cell? _ _ hw616_1; first | rwa [add_block] at this | exact this) GW625.out))) _).trans (((cell_far (p := ⟨gb625, _, none⟩) (by first | exact Nat.ne_of_lt (Nat.lt_of_lt_of_le (by have := World.block_lt_of_cell? _ _ hw616_1; first | rwa [add_block] at this | exact this) GW625.out) | (rw [add_block]; exact Nat.ne_of_lt (Nat.lt_of_lt_of_le (by have := World.block_lt_of_cell? _ _ hw616_1; first | rwa [add_block] at this | exact this) GW625.out)) | (show (Addr.add _ _).block ≠ _; rw [add_block]; exact Nat.ne_of_lt (Nat.lt_of_lt_of_le (by have := World.block_lt_of_cell? _ _ hw616_1; first | rwa [add_block] at this | exact this) GW625.out)) | (dsimp only; exact Nat.ne_of_lt (Nat.lt_of_lt_of_le (by have := World.block_lt_of_cell? _ _ hw616_1; first | rwa [add_block] at this | exact this) GW625.out))) _).trans (((cell_far (p := ⟨gb625, _, none⟩) (by first | exact Nat.ne_of_lt (Nat.lt_of_lt_of_le (by have := World.block_lt_of_cell? _ _ hw616_1; first | rwa [add_block] at this | exact this) GW625.out) | (rw [add_block]; exact Nat.ne_of_lt (Nat.lt_of_lt_of_le (by have := World.block_lt_of_cell? _ _ hw616_1; first | rwa [add_block] at this | exact this) GW625.out)) | (show (Addr.add _ _).block ≠ _; rw [add_block]; exact Nat.ne_of_lt (Nat.lt_of_lt_of_le (by have := World.block_lt_of_cell? _ _ hw616_1; first | rwa [add_block] at this | exact this) GW625.out)) | (dsimp only; exact Nat.ne_of_lt (Nat.lt_of_lt_of_le (by have := World.block_lt_of_cell? _ _ hw616_1; first | rwa [add_block] at this | exact this) GW625.out))) _).trans (hHeld.2.2.2.2.2.2.1)))))))))), ((cell_far (p := ⟨gb625, _, none⟩) (by first | exact Nat.ne_of_lt (Nat.lt_of_lt_of_le (by have := World.block_lt_of_cell? _ _ hw616_2; first | rwa [add_block] at this | exact this) GW625.out) | (rw [add_block]; exact Nat.ne_of_lt (Nat.lt_of_lt_of_le (by have := World.block_lt_of_cell? _ _ hw616_2; first | rwa [add_block] at this | exact this) GW625.out)) | (show (Addr.add _ _).block ≠ _; rw [add_block]; exact Nat.ne_of_lt (Nat.lt_of_lt_of_le (by have := World.block_lt_of_cell? _ _ hw616_2; first | rwa [add_block] at this | exact this) GW625.out)) | (dsimp only; exact Nat.ne_of_lt (Nat.lt_of_lt_of_le (by have := World.block_lt_of_cell? _ _ hw616_2; first | rwa [add_block] at this | exact this) GW625.out))) _).trans (((cell_far (p := ⟨gb625, _, none⟩) (by first | exact Nat.ne_of_lt (Nat.lt_of_lt_of_le (by have := World.block_lt_of_cell? _ _ hw616_2; first | rwa [add_block] at this | exact this) GW625.out) | (rw [add_block]; exact Nat.ne_of_lt (Nat.lt_of_lt_of_le (by have := World.block_lt_of_cell? _ _ hw616_2; first | rwa [add_block] at this | exact this) GW625.out)) | (show (Addr.add _ _).block ≠ _; rw [add_block]; exact Nat.ne_of_lt (Nat.lt_of_lt_of_le (by have := World.block_lt_of_cell? _ _ hw616_2; first | rwa [add_block] at this | exact this) GW625.out)) | (dsimp only; exact Nat.ne_of_lt (Nat.lt_of_lt_of_le (by have := World.block_lt_of_cell? _ _ hw616_2; first | rwa [add_block] at this | exact this) GW625.out))) _).trans (((cell_far (p := ⟨gb625, _, none⟩) (by first | exact Nat.ne_of_lt (Nat.lt_of_lt_of_le (by have := World.block_lt_of_cell? _ _ hw616_2; first | rwa [add_block] at this | exact this) GW625.out) | (rw [add_block]; exact Nat.ne_of_lt (Nat.lt_of_lt_of_le (by have := World.block_lt_of_cell? _ _ hw616_2; first | rwa [add_block] at this | exact this) GW625.out)) | (show (Addr.add _ _).block ≠ _; rw [add_block]; exact Nat.ne_of_lt (Nat.lt_of_lt_of_le (by have := World.block_lt_of_cell? _ _ hw616_2; first | rwa [add_block] at this | exact this) GW625.out)) | (dsimp only; exact Nat.ne_of_lt (Nat.lt_of_lt_of_le (by have := World.block_lt_of_cell? _ _ hw616_2; first | rwa [add_block] at this | exact this) GW625.out))) _).trans (((cell_far (p := ⟨gb625, _, none⟩) (by first | exact Nat.ne_of_lt (Nat.lt_of_lt_of_le (by have := World.block_lt_of_cell? _ _ hw616_2; first | rwa [add_block] at this | exact this) GW625.out) | (rw [add_block]; exact Nat.ne_of_lt (Nat.lt_of_lt_of_le (by have := World.block_lt_of_cell? _ _ hw616_2; first | rwa [add_block] at this | exact this) GW625.out)) | (show (Addr.add _ _).block ≠ _; rw [add_block]; exact Nat.ne_of_lt (Nat.lt_of_lt_of_le (by have := World.block_lt_of_cell? _ _ hw616_2; first | rwa [add_block] at this | exact this) GW625.out)) | (dsimp only; exact Nat.ne_of_lt (Nat.lt_of_lt_of_le (by have := World.block_lt_of_cell? _ _ hw616_2; first | rwa [add_block] at this | exact this) GW625.out))) _).trans (((cell_far (p := ⟨gb625, _, none⟩) (by first | exact Nat.ne_of_lt (Nat.lt_of_lt_of_le (by have := World.block_lt_of_cell? _ _ hw616_2; first | rwa [add_block] at this | exact this) GW625.out) | (rw [add_block]; exact Nat.ne_of_lt (Nat.lt_of_lt_of_le (by have := World.block_lt_of_cell? _ _ hw616_2; first | rwa [add_block] at this | exact this) GW625.out)) | (show (Addr.add _ _).block ≠ _; rw [add_block]; exact Nat.ne_of_lt (Nat.lt_of_lt_of_le (by have := World.block_lt_of_cell? _ _ hw616_2; first | rwa [add_block] at this | exact this) GW625.out)) | (dsimp only; exact Nat.ne_of_lt (Nat.lt_of_lt_of_le (by have := World.block_lt_of_cell? _ _ hw616_2; first | rwa [add_block] at this | exact this) GW625.out))) _).trans (hHeld.2.2.2.2.2.2.2.1)))))))))), ((cell_far (p := ⟨gb625, _, none⟩) (by first | exact Nat.ne_of_lt (Nat.lt_of_lt_of_le (by have := World.block_lt_of_cell? _ _ hw617_0; first | rwa [add_block] at this | exact this) GW625.out) | (rw [add_block]; exact Nat.ne_of_lt (Nat.lt_of_lt_of_le (by have := World.block_lt_of_cell? _ _ hw617_0; first | rwa [add_block] at this | exact this) GW625.out)) | (show (Addr.add _ _).block ≠ _; rw [add_block]; exact Nat.ne_of_lt (Nat.lt_of_lt_of_le (by have := World.block_lt_of_cell? _ _ hw617_0; first | rwa [add_block] at this | exact this) GW625.out)) | (dsimp only; exact Nat.ne_of_lt (Nat.lt_of_lt_of_le (by have := World.block_lt_of_cell? _ _ hw617_0; first | rwa [add_block] at this | exact this) GW625.out))) _).trans (((cell_far (p := ⟨gb625, _, none⟩) (by first | exact Nat.ne_of_lt (Nat.lt_of_lt_of_le (by have := World.block_lt_of_cell? _ _ hw617_0; first | rwa [add_block] at this | exact this) GW625.out) | (rw [add_block]; exact Nat.ne_of_lt (Nat.lt_of_lt_of_le (by have := World.block_lt_of_cell? _ _ hw617_0; first | rwa [add_block] at this | exact this) GW625.out)) | (show (Addr.add _ _).block ≠ _; rw [add_block]; exact Nat.ne_of_lt (Nat.lt_of_lt_of_le (by have := World.block_lt_of_cell? _ _ hw617_0; first | rwa [add_block] at this | exact this) GW625.out)) | (dsimp only; exact Nat.ne_of_lt (Nat.lt_of_lt_of_le (by have := World.block_lt_of_cell? _ _ hw617_0; first | rwa [add_block] at this | exact this) GW625.out))) _).trans (((cell_far (p := ⟨gb625, _, none⟩) (by first | exact Nat.ne_of_lt (Nat.lt_of_lt_of_le (by have := World.block_lt_of_cell? _ _ hw617_0; first | rwa [add_block] at this | exact this) GW625.out) | (rw [add_block]; exact Nat.ne_of_lt (Nat.lt_of_lt_of_le (by have := World.block_lt_of_cell? _ _ hw617_0; first | rwa [add_block] at this | exact this) GW625.out)) | (show (Addr.add _ _).block ≠ _; rw [add_block]; exact Nat.ne_of_lt (Nat.lt_of_lt_of_le (by have := World.block_lt_of_cell? _ _ hw617_0; first | rwa [add_block] at this | exact this) GW625.out)) | (dsimp only; exact Nat.ne_of_lt (Nat.lt_of_lt_of_le (by have := World.block_lt_of_cell? _ _ hw617_0; first | rwa [add_block] at this | exact this) GW625.out))) _).trans (((cell_far (p := ⟨gb625, _, none⟩) (by first | exact Nat.ne_of_lt (Nat.lt_of_lt_of_le (by have := World.block_lt_of_cell? _ _ hw617_0; first | rwa [add_block] at this | exact this) GW625.out) | (rw [add_block]; exact Nat.ne_of_lt (Nat.lt_of_lt_of_le (by have := World.block_lt_of_cell? _ _ hw617_0; first | rwa [add_block] at this | exact this) GW625.out)) | (show (Addr.add _ _).block ≠ _; rw [add_block]; exact Nat.ne_of_lt (Nat.lt_of_lt_of_le (by have := World.block_lt_of_cell? _ _ hw617_0; first | rwa [add_block] at this | exact this) GW625.out)) | (dsimp only; exact Nat.ne_of_lt (Nat.lt_of_lt_of_le (by have := World.block_lt_of_cell? _ _ hw617_0; first | rwa [add_block] at this | exact this) GW625.out))) _).trans (((cell_far (p := ⟨gb625, _, none⟩) (by first | exact Nat.ne_of_lt (Nat.lt_of_lt_of_le (by have := World.block_lt_of_cell? _ _ hw617_0; first | rwa [add_block] at this | exact this) GW625.out) | (rw [add_block]; exact Nat.ne_of_lt (Nat.lt_of_lt_of_le (by have := World.block_lt_of_cell? _ _ hw617_0; first | rwa [add_block] at this | exact this) GW625.out)) | (show (Addr.add _ _).block ≠ _; rw [add_block]; exact Nat.ne_of_lt (Nat.lt_of_lt_of_le (by have := World.block_lt_of_cell? _ _ hw617_0; first | rwa [add_block] at this | exact this) GW625.out)) | (dsimp only; exact Nat.ne_of_lt (Nat.lt_of_lt_of_le (by have := World.block_lt_of_cell? _ _ hw617_0; first | rwa [add_block] at this | exact this) GW625.out))) _).trans (hHeld.2.2.2.2.2.2.2.2.1)))))))))), ((cell_far (p := ⟨gb625, _, none⟩) (by first | exact Nat.ne_of_lt (Nat.lt_of_lt_of_le (by have := World.block_lt_of_cell? _ _ hw617_1; first | rwa [add_block] at this | exact this) GW625.out) | (rw [add_block]; exact Nat.ne_of_lt (Nat.lt_of_lt_of_le (by have := World.block_lt_of_cell? _ _ hw617_1; first | rwa [add_block] at this | exact this) GW625.out)) | (show (Addr.add _ _).block ≠ _; rw [add_block]; exact Nat.ne_of_lt (Nat.lt_of_lt_of_le (by have := World.block_lt_of_cell? _ _ hw617_1; first | rwa [add_block] at this | exact this) GW625.out)) | (dsimp only; exact Nat.ne_of_lt (Nat.lt_of_lt_of_le (by have := World.block_lt_of_cell? _ _ hw617_1; first | rwa [add_block] at this | exact this) GW625.out))) _).trans (((cell_far (p := ⟨gb625, _, none⟩) (by first | exact Nat.ne_of_lt (Nat.lt_of_lt_of_le (by have := World.block_lt_of_cell? _ _ hw617_1; first | rwa [add_block] at this | exact this) GW625.out) | (rw [add_block]; exact Nat.ne_of_lt (Nat.lt_of_lt_of_le (by have := World.block_lt_of_cell? _ _ hw617_1; first | rwa [add_block] at this | exact this) GW625.out)) | (show (Addr.add _ _).block ≠ _; rw [add_block]; exact Nat.ne_of_lt (Nat.lt_of_lt_of_le (by have := World.block_lt_of_cell? _ _ hw617_1; first | rwa [add_block] at this | exact this) GW625.out)) | (dsimp only; exact Nat.ne_of_lt (Nat.lt_of_lt_of_le (by have := World.block_lt_of_cell? _ _ hw617_1; first | rwa [add_block] at this | exact this) GW625.out))) _).trans (((cell_far (p := ⟨gb625, _, none⟩) (by first | exact Nat.ne_of_lt (Nat.lt_of_lt_of_le (by have := World.block_lt_of_cell? _ _ hw617_1; first | rwa [add_block] at this | exact this) GW625.out) | (rw [add_block]; exact Nat.ne_of_lt (Nat.lt_of_lt_of_le (by have := World.block_lt_of_cell? _ _ hw617_1; first | rwa [add_block] at this | exact this) GW625.out)) | (show (Addr.add _ _).block ≠ _; rw [add_block]; exact Nat.ne_of_lt (Nat.lt_of_lt_of_le (by have := World.block_lt_of_cell? _ _ hw617_1; first | rwa [add_block] at this | exact this) GW625.out)) | (dsimp only; exact Nat.ne_of_lt (Nat.lt_of_lt_of_le (by have := World.block_lt_of_cell? _ _ hw617_1; first | rwa [add_block] at this | exact this) GW625.out))) _).trans (((cell_far (p := ⟨gb625, _, none⟩) (by first | exact Nat.ne_of_lt (Nat.lt_of_lt_of_le (by have := World.block_lt_of_cell? _ _ hw617_1; first | rwa [add_block] at this | exact this) GW625.out) | (rw [add_block]; exact Nat.ne_of_lt (Nat.lt_of_lt_of_le (by have := World.block_lt_of_cell? _ _ hw617_1; first | rwa [add_block] at this | exact this) GW625.out)) | (show (Addr.add _ _).block ≠ _; rw [add_block]; exact Nat.ne_of_lt (Nat.lt_of_lt_of_le (by have := World.block_lt_of_cell? _ _ hw617_1; first | rwa [add_block] at this | exact this) GW625.out)) | (dsimp only; exact Nat.ne_of_lt (Nat.lt_of_lt_of_le (by have := World.block_lt_of_cell? _ _ hw617_1; first | rwa [add_block] at this | exact this) GW625.out))) _).trans (((cell_far (p := ⟨gb625, _, none⟩) (by first | exact Nat.ne_of_lt (Nat.lt_of_lt_of_le (by have := World.block_lt_of_cell? _ _ hw617_1; first | rwa [add_block] at this | exact this) GW625.out) | (rw [add_block]; exact Nat.ne_of_lt (Nat.lt_of_lt_of_le (by have := World.block_lt_of_cell? _ _ hw617_1; first | rwa [add_block] at this | exact this) GW625.out)) | (show (Addr.add _ _).block ≠ _; rw [add_block]; exact Nat.ne_of_lt (Nat.lt_of_lt_of_le (by have := World.block_lt_of_cell? _ _ hw617_1; first | rwa [add_block] at this | exact this) GW625.out)) | (dsimp only; exact Nat.ne_of_lt (Nat.lt_of_lt_of_le (by have := World.block_lt_of_cell? _ _ hw617_1; first | rwa [add_block] at this | exact this) GW625.out))) _).trans (hHeld.2.2.2.2.2.2.2.2.2.1)))))))))), ((cell_far (p := ⟨gb625, _, none⟩) (by first | exact Nat.ne_of_lt (Nat.lt_of_lt_of_le (by have := World.block_lt_of_cell? _ _ hw617_2; first | rwa [add_block] at this | exact this) GW625.out) | (rw [add_block]; exact Nat.ne_of_lt (Nat.lt_of_lt_of_le (by have := World.block_lt_of_cell? _ _ hw617_2; first | rwa [add_block] at this | exact this) GW625.out)) | (show (Addr.add _ _).block ≠ _; rw [add_block]; exact Nat.ne_of_lt (Nat.lt_of_lt_of_le (by have := World.block_lt_of_cell? _ _ hw617_2; first | rwa [add_block] at this | exact this) GW625.out)) | (dsimp only; exact Nat.ne_of_lt (Nat.lt_of_lt_of_le (by have := World.block_lt_of_cell? _ _ hw617_2; first | rwa [add_block] at this | exact this) GW625.out))) _).trans (((cell_far (p := ⟨gb625, _, none⟩) (by first | exact Nat.ne_of_lt (Nat.lt_of_lt_of_le (by have := World.block_lt_of_cell? _ _ hw617_2; first | rwa [add_block] at this | exact this) GW625.out) | (rw [add_block]; exact Nat.ne_of_lt (Nat.lt_of_lt_of_le (by have := World.block_lt_of_cell? _ _ hw617_2; first | rwa [add_block] at this | exact this) GW625.out)) | (show (Addr.add _ _).block ≠ _; rw [add_block]; exact Nat.ne_of_lt (Nat.lt_of_lt_of_le (by have := World.block_lt_of_cell? _ _ hw617_2; first | rwa [add_block] at this | exact this) GW625.out)) | (dsimp only; exact Nat.ne_of_lt (Nat.lt_of_lt_of_le (by have := World.block_lt_of_cell? _ _ hw617_2; first | rwa [add_block] at this | exact this) GW625.out))) _).trans (((cell_far (p := ⟨gb625, _, none⟩) (by first | exact Nat.ne_of_lt (Nat.lt_of_lt_of_le (by have := World.block_lt_of_cell? _ _ hw617_2; first | rwa [add_block] at this | exact this) GW625.out) | (rw [add_block]; exact Nat.ne_of_lt (Nat.lt_of_lt_of_le (by have := World.block_lt_of_cell? _ _ hw617_2; first | rwa [add_block] at this | exact this) GW625.out)) | (show (Addr.add _ _).block ≠ _; rw [add_block]; exact Nat.ne_of_lt (Nat.lt_of_lt_of_le (by have := World.block_lt_of_cell? _ _ hw617_2; first | rwa [add_block] at this | exact this) GW625.out)) | (dsimp only; exact Nat.ne_of_lt (Nat.lt_of_lt_of_le (by have := World.block_lt_of_cell? _ _ hw617_2; first | rwa [add_block] at this | exact this) GW625.out))) _).trans (((cell_far (p := ⟨gb625, _, none⟩) (by first | exact Nat.ne_of_lt (Nat.lt_of_lt_of_le (by have := World.block_lt_of_cell? _ _ hw617_2; first | rwa [add_block] at this | exact this) GW625.out) | (rw [add_block]; exact Nat.ne_of_lt (Nat.lt_of_lt_of_le (by have := World.block_lt_of_cell? _ _ hw617_2; first | rwa [add_block] at this | exact this) GW625.out)) | (show (Addr.add _ _).block ≠ _; rw [add_block]; exact Nat.ne_of_lt (Nat.lt_of_lt_of_le (by have := World.block_lt_of_cell? _ _ hw617_2; first | rwa [add_block] at this | exact this) GW625.out)) | (dsimp only; exact Nat.ne_of_lt (Nat.lt_of_lt_of_le (by have := World.block_lt_of_cell? _ _ hw617_2; first | rwa [add_block] at this | exact this) GW625.out))) _).trans (((cell_far (p := ⟨gb625, _, none⟩) (by first | exact Nat.ne_of_lt (Nat.lt_of_lt_of_le (by have := World.block_lt_of_cell? _ _ hw617_2; first | rwa [add_block] at this | exact this) GW625.out) | (rw [add_block]; exact Nat.ne_of_lt (Nat.lt_of_lt_of_le (by have := World.block_lt_of_cell? _ _ hw617_2; first | rwa [add_block] at this | exact this) GW625.out)) | (show (Addr.add _ _).block ≠ _; rw [add_block]; exact Nat.ne_of_lt (Nat.lt_of_lt_of_le (by have := World.block_lt_of_cell? _ _ hw617_2; first | rwa [add_block] at this | exact this) GW625.out)) | (dsimp only; exact Nat.ne_of_lt (Nat.lt_of_lt_of_le (by have := World.block_lt_of_cell? _ _ hw617_2; first | rwa [add_block] at this | exact this) GW625.out))) _).trans (hHeld.2.2.2.2.2.2.2.2.2.2.1)))))))))), ((cell_far (p := ⟨gb625, _, none⟩) (by first | exact Nat.ne_of_lt (Nat.lt_of_lt_of_le (by have := World.block_lt_of_cell? _ _ hw618_0; first | rwa [add_block] at this | exact this) GW625.out) | (rw [add_block]; exact Nat.ne_of_lt (Nat.lt_of_lt_of_le (by have := World.block_lt_of_cell? _ _ hw618_0; first | rwa [add_block] at this | exact this) GW625.out)) | (show (Addr.add _ _).block ≠ _; rw [add_block]; exact Nat.ne_of_lt (Nat.lt_of_lt_of_le (by have := World.block_lt_of_cell? _ _ hw618_0; first | rwa [add_block] at this | exact this) GW625.out)) | (dsimp only; exact Nat.ne_of_lt (Nat.lt_of_lt_of_le (by have := World.block_lt_of_cell? _ _ hw618_0; first | rwa [add_block] at this | exact this) GW625.out))) _).trans (((cell_far (p := ⟨gb625, _, none⟩) (by first | exact Nat.ne_of_lt (Nat.lt_of_lt_of_le (by have := World.block_lt_of_cell? _ _ hw618_0; first | rwa [add_block] at this | exact this) GW625.out) | (rw [add_block]; exact Nat.ne_of_lt (Nat.lt_of_lt_of_le (by have := World.block_lt_of_cell? _ _ hw618_0; first | rwa [add_block] at this | exact this) GW625.out)) | (show (Addr.add _ _).block ≠ _; rw [add_block]; exact Nat.ne_of_lt (Nat.lt_of_lt_of_le (by have := World.block_lt_of_cell? _ _ hw618_0; first | rwa [add_block] at this | exact this) GW625.out)) | (dsimp only; exact Nat.ne_of_lt (Nat.lt_of_lt_of_le (by have := World.block_lt_of_cell? _ _ hw618_0; first | rwa [add_block] at this | exact this) GW625.out))) _).trans (((cell_far (p := ⟨gb625, _, none⟩) (by first | exact Nat.ne_of_lt (Nat.lt_of_lt_of_le (by have := World.block_lt_of_cell? _ _ hw618_0; first | rwa [add_block] at this | exact this) GW625.out) | (rw [add_block]; exact Nat.ne_of_lt (Nat.lt_of_lt_of_le (by have := World.block_lt_of_cell? _ _ hw618_0; first | rwa [add_block] at this | exact this) GW625.out)) | (show (Addr.add _ _).block ≠ _; rw [add_block]; exact Nat.ne_of_lt (Nat.lt_of_lt_of_le (by have := World.block_lt_of_cell? _ _ hw618_0; first | rwa [add_block] at this | exact this) GW625.out)) | (dsimp only; exact Nat.ne_of_lt (Nat.lt_of_lt_of_le (by have := World.block_lt_of_cell? _ _ hw618_0; first | rwa [add_block] at this | exact this) GW625.out))) _).trans (((cell_far (p := ⟨gb625, _, none⟩) (by first | exact Nat.ne_of_lt (Nat.lt_of_lt_of_le (by have := World.block_lt_of_cell? _ _ hw618_0; first | rwa [add_block] at this | exact this) GW625.out) | (rw [add_block]; exact Nat.ne_of_lt (Nat.lt_of_lt_of_le (by have := World.block_lt_of_cell? _ _ hw618_0; first | rwa [add_block] at this | exact this) GW625.out)) | (show (Addr.add _ _).block ≠ _; rw [add_block]; exact Nat.ne_of_lt (Nat.lt_of_lt_of_le (by have := World.block_lt_of_cell? _ _ hw618_0; first | rwa [add_block] at this | exact this) GW625.out)) | (dsimp only; exact Nat.ne_of_lt (Nat.lt_of_lt_of_le (by have := World.block_lt_of_cell? _ _ hw618_0; first | rwa [add_block] at this | exact this) GW625.out))) _).trans (((cell_far (p := ⟨gb625, _, none⟩) (by first | exact Nat.ne_of_lt (Nat.lt_of_lt_of_le (by have := World.block_lt_of_cell? _ _ hw618_0; first | rwa [add_block] at this | exact this) GW625.out) | (rw [add_block]; exact Nat.ne_of_lt (Nat.lt_of_lt_of_le (by have := World.block_lt_of_cell? _ _ hw618_0; first | rwa [add_block] at this | exact this) GW625.out)) | (show (Addr.add _ _).block ≠ _; rw [add_block]; exact Nat.ne_of_lt (Nat.lt_of_lt_of_le (by have := World.block_lt_of_cell? _ _ hw618_0; first | rwa [add_block] at this | exact this) GW625.out)) | (dsimp only; exact Nat.ne_of_lt (Nat.lt_of_lt_of_le (by have := World.block_lt_of_cell? _ _ hw618_0; first | rwa [add_block] at this | exact this) GW625.out))) _).trans (hHeld.2.2.2.2.2.2.2.2.2.2.2.1)))))))))), ((cell_far (p := ⟨gb625, _, none⟩) (by first | exact Nat.ne_of_lt (Nat.lt_of_lt_of_le (by have := World.block_lt_of_cell? _ _ hw618_1; first | rwa [add_block] at this | exact this) GW625.out) | (rw [add_block]; exact Nat.ne_of_lt (Nat.lt_of_lt_of_le (by have := World.block_lt_of_cell? _ _ hw618_1; first | rwa [add_block] at this | exact this) GW625.out)) | (show (Addr.add _ _).block ≠ _; rw [add_block]; exact Nat.ne_of_lt (Nat.lt_of_lt_of_le (by have := World.block_lt_of_cell? _ _ hw618_1; first | rwa [add_block] at this | exact this) GW625.out)) | (dsimp only; exact Nat.ne_of_lt (Nat.lt_of_lt_of_le (by have := World.block_lt_of_cell? _ _ hw618_1; first | rwa [add_block] at this | exact this) GW625.out))) _).trans (((cell_far (p := ⟨gb625, _, none⟩) (by first | exact Nat.ne_of_lt (Nat.lt_of_lt_of_le (by have := World.block_lt_of_cell? _ _ hw618_1; first | rwa [add_block] at this | exact this) GW625.out) | (rw [add_block]; exact Nat.ne_of_lt (Nat.lt_of_lt_of_le (by have := World.block_lt_of_cell? _ _ hw618_1; first | rwa [add_block] at this | exact this) GW625.out)) | (show (Addr.add _ _).block ≠ _; rw [add_block]; exact Nat.ne_of_lt (Nat.lt_of_lt_of_le (by have := World.block_lt_of_cell? _ _ hw618_1; first | rwa [add_block] at this | exact this) GW625.out)) | (dsimp only; exact Nat.ne_of_lt (Nat.lt_of_lt_of_le (by have := World.block_lt_of_cell? _ _ hw618_1; first | rwa [add_block] at this | exact this) GW625.out))) _).trans (((cell_far (p := ⟨gb625, _, none⟩) (by first | exact Nat.ne_of_lt (Nat.lt_of_lt_of_le (by have := World.block_lt_of_cell? _ _ hw618_1; first | rwa [add_block] at this | exact this) GW625.out) | (rw [add_block]; exact Nat.ne_of_lt (Nat.lt_of_lt_of_le (by have := World.block_lt_of_cell? _ _ hw618_1; first | rwa [add_block] at this | exact this) GW625.out)) | (show (Addr.add _ _).block ≠ _; rw [add_block]; exact Nat.ne_of_lt (Nat.lt_of_lt_of_le (by have := World.block_lt_of_cell? _ _ hw618_1; first | rwa [add_block] at this | exact this) GW625.out)) | (dsimp only; exact Nat.ne_of_lt (Nat.lt_of_lt_of_le (by have := World.block_lt_of_cell? _ _ hw618_1; first | rwa [add_block] at this | exact this) GW625.out))) _).trans (((cell_far (p := ⟨gb625, _, none⟩) (by first | exact Nat.ne_of_lt (Nat.lt_of_lt_of_le (by have := World.block_lt_of_cell? _ _ hw618_1; first | rwa [add_block] at this | exact this) GW625.out) | (rw [add_block]; exact Nat.ne_of_lt (Nat.lt_of_lt_of_le (by have := World.block_lt_of_cell? _ _ hw618_1; first | rwa [add_block] at this | exact this) GW625.out)) | (show (Addr.add _ _).block ≠ _; rw [add_block]; exact Nat.ne_of_lt (Nat.lt_of_lt_of_le (by have := World.block_lt_of_cell? _ _ hw618_1; first | rwa [add_block] at this | exact this) GW625.out)) | (dsimp only; exact Nat.ne_of_lt (Nat.lt_of_lt_of_le (by have := World.block_lt_of_cell? _ _ hw618_1; first | rwa [add_block] at this | exact this) GW625.out))) _).trans (((cell_far (p := ⟨gb625, _, none⟩) (by first | exact Nat.ne_of_lt (Nat.lt_of_lt_of_le (by have := World.block_lt_of_cell? _ _ hw618_1; first | rwa [add_block] at this | exact this) GW625.out) | (rw [add_block]; exact Nat.ne_of_lt (Nat.lt_of_lt_of_le (by have := World.block_lt_of_cell? _ _ hw618_1; first | rwa [add_block] at this | exact this) GW625.out)) | (show (Addr.add _ _).block ≠ _; rw [add_block]; exact Nat.ne_of_lt (Nat.lt_of_lt_of_le (by have := World.block_lt_of_cell? _ _ hw618_1; first | rwa [add_block] at this | exact this) GW625.out)) | (dsimp only; exact Nat.ne_of_lt (Nat.lt_of_lt_of_le (by have := World.block_lt_of_cell? _ _ hw618_1; first | rwa [add_block] at this | exact this) GW625.out))) _).trans (hHeld.2.2.2.2.2.2.2.2.2.2.2.2.1)))))))))), ((cell_far (p := ⟨gb625, _, none⟩) (by first | exact Nat.ne_of_lt (Nat.lt_of_lt_of_le (by have := World.block_lt_of_cell? _ _ hw618_2; first | rwa [add_block] at this | exact this) GW625.out) | (rw [add_block]; exact Nat.ne_of_lt (Nat.lt_of_lt_of_le (by have := World.block_lt_of_cell? _ _ hw618_2; first | rwa [add_block] at this | exact this) GW625.out)) | (show (Addr.add _ _).block ≠ _; rw [add_block]; exact Nat.ne_of_lt (Nat.lt_of_lt_of_le (by have := World.block_lt_of_cell? _ _ hw618_2; first | rwa [add_block] at this | exact this) GW625.out)) | (dsimp only; exact Nat.ne_of_lt (Nat.lt_of_lt_of_le (by have := World.block_lt_of_cell? _ _ hw618_2; first | rwa [add_block] at this | exact this) GW625.out))) _).trans (((cell_far (p := ⟨gb625, _, none⟩) (by first | exact Nat.ne_of_lt (Nat.lt_of_lt_of_le (by have := World.block_lt_of_cell? _ _ hw618_2; first | rwa [add_block] at this | exact this) GW625.out) | (rw [add_block]; exact Nat.ne_of_lt (Nat.lt_of_lt_of_le (by have := World.block_lt_of_cell? _ _ hw618_2; first | rwa [add_block] at this | exact this) GW625.out)) | (show (Addr.add _ _).block ≠ _; rw [add_block]; exact Nat.ne_of_lt (Nat.lt_of_lt_of_le (by have := World.block_lt_of_cell? _ _ hw618_2; first | rwa [add_block] at this | exact this) GW625.out)) | (dsimp only; exact Nat.ne_of_lt (Nat.lt_of_lt_of_le (by have := World.block_lt_of_cell? _ _ hw618_2; first | rwa [add_block] at this | exact this) GW625.out))) _).trans (((cell_far (p := ⟨gb625, _, none⟩) (by first | exact Nat.ne_of_lt (Nat.lt_of_lt_of_le (by have := World.block_lt_of_cell? _ _ hw618_2; first | rwa [add_block] at this | exact this) GW625.out) | (rw [add_block]; exact Nat.ne_of_lt (Nat.lt_of_lt_of_le (by have := World.block_lt_of_cell? _ _ hw618_2; first | rwa [add_block] at this | exact this) GW625.out)) | (show (Addr.add _ _).block ≠ _; rw [add_block]; exact Nat.ne_of_lt (Nat.lt_of_lt_of_le (by have := World.block_lt_of_cell? _ _ hw618_2; first | rwa [add_block] at this | exact this) GW625.out)) | (dsimp only; exact Nat.ne_of_lt (Nat.lt_of_lt_of_le (by have := World.block_lt_of_cell? _ _ hw618_2; first | rwa [add_block] at this | exact this) GW625.out))) _).trans (((cell_far (p := ⟨gb625, _, none⟩) (by first | exact Nat.ne_of_lt (Nat.lt_of_lt_of_le (by have := World.block_lt_of_cell? _ _ hw618_2; first | rwa [add_block] at this | exact this) GW625.out) | (rw [add_block]; exact Nat.ne_of_lt (Nat.lt_of_lt_of_le (by have := World.block_lt_of_cell? _ _ hw618_2; first | rwa [add_block] at this | exact this) GW625.out)) | (show (Addr.add _ _).block ≠ _; rw [add_block]; exact Nat.ne_of_lt (Nat.lt_of_lt_of_le (by have := World.block_lt_of_cell? _ _ hw618_2; first | rwa [add_block] at this | exact this) GW625.out)) | (dsimp only; exact Nat.ne_of_lt (Nat.lt_of_lt_of_le (by have := World.block_lt_of_cell? _ _ hw618_2; first | rwa [add_block] at this | exact this) GW625.out))) _).trans (((cell_far (p := ⟨gb625, _, none⟩) (by first | exact Nat.ne_of_lt (Nat.lt_of_lt_of_le (by have := World.block_lt_of_cell? _ _ hw618_2; first | rwa [add_block] at this | exact this) GW625.out) | (rw [add_block]; exact Nat.ne_of_lt (Nat.lt_of_lt_of_le (by have := World.block_lt_of_cell? _ _ hw618_2; first | rwa [add_block] at this | exact this) GW625.out)) | (show (Addr.add _ _).block ≠ _; rw [add_block]; exact Nat.ne_of_lt (Nat.lt_of_lt_of_le (by have := World.block_lt_of_cell? _ _ hw618_2; first | rwa [add_block] at this | exact this) GW625.out)) | (dsimp only; exact Nat.ne_of_lt (Nat.lt_of_lt_of_le (by have := World.block_lt_of_cell? _ _ hw618_2; first | rwa [add_block] at this | exact this) GW625.out))) _).trans (hHeld.2.2.2.2.2.2.2.2.2.2.2.2.2))))))))))⟩ (fun hHeld => ?_)
                clear hK K
                refine pure_ (i := 26) (N := some 12) (v := ?_) (a' := ?_) #[true, true, true, true, true, true, true, true, true, true, true, true, true, true, true, true, true, true, true, true, true, true, true, true, true, true, true] rfl rfl (any_of HT_.out (by kernel_rfl)) (fun _ _ _ h => h) (Or.inl ⟨by rfl, ?_⟩) ?_ ?_
                rotate_left
                · intro w'
                  go_simp
                  with_reducible rfl
                rotate_left
                · simp only [Act.put, List.setIfInBounds_toArray, List.set_cons_zero, List.set_cons_succ, i64_w, i32_w]
                  rfl
                refine done_ (done_of HT_.out (by kernel_rfl)) ?_
                try go_wp2
                have n0_ : Aside0 ((((((w26.setCell ⟨gb625, 0, none⟩ (.int .i64 t619)).setCell ⟨gb625, 1, none⟩ (.int .i64 t620)).setCell ⟨gb625, 2, none⟩ (.int .i64 t621)).setCell ⟨gb625, 3, none⟩ (.int .i64 t622)).setCell ⟨gb625, 4, none⟩ (.bool t623)).heap[gb609]? = some (.cells #[.int .i64 x610000_1, .int .i64 x610001_1, .int .i64 x610002_1, .int .i64 x610003_1, .bool x610004_1] 49 (0, 0))) := ⟨by (with_reducible repeat (first | refine blk_drewN ?_ _ | refine blk_drew ?_ | refine blk_alloc ?_ _)); refine blk_far ?_ NB609_625.out _; (with_reducible repeat (first | refine blk_drewN ?_ _ | refine blk_drew ?_ | refine blk_alloc ?_ _)); refine blk_far ?_ NB609_625.out _; (with_reducible repeat (first | refine blk_drewN ?_ _ | refine blk_drew ?_ | refine blk_alloc ?_ _)); refine blk_far ?_ NB609_625.out _; (with_reducible repeat (first | refine blk_drewN ?_ _ | refine blk_drew ?_ | refine blk_alloc ?_ _)); refine blk_far ?_ NB609_625.out _; (with_reducible repeat (first | refine blk_drewN ?_ _ | refine blk_drew ?_ | refine blk_alloc ?_ _)); refine blk_far ?_ NB609_625.out _; (with_reducible repeat (first | refine blk_drewN ?_ _ | refine blk_drew ?_ | refine blk_alloc ?_ _)); exact BK609.out⟩
                have n1_ : Aside0 ((((((w26.setCell ⟨gb625, 0, none⟩ (.int .i64 t619)).setCell ⟨gb625, 1, none⟩ (.int .i64 t620)).setCell ⟨gb625, 2, none⟩ (.int .i64 t621)).setCell ⟨gb625, 3, none⟩ (.int .i64 t622)).setCell ⟨gb625, 4, none⟩ (.bool t623)).heap[gb615]? = some (.cells #[.int .i64 x616000_1, .int .i64 x616001_1, .int .i64 x616002_1, .int .i64 x616003_1, .bool x616004_1] 49 (0, 0))) := ⟨by (with_reducible repeat (first | refine blk_drewN ?_ _ | refine blk_drew ?_ | refine blk_alloc ?_ _)); refine blk_far ?_ NB615_625.out _; (with_reducible repeat (first | refine blk_drewN ?_ _ | refine blk_drew ?_ | refine blk_alloc ?_ _)); refine blk_far ?_ NB615_625.out _; (with_reducible repeat (first | refine blk_drewN ?_ _ | refine blk_drew ?_ | refine blk_alloc ?_ _)); refine blk_far ?_ NB615_625.out _; (with_reducible repeat (first | refine blk_drewN ?_ _ | refine blk_drew ?_ | refine blk_alloc ?_ _)); refine blk_far ?_ NB615_625.out _; (with_reducible repeat (first | refine blk_drewN ?_ _ | refine blk_drew ?_ | refine blk_alloc ?_ _)); refine blk_far ?_ NB615_625.out _; (with_reducible repeat (first | refine blk_drewN ?_ _ | refine blk_drew ?_ | refine blk_alloc ?_ _)); exact BK615.out⟩
                have n2_ : Aside0 ((((((w26.setCell ⟨gb625, 0, none⟩ (.int .i64 t619)).setCell ⟨gb625, 1, none⟩ (.int .i64 t620)).setCell ⟨gb625, 2, none⟩ (.int .i64 t621)).setCell ⟨gb625, 3, none⟩ (.int .i64 t622)).setCell ⟨gb625, 4, none⟩ (.bool t623)).heap[gb625]? = some (.cells #[.int .i64 t619, .int .i64 t620, .int .i64 t621, .int .i64 t622, .bool t623] 49 (0, 0))) := ⟨by (with_reducible repeat (first | refine blk_drewN ?_ _ | refine blk_drew ?_ | refine blk_alloc ?_ _)); refine blk_put (cs := #[.int .i64 t619, .int .i64 t620, .int .i64 t621, .int .i64 t622, .bool false]) ?_ 4 _ rfl; (with_reducible repeat (first | refine blk_drewN ?_ _ | refine blk_drew ?_ | refine blk_alloc ?_ _)); refine blk_put (cs := #[.int .i64 t619, .int .i64 t620, .int .i64 t621, .int .i64 0, .bool false]) ?_ 3 _ rfl; (with_reducible repeat (first | refine blk_drewN ?_ _ | refine blk_drew ?_ | refine blk_alloc ?_ _)); refine blk_put (cs := #[.int .i64 t619, .int .i64 t620, .int .i64 0, .int .i64 0, .bool false]) ?_ 2 _ rfl; (with_reducible repeat (first | refine blk_drewN ?_ _ | refine blk_drew ?_ | refine blk_alloc ?_ _)); refine blk_put (cs := #[.int .i64 t619, .int .i64 0, .int .i64 0, .int .i64 0, .bool false]) ?_ 1 _ rfl; (with_reducible repeat (first | refine blk_drewN ?_ _ | refine blk_drew ?_ | refine blk_alloc ?_ _)); refine blk_put (cs := #[.int .i64 0, .int .i64 0, .int .i64 0, .int .i64 0, .bool false]) ?_ 0 _ rfl; (with_reducible repeat (first | refine blk_drewN ?_ _ | refine blk_drew ?_ | refine blk_alloc ?_ _)); exact BK625.out⟩
                have n3_ : Aside0 (Below w.heap.size w (((((w26.setCell ⟨gb625, 0, none⟩ (.int .i64 t619)).setCell ⟨gb625, 1, none⟩ (.int .i64 t620)).setCell ⟨gb625, 2, none⟩ (.int .i64 t621)).setCell ⟨gb625, 3, none⟩ (.int .i64 t622)).setCell ⟨gb625, 4, none⟩ (.bool t623))) := ⟨by repeat (first | (with_reducible first | exact HB.out | apply below_alloc | apply pw_below_drewN | apply below_drew1 | refine below_set ?_ GE609.out | refine below_set ?_ GE615.out | refine below_set ?_ GE625.out) | exact HB.out)⟩
                (try clear BK609)
                (try clear BK615)
                (try clear BK625)
                (try clear HB)
                generalize (((((w26.setCell ⟨gb625, 0, none⟩ (.int .i64 t619)).setCell ⟨gb625, 1, none⟩ (.int .i64 t620)).setCell ⟨gb625, 2, none⟩ (.int .i64 t621)).setCell ⟨gb625, 3, none⟩ (.int .i64 t622)).setCell ⟨gb625, 4, none⟩ (.bool t623)) = w32 at n0_ n1_ n2_ n3_ ⊢
                have BK609 := n0_
                have BK615 := n1_
                have BK625 := n2_
                have HB := n3_
                clear n0_ n1_ n2_ n3_
                have n0_ := Aside0.mk (blk_drew BK609.out)
                have n1_ := Aside0.mk (blk_drew BK615.out)
                have n2_ := Aside0.mk (blk_drew BK625.out)
                have n3_ := Aside0.mk (below_drew1 HB.out)
                clear BK609
                clear BK615
                clear BK625
                clear HB
                have BK609 := n0_
                have BK615 := n1_
                have BK625 := n2_
                have HB := n3_
                clear n0_ n1_ n2_ n3_
                have p626 : 0 ≤ (x10_1 : Int) := of_decide_eq_true (by first | (with_reducible assumption) | assumption)
                have q626 : x10_1 < (l2.length : Int) := of_decide_eq_true (by first | (with_reducible assumption) | assumption)
                obtain ⟨ad626, e626, hx626_0, hx626_1, hx626_2⟩ := at_T54 HR2.out x10_1 p626 q626
                have hw626_2 := hx626_2
                have hw626_1 := hx626_1
                have hw626_0 := hx626_0
                obtain rfl : ad616 = ad626 := (by injection e626)
                replace hx626_0 := (HB.out.cell (World.block_lt_of_cell? w _ hx626_0)).trans hx626_0
                replace hx626_1 := (HB.out.cell (World.block_lt_of_cell? w _ hx626_1)).trans hx626_1
                replace hx626_2 := (HB.out.cell (World.block_lt_of_cell? w _ hx626_2)).trans hx626_2
                replace p626 := eq_true p626
                replace q626 := eq_true q626
                have p627 : 0 ≤ (x10_1 : Int) := of_decide_eq_true (by first | (with_reducible assumption) | assumption)
                have q627 : x10_1 < (l2.length : Int) := of_decide_eq_true (by first | (with_reducible assumption) | assumption)
                obtain ⟨ad627, e627, hx627_0, hx627_1, hx627_2⟩ := at_T54 HR2.out x10_1 p627 q627
                have hw627_2 := hx627_2
                have hw627_1 := hx627_1
                have hw627_0 := hx627_0
                obtain rfl : ad616 = ad627 := (by injection e627)
                replace hx627_0 := (HB.out.cell (World.block_lt_of_cell? w _ hx627_0)).trans hx627_0
                replace hx627_1 := (HB.out.cell (World.block_lt_of_cell? w _ hx627_1)).trans hx627_1
                replace hx627_2 := (HB.out.cell (World.block_lt_of_cell? w _ hx627_2)).trans hx627_2
                replace p627 := eq_true p627
                replace q627 := eq_true q627
                have p628 : 0 ≤ (x10_1 : Int) := of_decide_eq_true (by first | (with_reducible assumption) | assumption)
                have q628 : x10_1 < (l2.length : Int) := of_decide_eq_true (by first | (with_reducible assumption) | assumption)
                obtain ⟨ad628, e628, hx628_0, hx628_1, hx628_2⟩ := at_T54 HR2.out x10_1 p628 q628
                have hw628_2 := hx628_2
                have hw628_1 := hx628_1
                have hw628_0 := hx628_0
                obtain rfl : ad616 = ad628 := (by injection e628)
                replace hx628_0 := (HB.out.cell (World.block_lt_of_cell? w _ hx628_0)).trans hx628_0
                replace hx628_1 := (HB.out.cell (World.block_lt_of_cell? w _ hx628_1)).trans hx628_1
                replace hx628_2 := (HB.out.cell (World.block_lt_of_cell? w _ hx628_2)).trans hx628_2
                replace p628 := eq_true p628
                replace q628 := eq_true q628
                refine start_ (n := 33) (S := fun w' => w'.cell? ⟨gb615, 0, none⟩ = some (.int .i64 x616000_1) ∧ w'.cell? ⟨gb615, 1, none⟩ = some (.int .i64 x616001_1) ∧ w'.cell? ⟨gb615, 2, none⟩ = some (.int .i64 x616002_1) ∧ w'.cell? ⟨gb615, 3, none⟩ = some (.int .i64 x616003_1) ∧ w'.cell? ⟨gb615, 4, none⟩ = some (.bool x616004_1) ∧ w'.cell? (ad616.add ((x10_1).toNat * 3)) = some (.int .u8 ((rd_T54 l2 x10_1).f0)) ∧ w'.cell? ⟨(ad616.add ((x10_1).toNat * 3)).block, (ad616.add ((x10_1).toNat * 3)).off + 1, none⟩ = some (.int .i16 ((rd_T54 l2 x10_1).f1)) ∧ w'.cell? ⟨(ad616.add ((x10_1).toNat * 3)).block, (ad616.add ((x10_1).toNat * 3)).off + 2, none⟩ = some (.int .i16 ((rd_T54 l2 x10_1).f2)) ∧ w'.cell? (ad616.add ((x10_1).toNat * 3)) = some (.int .u8 ((rd_T54 l2 x10_1).f0)) ∧ w'.cell? ⟨(ad616.add ((x10_1).toNat * 3)).block, (ad616.add ((x10_1).toNat * 3)).off + 1, none⟩ = some (.int .i16 ((rd_T54 l2 x10_1).f1)) ∧ w'.cell? ⟨(ad616.add ((x10_1).toNat * 3)).block, (ad616.add ((x10_1).toNat * 3)).off + 2, none⟩ = some (.int .i16 ((rd_T54 l2 x10_1).f2)) ∧ w'.cell? (ad616.add ((x10_1).toNat * 3)) = some (.int .u8 ((rd_T54 l2 x10_1).f0)) ∧ w'.cell? ⟨(ad616.add ((x10_1).toNat * 3)).block, (ad616.add ((x10_1).toNat * 3)).off + 1, none⟩ = some (.int .i16 ((rd_T54 l2 x10_1).f1)) ∧ w'.cell? ⟨(ad616.add ((x10_1).toNat * 3)).block, (ad616.add ((x10_1).toNat * 3)).off + 2, none⟩ = some (.int .i16 ((rd_T54 l2 x10_1).f2))) (ds := []) #[false, false, false, false, false, false, false, false, false, false, false, false, false, false, false, false, false, false, false, false, false, false, false, false, false, false, false, false, false, false, false, false, false] (by kernel_rfl) rfl rfl ⟨(blk_cell BK615.out 0).trans rfl, (blk_cell BK615.out 1).trans rfl, (blk_cell BK615.out 2).trans rfl, (blk_cell BK615.out 3).trans rfl, (blk_cell BK615.out 4).trans rfl, ((HB.out.cell (World.block_lt_of_cell? w _ hw626_0)).trans hw626_0), ((HB.out.cell (World.block_lt_of_cell? w _ hw626_1)).trans hw626_1), ((HB.out.cell (World.block_lt_of_cell? w _ hw626_2)).trans hw626_2), ((HB.out.cell (World.block_lt_of_cell? w _ hw627_0)).trans hw627_0), ((HB.out.cell (World.block_lt_of_cell? w _ hw627_1)).trans hw627_1), ((HB.out.cell (World.block_lt_of_cell? w _ hw627_2)).trans hw627_2), ((HB.out.cell (World.block_lt_of_cell? w _ hw628_0)).trans hw628_0), ((HB.out.cell (World.block_lt_of_cell? w _ hw628_1)).trans hw628_1), ((HB.out.cell (World.block_lt_of_cell? w _ hw628_2)).trans hw628_2)⟩ (fun hHeld => ?_); refine with_tabW ambidexterlaw25_ServoShiftInvariant.tab10 ambidexterlaw25_ServoShiftInvariant.bits10 (fun HT_ HW_ => ?_)
                generalize w32.drew = w33 at BK609 BK615 BK625 HB hx626_0 hx626_1 hx626_2 hx627_0 hx627_1 hx627_2 hx628_0 hx628_1 hx628_2 hHeld ⊢
                refine pure_ (i := 1) (N := some 62) (v := ?_) (a' := ?_) #[false, true, false, false, false, false, false, false, false, false, false, false, false, false, false, false, false, false, false, false, false, false, false, false, false, false, false, false, false, false, false, false, false] rfl rfl (any_of HT_.out (by kernel_rfl)) (fun _ _ _ h => h) (Or.inl ⟨by rfl, ?_⟩) ?_ ?_
                rotate_left
                · intro w'
                  go_simp
                  with_reducible rfl
                rotate_left
                · simp only [Act.put, List.setIfInBounds_toArray, List.set_cons_zero, List.set_cons_succ, i64_w, i32_w]
                  rfl
                refine pure_ (i := 2) (N := some 63) (v := ?_) (a' := ?_) #[false, true, true, false, false, false, false, false, false, false, false, false, false, false, false, false, false, false, false, false, false, false, false, false, false, false, false, false, false, false, false, false, false] rfl rfl (any_of HT_.out (by kernel_rfl)) (fun _ _ _ h => h) (Or.inl ⟨by rfl, ?_⟩) ?_ ?_
                rotate_left
                · intro w'
                  go_simp
                  with_reducible rfl
                rotate_left
                · simp only [Act.put, List.setIfInBounds_toArray, List.set_cons_zero, List.set_cons_succ, i64_w, i32_w]
                  rfl
                refine pure_ (i := 3) (N := some 64) (v := ?_) (a' := ?_) #[false, true, true, true, false, false, false, false, false, false, false, false, false, false, false, false, false, false, false, false, false, false, false, false, false, false, false, false, false, false, false, false, false] rfl rfl (any_of HT_.out (by kernel_rfl)) (fun _ _ _ h => h) (Or.inl ⟨by rfl, ?_⟩) ?_ ?_
                rotate_left
                · intro w'
                  go_simp
                  with_reducible rfl
                rotate_left
                · simp only [Act.put, List.setIfInBounds_toArray, List.set_cons_zero, List.set_cons_succ, i64_w, i32_w]
                  rfl
                refine pure_ (i := 4) (N := some 65) (v := ?_) (a' := ?_) #[false, true, true, true, true, false, false, false, false, false, false, false, false, false, false, false, false, false, false, false, false, false, false, false, false, false, false, false, false, false, false, false, false] rfl rfl (any_of HT_.out (by kernel_rfl)) (fun _ _ _ h => h) (Or.inl ⟨by rfl, ?_⟩) ?_ ?_
                rotate_left
                · intro w'
                  go_simp
                  with_reducible rfl
                rotate_left
                · simp only [Act.put, List.setIfInBounds_toArray, List.set_cons_zero, List.set_cons_succ, i64_w, i32_w]
                  rfl
                refine pure_ (i := 8) (N := some 69) (v := ?_) (a' := ?_) #[false, true, true, true, true, false, false, false, true, false, false, false, false, false, false, false, false, false, false, false, false, false, false, false, false, false, false, false, false, false, false, false, false] rfl rfl (any_of HT_.out (by kernel_rfl)) (fun _ _ _ h => h) (Or.inl ⟨by rfl, ?_⟩) ?_ ?_
                rotate_left
                · intro w'
                  go_simp
                  with_reducible rfl
                rotate_left
                · simp only [Act.put, List.setIfInBounds_toArray, List.set_cons_zero, List.set_cons_succ, i64_w, i32_w]
                  rfl
                refine pure_ (i := 9) (N := some 70) (v := ?_) (a' := ?_) #[false, true, true, true, true, false, false, false, true, true, false, false, false, false, false, false, false, false, false, false, false, false, false, false, false, false, false, false, false, false, false, false, false] rfl rfl (any_of HT_.out (by kernel_rfl)) (fun _ _ _ h => h) (Or.inl ⟨by rfl, ?_⟩) ?_ ?_
                rotate_left
                · intro w'
                  go_simp
                  with_reducible rfl
                rotate_left
                · simp only [Act.put, List.setIfInBounds_toArray, List.set_cons_zero, List.set_cons_succ, i64_w, i32_w]
                  rfl
                refine pure_ (i := 10) (N := some 71) (v := ?_) (a' := ?_) #[false, true, true, true, true, false, false, false, true, true, true, false, false, false, false, false, false, false, false, false, false, false, false, false, false, false, false, false, false, false, false, false, false] rfl rfl (any_of HT_.out (by kernel_rfl)) (fun _ _ _ h => h) (Or.inl ⟨by rfl, ?_⟩) ?_ ?_
                rotate_left
                · intro w'
                  go_simp
                  with_reducible rfl
                rotate_left
                · simp only [Act.put, List.setIfInBounds_toArray, List.set_cons_zero, List.set_cons_succ, i64_w, i32_w]
                  rfl
                refine pure_ (i := 11) (N := some 72) (v := ?_) (a' := ?_) #[false, true, true, true, true, false, false, false, true, true, true, true, false, false, false, false, false, false, false, false, false, false, false, false, false, false, false, false, false, false, false, false, false] rfl rfl (any_of HT_.out (by kernel_rfl)) (fun _ _ _ h => h) (Or.inl ⟨by rfl, ?_⟩) ?_ ?_
                rotate_left
                · intro w'
                  go_simp
                  with_reducible rfl
                rotate_left
                · simp only [Act.put, List.setIfInBounds_toArray, List.set_cons_zero, List.set_cons_succ, i64_w, i32_w]
                  rfl
                refine pure_ (i := 14) (N := some 75) (v := ?_) (a' := ?_) #[false, true, true, true, true, false, false, false, true, true, true, true, false, false, true, false, false, false, false, false, false, false, false, false, false, false, false, false, false, false, false, false, false] rfl rfl (any_of HT_.out (by kernel_rfl)) (fun _ _ _ h => h) (Or.inl ⟨by rfl, ?_⟩) ?_ ?_
                rotate_left
                · intro w'
                  go_simp
                  with_reducible rfl
                rotate_left
                · simp only [Act.put, List.setIfInBounds_toArray, List.set_cons_zero, List.set_cons_succ, i64_w, i32_w]
                  rfl
                refine pure_ (i := 15) (N := some 76) (v := ?_) (a' := ?_) #[false, true, true, true, true, false, false, false, true, true, true, true, false, false, true, true, false, false, false, false, false, false, false, false, false, false, false, false, false, false, false, false, false] rfl rfl (any_of HT_.out (by kernel_rfl)) (fun _ _ _ h => h) (Or.inl ⟨by rfl, ?_⟩) ?_ ?_
                rotate_left
                · intro w'
                  go_simp
                  with_reducible rfl
                rotate_left
                · simp only [Act.put, List.setIfInBounds_toArray, List.set_cons_zero, List.set_cons_succ, i64_w, i32_w]
                  rfl
                refine pure_ (i := 17) (N := some 78) (v := ?_) (a' := ?_) #[false, true, true, true, true, false, false, false, true, true, true, true, false, false, true, true, false, true, false, false, false, false, false, false, false, false, false, false, false, false, false, false, false] rfl rfl (any_of HT_.out (by kernel_rfl)) (fun _ _ _ h => h) (Or.inl ⟨by rfl, ?_⟩) ?_ ?_
                rotate_left
                · intro w'
                  go_simp
                  with_reducible rfl
                rotate_left
                · simp only [Act.put, List.setIfInBounds_toArray, List.set_cons_zero, List.set_cons_succ, i64_w, i32_w]
                  rfl
                refine pure_ (i := 18) (N := some 79) (v := ?_) (a' := ?_) #[false, true, true, true, true, false, false, false, true, true, true, true, false, false, true, true, false, true, true, false, false, false, false, false, false, false, false, false, false, false, false, false, false] rfl rfl (any_of HT_.out (by kernel_rfl)) (fun _ _ _ h => h) (Or.inl ⟨by rfl, ?_⟩) ?_ ?_
                rotate_left
                · intro w'
                  go_simp
                  with_reducible rfl
                rotate_left
                · simp only [Act.put, List.setIfInBounds_toArray, List.set_cons_zero, List.set_cons_succ, i64_w, i32_w]
                  rfl
                refine pure_ (i := 19) (N := some 80) (v := ?_) (a' := ?_) #[false, true, true, true, true, false, false, false, true, true, true, true, false, false, true, true, false, true, true, true, false, false, false, false, false, false, false, false, false, false, false, false, false] rfl rfl (any_of HT_.out (by kernel_rfl)) (fun _ _ _ h => h) (Or.inl ⟨by rfl, ?_⟩) ?_ ?_
                rotate_left
                · intro w'
                  go_simp
                  with_reducible rfl
                rotate_left
                · simp only [Act.put, List.setIfInBounds_toArray, List.set_cons_zero, List.set_cons_succ, i64_w, i32_w]
                  rfl
                refine pure_ (i := 20) (N := some 81) (v := ?_) (a' := ?_) #[false, true, true, true, true, false, false, false, true, true, true, true, false, false, true, true, false, true, true, true, true, false, false, false, false, false, false, false, false, false, false, false, false] rfl rfl (any_of HT_.out (by kernel_rfl)) (fun _ _ _ h => h) (Or.inl ⟨by rfl, ?_⟩) ?_ ?_
                rotate_left
                · intro w'
                  go_simp
                  with_reducible rfl
                rotate_left
                · simp only [Act.put, List.setIfInBounds_toArray, List.set_cons_zero, List.set_cons_succ, i64_w, i32_w]
                  rfl
                refine pure_ (i := 23) (N := some 84) (v := ?_) (a' := ?_) #[false, true, true, true, true, false, false, false, true, true, true, true, false, false, true, true, false, true, true, true, true, false, false, true, false, false, false, false, false, false, false, false, false] rfl rfl (any_of HT_.out (by kernel_rfl)) (fun _ _ _ h => h) (Or.inl ⟨by rfl, ?_⟩) ?_ ?_
                rotate_left
                · intro w'
                  go_simp
                  with_reducible rfl
                rotate_left
                · simp only [Act.put, List.setIfInBounds_toArray, List.set_cons_zero, List.set_cons_succ, i64_w, i32_w]
                  rfl
                refine pure_ (i := 24) (N := some 85) (v := ?_) (a' := ?_) #[false, true, true, true, true, false, false, false, true, true, true, true, false, false, true, true, false, true, true, true, true, false, false, true, true, false, false, false, false, false, false, false, false] rfl rfl (any_of HT_.out (by kernel_rfl)) (fun _ _ _ h => h) (Or.inl ⟨by rfl, ?_⟩) ?_ ?_
                rotate_left
                · intro w'
                  go_simp
                  with_reducible rfl
                rotate_left
                · simp only [Act.put, List.setIfInBounds_toArray, List.set_cons_zero, List.set_cons_succ, i64_w, i32_w]
                  rfl
                refine take_ (i := 0) (N := some 61) (v := ?_) (a' := ?_) #[true, true, true, true, true, false, false, false, true, true, true, true, false, false, true, true, false, true, true, true, true, false, false, true, true, false, false, false, false, false, false, false, false] rfl rfl (take_ofW HT_.out HW_.out (by kernel_rfl)) (fun _ _ _ h => h) (Or.inl ⟨by rfl, ?_⟩) hHeld ?_ ?_
                rotate_left
                · rintro w' ⟨s0, s1, s2, s3, s4, s5, s6, s7, s8, s9, s10, s11, s12, s13⟩
                  go_simp
                  with_reducible rfl
                rotate_left
                · simp only [Act.put, List.setIfInBounds_toArray, List.set_cons_zero, List.set_cons_succ, i64_w, i32_w]
                  rfl
                refine take_ (i := 5) (N := some 66) (v := ?_) (a' := ?_) #[true, true, true, true, true, true, false, false, true, true, true, true, false, false, true, true, false, true, true, true, true, false, false, true, true, false, false, false, false, false, false, false, false] rfl rfl (take_ofW HT_.out HW_.out (by kernel_rfl)) (fun _ _ _ h => h) (Or.inl ⟨by rfl, ?_⟩) hHeld ?_ ?_
                rotate_left
                · rintro w' ⟨s0, s1, s2, s3, s4, s5, s6, s7, s8, s9, s10, s11, s12, s13⟩
                  go_simp
                  with_reducible rfl
                rotate_left
                · simp only [Act.put, List.setIfInBounds_toArray, List.set_cons_zero, List.set_cons_succ, i64_w, i32_w]
                  rfl
                refine pure_ (i := 6) (N := some 67) (v := ?_) (a' := ?_) #[true, true, true, true, true, true, true, false, true, true, true, true, false, false, true, true, false, true, true, true, true, false, false, true, true, false, false, false, false, false, false, false, false] rfl rfl (any_of HT_.out (by kernel_rfl)) (fun _ _ _ h => h) (Or.inl ⟨by rfl, ?_⟩) ?_ ?_
                rotate_left
                · intro w'
                  go_simp
                  with_reducible rfl
                rotate_left
                · simp only [Act.put, List.setIfInBounds_toArray, List.set_cons_zero, List.set_cons_succ, i64_w, i32_w]
                  rfl
                refine pure_ (i := 7) (N := some 68) (v := ?_) (a' := ?_) #[true, true, true, true, true, true, true, true, true, true, true, true, false, false, true, true, false, true, true, true, true, false, false, true, true, false, false, false, false, false, false, false, false] rfl rfl (any_of HT_.out (by kernel_rfl)) (fun _ _ _ h => h) (Or.inl ⟨by rfl, ?_⟩) ?_ ?_
                rotate_left
                · intro w'
                  go_simp
                  with_reducible rfl
                rotate_left
                · simp only [Act.put, List.setIfInBounds_toArray, List.set_cons_zero, List.set_cons_succ, i64_w, i32_w]
                  rfl
                refine take_ (i := 12) (N := some 73) (v := ?_) (a' := ?_) #[true, true, true, true, true, true, true, true, true, true, true, true, true, false, true, true, false, true, true, true, true, false, false, true, true, false, false, false, false, false, false, false, false] rfl rfl (take_ofW HT_.out HW_.out (by kernel_rfl)) (fun _ _ _ h => h) (Or.inl ⟨by rfl, ?_⟩) hHeld ?_ ?_
                rotate_left
                · rintro w' ⟨s0, s1, s2, s3, s4, s5, s6, s7, s8, s9, s10, s11, s12, s13⟩
                  go_simp
                  with_reducible rfl
                rotate_left
                · simp only [Act.put, List.setIfInBounds_toArray, List.set_cons_zero, List.set_cons_succ, i64_w, i32_w]
                  rfl
                refine pure_ (i := 13) (N := some 74) (v := ?_) (a' := ?_) #[true, true, true, true, true, true, true, true, true, true, true, true, true, true, true, true, false, true, true, true, true, false, false, true, true, false, false, false, false, false, false, false, false] rfl rfl (any_of HT_.out (by kernel_rfl)) (fun _ _ _ h => h) (Or.inl ⟨by rfl, ?_⟩) ?_ ?_
                rotate_left
                · intro w'
                  go_simp
                  with_reducible rfl
                rotate_left
                · simp only [Act.put, List.setIfInBounds_toArray, List.set_cons_zero, List.set_cons_succ, i64_w, i32_w]
                  rfl
                refine pure_ (i := 16) (N := some 77) (v := ?_) (a' := ?_) #[true, true, true, true, true, true, true, true, true, true, true, true, true, true, true, true, true, true, true, true, true, false, false, true, true, false, false, false, false, false, false, false, false] rfl rfl (any_of HT_.out (by kernel_rfl)) (fun _ _ _ h => h) (Or.inl ⟨by rfl, ?_⟩) ?_ ?_
                rotate_left
                · intro w'
                  go_simp
                  with_reducible rfl
                rotate_left
                · simp only [Act.put, List.setIfInBounds_toArray, List.set_cons_zero, List.set_cons_succ, i64_w, i32_w]
                  rfl
                refine take_ (i := 21) (N := some 82) (v := ?_) (a' := ?_) #[true, true, true, true, true, true, true, true, true, true, true, true, true, true, true, true, true, true, true, true, true, true, false, true, true, false, false, false, false, false, false, false, false] rfl rfl (take_ofW HT_.out HW_.out (by kernel_rfl)) (fun _ _ _ h => h) (Or.inl ⟨by rfl, ?_⟩) hHeld ?_ ?_
                rotate_left
                · rintro w' ⟨s0, s1, s2, s3, s4, s5, s6, s7, s8, s9, s10, s11, s12, s13⟩
                  go_simp
                  with_reducible rfl
                rotate_left
                · simp only [Act.put, List.setIfInBounds_toArray, List.set_cons_zero, List.set_cons_succ, i64_w, i32_w]
                  rfl
                refine pure_ (i := 22) (N := some 83) (v := ?_) (a' := ?_) #[true, true, true, true, true, true, true, true, true, true, true, true, true, true, true, true, true, true, true, true, true, true, true, true, true, false, false, false, false, false, false, false, false] rfl rfl (any_of HT_.out (by kernel_rfl)) (fun _ _ _ h => h) (Or.inl ⟨by rfl, ?_⟩) ?_ ?_
                rotate_left
                · intro w'
                  go_simp
                  with_reducible rfl
                rotate_left
                · simp only [Act.put, List.setIfInBounds_toArray, List.set_cons_zero, List.set_cons_succ, i64_w, i32_w]
                  rfl
                refine pure_ (i := 25) (N := some 86) (v := ?_) (a' := ?_) #[true, true, true, true, true, true, true, true, true, true, true, true, true, true, true, true, true, true, true, true, true, true, true, true, true, true, false, false, false, false, false, false, false] rfl rfl (any_of HT_.out (by kernel_rfl)) (fun _ _ _ h => h) (Or.inl ⟨by rfl, ?_⟩) ?_ ?_
                rotate_left
                · intro w'
                  go_simp
                  with_reducible rfl
                rotate_left
                · simp only [Act.put, List.setIfInBounds_toArray, List.set_cons_zero, List.set_cons_succ, i64_w, i32_w]
                  rfl
                refine join_ (σ := Nat) 2 #[true, true, true, true, true, true, true, true, true, true, true, true, true, true, true, true, true, true, true, true, true, true, true, true, true, true, true, true, true, true, true, false, false] (fun s_ => [(87, .tuple #[.agg #[.int .i64 t629, .int .i64 t630, .int .i64 t631, .int .i64 t632, .bool t633], .int .i64 t634]), (13, .pointer (some ⟨s_, 0, none⟩)), (60, .tuple #[.agg #[.int .i64 t629, .int .i64 t630, .int .i64 t631, .int .i64 t632, .bool t633], .int .i64 t634]), (88, .agg #[.int .i64 t629, .int .i64 t630, .int .i64 t631, .int .i64 t632, .bool t633]), (89, .int .i64 t634)]) (fun s_ w' => (w'.cell? ⟨gb615, 0, none⟩ = some (.int .i64 x616000_1) ∧ w'.cell? ⟨gb615, 1, none⟩ = some (.int .i64 x616001_1) ∧ w'.cell? ⟨gb615, 2, none⟩ = some (.int .i64 x616002_1) ∧ w'.cell? ⟨gb615, 3, none⟩ = some (.int .i64 x616003_1) ∧ w'.cell? ⟨gb615, 4, none⟩ = some (.bool x616004_1) ∧ w'.cell? (ad616.add ((x10_1).toNat * 3)) = some (.int .u8 ((rd_T54 l2 x10_1).f0)) ∧ w'.cell? ⟨(ad616.add ((x10_1).toNat * 3)).block, (ad616.add ((x10_1).toNat * 3)).off + 1, none⟩ = some (.int .i16 ((rd_T54 l2 x10_1).f1)) ∧ w'.cell? ⟨(ad616.add ((x10_1).toNat * 3)).block, (ad616.add ((x10_1).toNat * 3)).off + 2, none⟩ = some (.int .i16 ((rd_T54 l2 x10_1).f2)) ∧ w'.cell? (ad616.add ((x10_1).toNat * 3)) = some (.int .u8 ((rd_T54 l2 x10_1).f0)) ∧ w'.cell? ⟨(ad616.add ((x10_1).toNat * 3)).block, (ad616.add ((x10_1).toNat * 3)).off + 1, none⟩ = some (.int .i16 ((rd_T54 l2 x10_1).f1)) ∧ w'.cell? ⟨(ad616.add ((x10_1).toNat * 3)).block, (ad616.add ((x10_1).toNat * 3)).off + 2, none⟩ = some (.int .i16 ((rd_T54 l2 x10_1).f2)) ∧ w'.cell? (ad616.add ((x10_1).toNat * 3)) = some (.int .u8 ((rd_T54 l2 x10_1).f0)) ∧ w'.cell? ⟨(ad616.add ((x10_1).toNat * 3)).block, (ad616.add ((x10_1).toNat * 3)).off + 1, none⟩ = some (.int .i16 ((rd_T54 l2 x10_1).f1)) ∧ w'.cell? ⟨(ad616.add ((x10_1).toNat * 3)).block, (ad616.add ((x10_1).toNat * 3)).off + 2, none⟩ = some (.int .i16 ((rd_T54 l2 x10_1).f2))) ∧ (w'.heap[gb609]? = some (.cells #[.int .i64 x610000_1, .int .i64 x610001_1, .int .i64 x610002_1, .int .i64 x610003_1, .bool x610004_1] 49 (0, 0))) ∧ (w'.heap[gb615]? = some (.cells #[.int .i64 x616000_1, .int .i64 x616001_1, .int .i64 x616002_1, .int .i64 x616003_1, .bool x616004_1] 49 (0, 0))) ∧ (w'.heap[gb625]? = some (.cells #[.int .i64 t619, .int .i64 t620, .int .i64 t621, .int .i64 t622, .bool t623] 49 (0, 0))) ∧ (w'.heap[s_]? = some (.cells #[.int .i64 0, .int .i64 0, .int .i64 0, .int .i64 0, .bool false] 49 (0, 0))) ∧ (w.heap.size ≤ s_) ∧ (w.heap.size ≤ s_) ∧ (gb609 ≠ s_) ∧ (s_ ≠ gb609) ∧ (gb615 ≠ s_) ∧ (s_ ≠ gb615) ∧ (gb625 ≠ s_) ∧ (s_ ≠ gb625) ∧ (Below w.heap.size w w')) ?_ ?_
                rotate_left
                · intro hCont
                  refine two_ (i := 26) (j := 30) (Ni := some 87) (Nj := some 13) #[true, true, true, true, true, true, true, true, true, true, true, true, true, true, true, true, true, true, true, true, true, true, true, true, true, true, true, false, false, false, false, false, false] #[true, true, true, true, true, true, true, true, true, true, true, true, true, true, true, true, true, true, true, true, true, true, true, true, true, true, false, false, false, false, true, false, false] rfl rfl rfl rfl (two_of HT_.out (by kernel_rfl)) (by decide) (by decide) (fun K hK => ?_) (fun K hK => ?_)
                  · skip
                    refine goes_ Try.func32 (by kernel_rfl) rfl #[.agg #[.int .i64 x616000_1, .int .i64 x616001_1, .int .i64 x616002_1, .int .i64 x616003_1, .bool x616004_1], .int .i64 (Int.tmod (wrap64 ((rd_T54 l2 x10_1).f0)) 4), .int .i64 (wrap64 ((wrap64 ((rd_T54 l2 x10_1).f1)) + (wrap64 (a1)))), .int .i64 (wrap64 ((wrap64 ((rd_T54 l2 x10_1).f2)) + (wrap64 (a1))))] (by rfl) rfl rfl (by (try simp only [List.map_toArray, List.map_cons, List.map_nil]); first | done | rfl | (simp only [List.length_drop, List.length_take]; rfl)) ?_
                    with_reducible refine (servo_Step.calls x616000_1 x616001_1 x616002_1 x616003_1 x616004_1 (Int.tmod (wrap64 ((rd_T54 l2 x10_1).f0)) 4) (wrap64 ((wrap64 ((rd_T54 l2 x10_1).f1)) + (wrap64 (a1)))) (wrap64 ((wrap64 ((rd_T54 l2 x10_1).f2)) + (wrap64 (a1)))) t629 t630 t631 t632 t633 t634 _ A20.out).mono ?_
                    rintro e w34 ⟨rfl, hb⟩
                    refine ⟨_, rfl, ?_⟩
                    have n0_ := Aside0.mk (blk_below (g := gb609) (o := .cells #[.int .i64 x610000_1, .int .i64 x610001_1, .int .i64 x610002_1, .int .i64 x610003_1, .bool x610004_1] 49 (0, 0)) (by (with_reducible repeat (first | refine blk_drewN ?_ _ | refine blk_drew ?_ | refine blk_alloc ?_ _)); exact BK609.out) hb)
                    have n1_ := Aside0.mk (blk_below (g := gb615) (o := .cells #[.int .i64 x616000_1, .int .i64 x616001_1, .int .i64 x616002_1, .int .i64 x616003_1, .bool x616004_1] 49 (0, 0)) (by (with_reducible repeat (first | refine blk_drewN ?_ _ | refine blk_drew ?_ | refine blk_alloc ?_ _)); exact BK615.out) hb)
                    have n2_ := Aside0.mk (blk_below (g := gb625) (o := .cells #[.int .i64 t619, .int .i64 t620, .int .i64 t621, .int .i64 t622, .bool t623] 49 (0, 0)) (by (with_reducible repeat (first | refine blk_drewN ?_ _ | refine blk_drew ?_ | refine blk_alloc ?_ _)); exact BK625.out) hb)
                    have n3_ := Aside0.mk (below_step (by repeat (first | (with_reducible first | exact HB.out | apply below_alloc | apply pw_below_drewN | apply below_drew1 | refine below_set ?_ GE609.out | refine below_set ?_ GE615.out | refine below_set ?_ GE625.out) | exact HB.out)) hb)
                    clear BK609
                    clear BK615
                    clear BK625
                    clear HB
                    have BK609 := n0_
                    have BK615 := n1_
                    have BK625 := n2_
                    have HB := n3_
                    clear n0_ n1_ n2_ n3_
                    (try clear hb)
                    (try clear hb2)
                    (try clear hk)
                    (try clear hi)
                    refine hK.out _ _ ⟨(blk_cell BK615.out 0).trans rfl, (blk_cell BK615.out 1).trans rfl, (blk_cell BK615.out 2).trans rfl, (blk_cell BK615.out 3).trans rfl, (blk_cell BK615.out 4).trans rfl, ((HB.out.cell (World.block_lt_of_cell? w _ hw626_0)).trans hw626_0), ((HB.out.cell (World.block_lt_of_cell? w _ hw626_1)).trans hw626_1), ((HB.out.cell (World.block_lt_of_cell? w _ hw626_2)).trans hw626_2), ((HB.out.cell (World.block_lt_of_cell? w _ hw627_0)).trans hw627_0), ((HB.out.cell (World.block_lt_of_cell? w _ hw627_1)).trans hw627_1), ((HB.out.cell (World.block_lt_of_cell? w _ hw627_2)).trans hw627_2), ((HB.out.cell (World.block_lt_of_cell? w _ hw628_0)).trans hw628_0), ((HB.out.cell (World.block_lt_of_cell? w _ hw628_1)).trans hw628_1), ((HB.out.cell (World.block_lt_of_cell? w _ hw628_2)).trans hw628_2)⟩ (fun hHeld => ?_)
                    clear hK K
                    refine norm_ (a' := ?_) ?_ ?_
                    rotate_left
                    · show Act.put _ (some 87) _ = _
                      simp only [Act.put, List.setIfInBounds_toArray, List.set_cons_zero, List.set_cons_succ, i64_w, i32_w]
                      rfl
                    refine pure_ (i := 27) (N := some 60) (v := ?_) (a' := ?_) #[true, true, true, true, true, true, true, true, true, true, true, true, true, true, true, true, true, true, true, true, true, true, true, true, true, true, true, true, false, false, false, false, false] rfl rfl (any_of HT_.out (by kernel_rfl)) (fun _ _ _ h => h) (Or.inl ⟨by rfl, ?_⟩) ?_ ?_
                    rotate_left
                    · intro w'
                      go_simp
                      with_reducible rfl
                    rotate_left
                    · simp only [Act.put, List.setIfInBounds_toArray, List.set_cons_zero, List.set_cons_succ, i64_w, i32_w]
                      rfl
                    refine pure_ (i := 28) (N := some 88) (v := ?_) (a' := ?_) #[true, true, true, true, true, true, true, true, true, true, true, true, true, true, true, true, true, true, true, true, true, true, true, true, true, true, true, true, true, false, false, false, false] rfl rfl (any_of HT_.out (by kernel_rfl)) (fun _ _ _ h => h) (Or.inl ⟨by rfl, ?_⟩) ?_ ?_
                    rotate_left
                    · intro w'
                      go_simp
                      with_reducible rfl
                    rotate_left
                    · simp only [Act.put, List.setIfInBounds_toArray, List.set_cons_zero, List.set_cons_succ, i64_w, i32_w]
                      rfl
                    refine pure_ (i := 29) (N := some 89) (v := ?_) (a' := ?_) #[true, true, true, true, true, true, true, true, true, true, true, true, true, true, true, true, true, true, true, true, true, true, true, true, true, true, true, true, true, true, false, false, false] rfl rfl (any_of HT_.out (by kernel_rfl)) (fun _ _ _ h => h) (Or.inl ⟨by rfl, ?_⟩) ?_ ?_
                    rotate_left
                    · intro w'
                      go_simp
                      with_reducible rfl
                    rotate_left
                    · simp only [Act.put, List.setIfInBounds_toArray, List.set_cons_zero, List.set_cons_succ, i64_w, i32_w]
                      rfl
                    refine one_ (i := 30) (N := some 13) #[true, true, true, true, true, true, true, true, true, true, true, true, true, true, true, true, true, true, true, true, true, true, true, true, true, true, true, true, true, true, true, false, false] rfl rfl (one_of HT_.out (by kernel_rfl)) (by decide) (fun K hK => ?_)
                    refine box_step ?hg (N := 13) ?hd (cs := #[.int .i64 0, .int .i64 0, .int .i64 0, .int .i64 0, .bool false]) (t := 49) ?hr ?_; (case hd => rfl); (case hg => rfl); (case hr => first | (go_simp; done) | (go_simp; rfl))
                    intro gb635 hg w35 hbox hb
                    have n0_ := Aside0.mk (blk_below (g := gb609) (o := .cells #[.int .i64 x610000_1, .int .i64 x610001_1, .int .i64 x610002_1, .int .i64 x610003_1, .bool x610004_1] 49 (0, 0)) (by (with_reducible repeat (first | refine blk_drewN ?_ _ | refine blk_drew ?_ | refine blk_alloc ?_ _)); exact BK609.out) hb)
                    have n1_ := Aside0.mk (blk_below (g := gb615) (o := .cells #[.int .i64 x616000_1, .int .i64 x616001_1, .int .i64 x616002_1, .int .i64 x616003_1, .bool x616004_1] 49 (0, 0)) (by (with_reducible repeat (first | refine blk_drewN ?_ _ | refine blk_drew ?_ | refine blk_alloc ?_ _)); exact BK615.out) hb)
                    have n2_ := Aside0.mk (blk_below (g := gb625) (o := .cells #[.int .i64 t619, .int .i64 t620, .int .i64 t621, .int .i64 t622, .bool t623] 49 (0, 0)) (by (with_reducible repeat (first | refine blk_drewN ?_ _ | refine blk_drew ?_ | refine blk_alloc ?_ _)); exact BK625.out) hb)
                    have n3_ := Aside0.mk (below_step (by repeat (first | (with_reducible first | exact HB.out | apply below_alloc | apply pw_below_drewN | apply below_drew1 | refine below_set ?_ GE609.out | refine below_set ?_ GE615.out | refine below_set ?_ GE625.out) | exact HB.out)) hb)
                    have n4_ := Aside0.mk (hbox)
                    have n5_ := Aside0.mk ((by rw [hg]; exact (below_size (by repeat (first | (with_reducible first | exact HB.out | apply below_alloc | apply pw_below_drewN | apply below_drew1 | refine below_set ?_ GE609.out | refine below_set ?_ GE615.out | refine below_set ?_ GE625.out) | exact HB.out))) : w.heap.size ≤ gb635))
                    have n6_ := Aside0.mk ((by rw [hg]; exact (below_size (by repeat (first | (with_reducible first | exact HB.out | apply below_alloc | apply pw_below_drewN | apply below_drew1 | refine below_set ?_ GE609.out | refine below_set ?_ GE615.out | refine below_set ?_ GE625.out) | exact HB.out))) : w.heap.size ≤ gb635))
                    have n7_ := Aside0.mk ((by rw [hg]; exact Nat.ne_of_lt (blk_lt (g := gb609) (o := .cells #[.int .i64 x610000_1, .int .i64 x610001_1, .int .i64 x610002_1, .int .i64 x610003_1, .bool x610004_1] 49 (0, 0)) (by (with_reducible repeat (first | refine blk_drewN ?_ _ | refine blk_drew ?_ | refine blk_alloc ?_ _)); exact BK609.out)) : gb609 ≠ gb635))
                    have n8_ := Aside0.mk ((by rw [hg]; exact Nat.ne_of_gt (blk_lt (g := gb609) (o := .cells #[.int .i64 x610000_1, .int .i64 x610001_1, .int .i64 x610002_1, .int .i64 x610003_1, .bool x610004_1] 49 (0, 0)) (by (with_reducible repeat (first | refine blk_drewN ?_ _ | refine blk_drew ?_ | refine blk_alloc ?_ _)); exact BK609.out)) : gb635 ≠ gb609))
                    have n9_ := Aside0.mk ((by rw [hg]; exact Nat.ne_of_lt (blk_lt (g := gb615) (o := .cells #[.int .i64 x616000_1, .int .i64 x616001_1, .int .i64 x616002_1, .int .i64 x616003_1, .bool x616004_1] 49 (0, 0)) (by (with_reducible repeat (first | refine blk_drewN ?_ _ | refine blk_drew ?_ | refine blk_alloc ?_ _)); exact BK615.out)) : gb615 ≠ gb635))
                    have n10_ := Aside0.mk ((by rw [hg]; exact Nat.ne_of_gt (blk_lt (g := gb615) (o := .cells #[.int .i64 x616000_1, .int .i64 x616001_1, .int .i64 x616002_1, .int .i64 x616003_1, .bool x616004_1] 49 (0, 0)) (by (with_reducible repeat (first | refine blk_drewN ?_ _ | refine blk_drew ?_ | refine blk_alloc ?_ _)); exact BK615.out)) : gb635 ≠ gb615))
                    have n11_ := Aside0.mk ((by rw [hg]; exact Nat.ne_of_lt (blk_lt (g := gb625) (o := .cells #[.int .i64 t619, .int .i64 t620, .int .i64 t621, .int .i64 t622, .bool t623] 49 (0, 0)) (by (with_reducible repeat (first | refine blk_drewN ?_ _ | refine blk_drew ?_ | refine blk_alloc ?_ _)); exact BK625.out)) : gb625 ≠ gb635))
                    have n12_ := Aside0.mk ((by rw [hg]; exact Nat.ne_of_gt (blk_lt (g := gb625) (o := .cells #[.int .i64 t619, .int .i64 t620, .int .i64 t621, .int .i64 t622, .bool t623] 49 (0, 0)) (by (with_reducible repeat (first | refine blk_drewN ?_ _ | refine blk_drew ?_ | refine blk_alloc ?_ _)); exact BK625.out)) : gb635 ≠ gb625))
                    clear BK609
                    clear BK615
                    clear BK625
                    clear HB
                    have BK609 := n0_
                    have BK615 := n1_
                    have BK625 := n2_
                    have HB := n3_
                    have BK635 := n4_
                    have GW635 := n5_
                    have GE635 := n6_
                    have NB609_635 := n7_
                    have NB635_609 := n8_
                    have NB615_635 := n9_
                    have NB635_615 := n10_
                    have NB625_635 := n11_
                    have NB635_625 := n12_
                    clear n0_ n1_ n2_ n3_ n4_ n5_ n6_ n7_ n8_ n9_ n10_ n11_ n12_
                    clear hb hbox hg
                    refine hK.out _ _ ⟨(blk_cell BK615.out 0).trans rfl, (blk_cell BK615.out 1).trans rfl, (blk_cell BK615.out 2).trans rfl, (blk_cell BK615.out 3).trans rfl, (blk_cell BK615.out 4).trans rfl, ((HB.out.cell (World.block_lt_of_cell? w _ hw626_0)).trans hw626_0), ((HB.out.cell (World.block_lt_of_cell? w _ hw626_1)).trans hw626_1), ((HB.out.cell (World.block_lt_of_cell? w _ hw626_2)).trans hw626_2), ((HB.out.cell (World.block_lt_of_cell? w _ hw627_0)).trans hw627_0), ((HB.out.cell (World.block_lt_of_cell? w _ hw627_1)).trans hw627_1), ((HB.out.cell (World.block_lt_of_cell? w _ hw627_2)).trans hw627_2), ((HB.out.cell (World.block_lt_of_cell? w _ hw628_0)).trans hw628_0), ((HB.out.cell (World.block_lt_of_cell? w _ hw628_1)).trans hw628_1), ((HB.out.cell (World.block_lt_of_cell? w _ hw628_2)).trans hw628_2)⟩ (fun hHeld => ?_)
                    clear hK K
                    refine norm_ (a' := ?_) ?_ ?_
                    rotate_left
                    · show Act.put _ (some 13) _ = _
                      simp only [Act.put, List.setIfInBounds_toArray, List.set_cons_zero, List.set_cons_succ, i64_w, i32_w]
                      rfl
                    exact norm_ (by simp only [putAll, Act.put, List.setIfInBounds_toArray, List.set_cons_zero, List.set_cons_succ]) (hCont (gb635) _ ⟨hHeld, (by (with_reducible repeat (first | refine blk_drewN ?_ _ | refine blk_drew ?_ | refine blk_alloc ?_ _)); exact BK609.out), (by (with_reducible repeat (first | refine blk_drewN ?_ _ | refine blk_drew ?_ | refine blk_alloc ?_ _)); exact BK615.out), (by (with_reducible repeat (first | refine blk_drewN ?_ _ | refine blk_drew ?_ | refine blk_alloc ?_ _)); exact BK625.out), (by (with_reducible repeat (first | refine blk_drewN ?_ _ | refine blk_drew ?_ | refine blk_alloc ?_ _)); exact BK635.out), GW635.out, GE635.out, NB609_635.out, NB635_609.out, NB615_635.out, NB635_615.out, NB625_635.out, NB635_625.out, (by repeat (first | (with_reducible first | exact HB.out | apply below_alloc | apply pw_below_drewN | apply below_drew1 | refine below_set ?_ GE609.out | refine below_set ?_ GE615.out | refine below_set ?_ GE625.out | refine below_set ?_ GE635.out) | exact HB.out))⟩)
                  · skip
                    refine box_step ?hg (N := 13) ?hd (cs := #[.int .i64 0, .int .i64 0, .int .i64 0, .int .i64 0, .bool false]) (t := 49) ?hr ?_; (case hd => rfl); (case hg => rfl); (case hr => first | (go_simp; done) | (go_simp; rfl))
                    intro gb635 hg w34 hbox hb
                    have n0_ := Aside0.mk (blk_below (g := gb609) (o := .cells #[.int .i64 x610000_1, .int .i64 x610001_1, .int .i64 x610002_1, .int .i64 x610003_1, .bool x610004_1] 49 (0, 0)) (by (with_reducible repeat (first | refine blk_drewN ?_ _ | refine blk_drew ?_ | refine blk_alloc ?_ _)); exact BK609.out) hb)
                    have n1_ := Aside0.mk (blk_below (g := gb615) (o := .cells #[.int .i64 x616000_1, .int .i64 x616001_1, .int .i64 x616002_1, .int .i64 x616003_1, .bool x616004_1] 49 (0, 0)) (by (with_reducible repeat (first | refine blk_drewN ?_ _ | refine blk_drew ?_ | refine blk_alloc ?_ _)); exact BK615.out) hb)
                    have n2_ := Aside0.mk (blk_below (g := gb625) (o := .cells #[.int .i64 t619, .int .i64 t620, .int .i64 t621, .int .i64 t622, .bool t623] 49 (0, 0)) (by (with_reducible repeat (first | refine blk_drewN ?_ _ | refine blk_drew ?_ | refine blk_alloc ?_ _)); exact BK625.out) hb)
                    have n3_ := Aside0.mk (below_step (by repeat (first | (with_reducible first | exact HB.out | apply below_alloc | apply pw_below_drewN | apply below_drew1 | refine below_set ?_ GE609.out | refine below_set ?_ GE615.out | refine below_set ?_ GE625.out) | exact HB.out)) hb)
                    have n4_ := Aside0.mk (hbox)
                    have n5_ := Aside0.mk ((by rw [hg]; exact (below_size (by repeat (first | (with_reducible first | exact HB.out | apply below_alloc | apply pw_below_drewN | apply below_drew1 | refine below_set ?_ GE609.out | refine below_set ?_ GE615.out | refine below_set ?_ GE625.out) | exact HB.out))) : w.heap.size ≤ gb635))
                    have n6_ := Aside0.mk ((by rw [hg]; exact (below_size (by repeat (first | (with_reducible first | exact HB.out | apply below_alloc | apply pw_below_drewN | apply below_drew1 | refine below_set ?_ GE609.out | refine below_set ?_ GE615.out | refine below_set ?_ GE625.out) | exact HB.out))) : w.heap.size ≤ gb635))
                    have n7_ := Aside0.mk ((by rw [hg]; exact Nat.ne_of_lt (blk_lt (g := gb609) (o := .cells #[.int .i64 x610000_1, .int .i64 x610001_1, .int .i64 x610002_1, .int .i64 x610003_1, .bool x610004_1] 49 (0, 0)) (by (with_reducible repeat (first | refine blk_drewN ?_ _ | refine blk_drew ?_ | refine blk_alloc ?_ _)); exact BK609.out)) : gb609 ≠ gb635))
                    have n8_ := Aside0.mk ((by rw [hg]; exact Nat.ne_of_gt (blk_lt (g := gb609) (o := .cells #[.int .i64 x610000_1, .int .i64 x610001_1, .int .i64 x610002_1, .int .i64 x610003_1, .bool x610004_1] 49 (0, 0)) (by (with_reducible repeat (first | refine blk_drewN ?_ _ | refine blk_drew ?_ | refine blk_alloc ?_ _)); exact BK609.out)) : gb635 ≠ gb609))
                    have n9_ := Aside0.mk ((by rw [hg]; exact Nat.ne_of_lt (blk_lt (g := gb615) (o := .cells #[.int .i64 x616000_1, .int .i64 x616001_1, .int .i64 x616002_1, .int .i64 x616003_1, .bool x616004_1] 49 (0, 0)) (by (with_reducible repeat (first | refine blk_drewN ?_ _ | refine blk_drew ?_ | refine blk_alloc ?_ _)); exact BK615.out)) : gb615 ≠ gb635))
                    have n10_ := Aside0.mk ((by rw [hg]; exact Nat.ne_of_gt (blk_lt (g := gb615) (o := .cells #[.int .i64 x616000_1, .int .i64 x616001_1, .int .i64 x616002_1, .int .i64 x616003_1, .bool x616004_1] 49 (0, 0)) (by (with_reducible repeat (first | refine blk_drewN ?_ _ | refine blk_drew ?_ | refine blk_alloc ?_ _)); exact BK615.out)) : gb635 ≠ gb615))
                    have n11_ := Aside0.mk ((by rw [hg]; exact Nat.ne_of_lt (blk_lt (g := gb625) (o := .cells #[.int .i64 t619, .int .i64 t620, .int .i64 t621, .int .i64 t622, .bool t623] 49 (0, 0)) (by (with_reducible repeat (first | refine blk_drewN ?_ _ | refine blk_drew ?_ | refine blk_alloc ?_ _)); exact BK625.out)) : gb625 ≠ gb635))
                    have n12_ := Aside0.mk ((by rw [hg]; exact Nat.ne_of_gt (blk_lt (g := gb625) (o := .cells #[.int .i64 t619, .int .i64 t620, .int .i64 t621, .int .i64 t622, .bool t623] 49 (0, 0)) (by (with_reducible repeat (first | refine blk_drewN ?_ _ | refine blk_drew ?_ | refine blk_alloc ?_ _)); exact BK625.out)) : gb635 ≠ gb625))
                    clear BK609
                    clear BK615
                    clear BK625
                    clear HB
                    have BK609 := n0_
                    have BK615 := n1_
                    have BK625 := n2_
                    have HB := n3_
                    have BK635 := n4_
                    have GW635 := n5_
                    have GE635 := n6_
                    have NB609_635 := n7_
                    have NB635_609 := n8_
                    have NB615_635 := n9_
                    have NB635_615 := n10_
                    have NB625_635 := n11_
                    have NB635_625 := n12_
                    clear n0_ n1_ n2_ n3_ n4_ n5_ n6_ n7_ n8_ n9_ n10_ n11_ n12_
                    clear hb hbox hg
                    refine hK.out _ _ ⟨(blk_cell BK615.out 0).trans rfl, (blk_cell BK615.out 1).trans rfl, (blk_cell BK615.out 2).trans rfl, (blk_cell BK615.out 3).trans rfl, (blk_cell BK615.out 4).trans rfl, ((HB.out.cell (World.block_lt_of_cell? w _ hw626_0)).trans hw626_0), ((HB.out.cell (World.block_lt_of_cell? w _ hw626_1)).trans hw626_1), ((HB.out.cell (World.block_lt_of_cell? w _ hw626_2)).trans hw626_2), ((HB.out.cell (World.block_lt_of_cell? w _ hw627_0)).trans hw627_0), ((HB.out.cell (World.block_lt_of_cell? w _ hw627_1)).trans hw627_1), ((HB.out.cell (World.block_lt_of_cell? w _ hw627_2)).trans hw627_2), ((HB.out.cell (World.block_lt_of_cell? w _ hw628_0)).trans hw628_0), ((HB.out.cell (World.block_lt_of_cell? w _ hw628_1)).trans hw628_1), ((HB.out.cell (World.block_lt_of_cell? w _ hw628_2)).trans hw628_2)⟩ (fun hHeld => ?_)
                    clear hK K
                    refine norm_ (a' := ?_) ?_ ?_
                    rotate_left
                    · show Act.put _ (some 13) _ = _
                      simp only [Act.put, List.setIfInBounds_toArray, List.set_cons_zero, List.set_cons_succ, i64_w, i32_w]
                      rfl
                    refine one_ (i := 26) (N := some 87) #[true, true, true, true, true, true, true, true, true, true, true, true, true, true, true, true, true, true, true, true, true, true, true, true, true, true, true, false, false, false, true, false, false] rfl rfl (one_of HT_.out (by kernel_rfl)) (by decide) (fun K hK => ?_)
                    refine goes_ Try.func32 (by kernel_rfl) rfl #[.agg #[.int .i64 x616000_1, .int .i64 x616001_1, .int .i64 x616002_1, .int .i64 x616003_1, .bool x616004_1], .int .i64 (Int.tmod (wrap64 ((rd_T54 l2 x10_1).f0)) 4), .int .i64 (wrap64 ((wrap64 ((rd_T54 l2 x10_1).f1)) + (wrap64 (a1)))), .int .i64 (wrap64 ((wrap64 ((rd_T54 l2 x10_1).f2)) + (wrap64 (a1))))] (by rfl) rfl rfl (by (try simp only [List.map_toArray, List.map_cons, List.map_nil]); first | done | rfl | (simp only [List.length_drop, List.length_take]; rfl)) ?_
                    with_reducible refine (servo_Step.calls x616000_1 x616001_1 x616002_1 x616003_1 x616004_1 (Int.tmod (wrap64 ((rd_T54 l2 x10_1).f0)) 4) (wrap64 ((wrap64 ((rd_T54 l2 x10_1).f1)) + (wrap64 (a1)))) (wrap64 ((wrap64 ((rd_T54 l2 x10_1).f2)) + (wrap64 (a1)))) t629 t630 t631 t632 t633 t634 _ A20.out).mono ?_
                    rintro e w35 ⟨rfl, hb⟩
                    refine ⟨_, rfl, ?_⟩
                    have n0_ := Aside0.mk (blk_below (g := gb609) (o := .cells #[.int .i64 x610000_1, .int .i64 x610001_1, .int .i64 x610002_1, .int .i64 x610003_1, .bool x610004_1] 49 (0, 0)) (by (with_reducible repeat (first | refine blk_drewN ?_ _ | refine blk_drew ?_ | refine blk_alloc ?_ _)); exact BK609.out) hb)
                    have n1_ := Aside0.mk (blk_below (g := gb615) (o := .cells #[.int .i64 x616000_1, .int .i64 x616001_1, .int .i64 x616002_1, .int .i64 x616003_1, .bool x616004_1] 49 (0, 0)) (by (with_reducible repeat (first | refine blk_drewN ?_ _ | refine blk_drew ?_ | refine blk_alloc ?_ _)); exact BK615.out) hb)
                    have n2_ := Aside0.mk (blk_below (g := gb625) (o := .cells #[.int .i64 t619, .int .i64 t620, .int .i64 t621, .int .i64 t622, .bool t623] 49 (0, 0)) (by (with_reducible repeat (first | refine blk_drewN ?_ _ | refine blk_drew ?_ | refine blk_alloc ?_ _)); exact BK625.out) hb)
                    have n3_ := Aside0.mk (blk_below (g := gb635) (o := .cells #[.int .i64 0, .int .i64 0, .int .i64 0, .int .i64 0, .bool false] 49 (0, 0)) (by (with_reducible repeat (first | refine blk_drewN ?_ _ | refine blk_drew ?_ | refine blk_alloc ?_ _)); exact BK635.out) hb)
                    have n4_ := Aside0.mk (below_step (by repeat (first | (with_reducible first | exact HB.out | apply below_alloc | apply pw_below_drewN | apply below_drew1 | refine below_set ?_ GE609.out | refine below_set ?_ GE615.out | refine below_set ?_ GE625.out | refine below_set ?_ GE635.out) | exact HB.out)) hb)
                    clear BK609
                    clear BK615
                    clear BK625
                    clear BK635
                    clear HB
                    have BK609 := n0_
                    have BK615 := n1_
                    have BK625 := n2_
                    have BK635 := n3_
                    have HB := n4_
                    clear n0_ n1_ n2_ n3_ n4_
                    (try clear hb)
                    (try clear hb2)
                    (try clear hk)
                    (try clear hi)
                    refine hK.out _ _ ⟨(blk_cell BK615.out 0).trans rfl, (blk_cell BK615.out 1).trans rfl, (blk_cell BK615.out 2).trans rfl, (blk_cell BK615.out 3).trans rfl, (blk_cell BK615.out 4).trans rfl, ((HB.out.cell (World.block_lt_of_cell? w _ hw626_0)).trans hw626_0), ((HB.out.cell (World.block_lt_of_cell? w _ hw626_1)).trans hw626_1), ((HB.out.cell (World.block_lt_of_cell? w _ hw626_2)).trans hw626_2), ((HB.out.cell (World.block_lt_of_cell? w _ hw627_0)).trans hw627_0), ((HB.out.cell (World.block_lt_of_cell? w _ hw627_1)).trans hw627_1), ((HB.out.cell (World.block_lt_of_cell? w _ hw627_2)).trans hw627_2), ((HB.out.cell (World.block_lt_of_cell? w _ hw628_0)).trans hw628_0), ((HB.out.cell (World.block_lt_of_cell? w _ hw628_1)).trans hw628_1), ((HB.out.cell (World.block_lt_of_cell? w _ hw628_2)).trans hw628_2)⟩ (fun hHeld => ?_)
                    clear hK K
                    refine norm_ (a' := ?_) ?_ ?_
                    rotate_left
                    · show Act.put _ (some 87) _ = _
                      simp only [Act.put, List.setIfInBounds_toArray, List.set_cons_zero, List.set_cons_succ, i64_w, i32_w]
                      rfl
                    refine pure_ (i := 27) (N := some 60) (v := ?_) (a' := ?_) #[true, true, true, true, true, true, true, true, true, true, true, true, true, true, true, true, true, true, true, true, true, true, true, true, true, true, true, true, false, false, true, false, false] rfl rfl (any_of HT_.out (by kernel_rfl)) (fun _ _ _ h => h) (Or.inl ⟨by rfl, ?_⟩) ?_ ?_
                    rotate_left
                    · intro w'
                      go_simp
                      with_reducible rfl
                    rotate_left
                    · simp only [Act.put, List.setIfInBounds_toArray, List.set_cons_zero, List.set_cons_succ, i64_w, i32_w]
                      rfl
                    refine pure_ (i := 28) (N := some 88) (v := ?_) (a' := ?_) #[true, true, true, true, true, true, true, true, true, true, true, true, true, true, true, true, true, true, true, true, true, true, true, true, true, true, true, true, true, false, true, false, false] rfl rfl (any_of HT_.out (by kernel_rfl)) (fun _ _ _ h => h) (Or.inl ⟨by rfl, ?_⟩) ?_ ?_
                    rotate_left
                    · intro w'
                      go_simp
                      with_reducible rfl
                    rotate_left
                    · simp only [Act.put, List.setIfInBounds_toArray, List.set_cons_zero, List.set_cons_succ, i64_w, i32_w]
                      rfl
                    refine pure_ (i := 29) (N := some 89) (v := ?_) (a' := ?_) #[true, true, true, true, true, true, true, true, true, true, true, true, true, true, true, true, true, true, true, true, true, true, true, true, true, true, true, true, true, true, true, false, false] rfl rfl (any_of HT_.out (by kernel_rfl)) (fun _ _ _ h => h) (Or.inl ⟨by rfl, ?_⟩) ?_ ?_
                    rotate_left
                    · intro w'
                      go_simp
                      with_reducible rfl
                    rotate_left
                    · simp only [Act.put, List.setIfInBounds_toArray, List.set_cons_zero, List.set_cons_succ, i64_w, i32_w]
                      rfl
                    exact norm_ (by simp only [putAll, Act.put, List.setIfInBounds_toArray, List.set_cons_zero, List.set_cons_succ]) (hCont (gb635) _ ⟨hHeld, (by (with_reducible repeat (first | refine blk_drewN ?_ _ | refine blk_drew ?_ | refine blk_alloc ?_ _)); exact BK609.out), (by (with_reducible repeat (first | refine blk_drewN ?_ _ | refine blk_drew ?_ | refine blk_alloc ?_ _)); exact BK615.out), (by (with_reducible repeat (first | refine blk_drewN ?_ _ | refine blk_drew ?_ | refine blk_alloc ?_ _)); exact BK625.out), (by (with_reducible repeat (first | refine blk_drewN ?_ _ | refine blk_drew ?_ | refine blk_alloc ?_ _)); exact BK635.out), GW635.out, GE635.out, NB609_635.out, NB635_609.out, NB615_635.out, NB635_615.out, NB625_635.out, NB635_625.out, (by repeat (first | (with_reducible first | exact HB.out | apply below_alloc | apply pw_below_drewN | apply below_drew1 | refine below_set ?_ GE609.out | refine below_set ?_ GE615.out | refine below_set ?_ GE625.out | refine below_set ?_ GE635.out) | exact HB.out))⟩)
                rintro gb635 w36 ⟨hS_, h0_, h1_, h2_, h3_, h4_, h5_, h6_, h7_, h8_, h9_, h10_, h11_, h12_⟩
                have n0_ : Aside0 (w36.heap[gb609]? = some (.cells #[.int .i64 x610000_1, .int .i64 x610001_1, .int .i64 x610002_1, .int .i64 x610003_1, .bool x610004_1] 49 (0, 0))) := ⟨h0_⟩
                have n1_ : Aside0 (w36.heap[gb615]? = some (.cells #[.int .i64 x616000_1, .int .i64 x616001_1, .int .i64 x616002_1, .int .i64 x616003_1, .bool x616004_1] 49 (0, 0))) := ⟨h1_⟩
                have n2_ : Aside0 (w36.heap[gb625]? = some (.cells #[.int .i64 t619, .int .i64 t620, .int .i64 t621, .int .i64 t622, .bool t623] 49 (0, 0))) := ⟨h2_⟩
                have n3_ : Aside0 (w36.heap[gb635]? = some (.cells #[.int .i64 0, .int .i64 0, .int .i64 0, .int .i64 0, .bool false] 49 (0, 0))) := ⟨h3_⟩
                have n4_ : Aside0 (w.heap.size ≤ gb635) := ⟨h4_⟩
                have n5_ : Aside0 (w.heap.size ≤ gb635) := ⟨h5_⟩
                have n6_ : Aside0 (gb609 ≠ gb635) := ⟨h6_⟩
                have n7_ : Aside0 (gb635 ≠ gb609) := ⟨h7_⟩
                have n8_ : Aside0 (gb615 ≠ gb635) := ⟨h8_⟩
                have n9_ : Aside0 (gb635 ≠ gb615) := ⟨h9_⟩
                have n10_ : Aside0 (gb625 ≠ gb635) := ⟨h10_⟩
                have n11_ : Aside0 (gb635 ≠ gb625) := ⟨h11_⟩
                have n12_ : Aside0 (Below w.heap.size w w36) := ⟨h12_⟩
                clear BK609
                clear BK615
                clear BK625
                clear HB
                clear h0_ h1_ h2_ h3_ h4_ h5_ h6_ h7_ h8_ h9_ h10_ h11_ h12_
                have BK609 := n0_
                have BK615 := n1_
                have BK625 := n2_
                have BK635 := n3_
                have GW635 := n4_
                have GE635 := n5_
                have NB609_635 := n6_
                have NB635_609 := n7_
                have NB615_635 := n8_
                have NB635_615 := n9_
                have NB625_635 := n10_
                have NB635_625 := n11_
                have HB := n12_
                clear n0_ n1_ n2_ n3_ n4_ n5_ n6_ n7_ n8_ n9_ n10_ n11_ n12_
                have hHeld : w36.cell? ⟨gb615, 0, none⟩ = some (.int .i64 x616000_1) ∧ w36.cell? ⟨gb615, 1, none⟩ = some (.int .i64 x616001_1) ∧ w36.cell? ⟨gb615, 2, none⟩ = some (.int .i64 x616002_1) ∧ w36.cell? ⟨gb615, 3, none⟩ = some (.int .i64 x616003_1) ∧ w36.cell? ⟨gb615, 4, none⟩ = some (.bool x616004_1) ∧ w36.cell? (ad616.add ((x10_1).toNat * 3)) = some (.int .u8 ((rd_T54 l2 x10_1).f0)) ∧ w36.cell? ⟨(ad616.add ((x10_1).toNat * 3)).block, (ad616.add ((x10_1).toNat * 3)).off + 1, none⟩ = some (.int .i16 ((rd_T54 l2 x10_1).f1)) ∧ w36.cell? ⟨(ad616.add ((x10_1).toNat * 3)).block, (ad616.add ((x10_1).toNat * 3)).off + 2, none⟩ = some (.int .i16 ((rd_T54 l2 x10_1).f2)) ∧ w36.cell? (ad616.add ((x10_1).toNat * 3)) = some (.int .u8 ((rd_T54 l2 x10_1).f0)) ∧ w36.cell? ⟨(ad616.add ((x10_1).toNat * 3)).block, (ad616.add ((x10_1).toNat * 3)).off + 1, none⟩ = some (.int .i16 ((rd_T54 l2 x10_1).f1)) ∧ w36.cell? ⟨(ad616.add ((x10_1).toNat * 3)).block, (ad616.add ((x10_1).toNat * 3)).off + 2, none⟩ = some (.int .i16 ((rd_T54 l2 x10_1).f2)) ∧ w36.cell? (ad616.add ((x10_1).toNat * 3)) = some (.int .u8 ((rd_T54 l2 x10_1).f0)) ∧ w36.cell? ⟨(ad616.add ((x10_1).toNat * 3)).block, (ad616.add ((x10_1).toNat * 3)).off + 1, none⟩ = some (.int .i16 ((rd_T54 l2 x10_1).f1)) ∧ w36.cell? ⟨(ad616.add ((x10_1).toNat * 3)).block, (ad616.add ((x10_1).toNat * 3)).off + 2, none⟩ = some (.int .i16 ((rd_T54 l2 x10_1).f2)) := hS_
                refine norm_ (a' := ?_) ?_ ?_
                rotate_left
                · simp only [putAll, Act.put, List.setIfInBounds_toArray, List.set_cons_zero, List.set_cons_succ]
                  rfl
                refine one_ (i := 31) (N := none) #[true, true, true, true, true, true, true, true, true, true, true, true, true, true, true, true, true, true, true, true, true, true, true, true, true, true, true, true, true, true, true, true, false] rfl rfl (one_of HT_.out (by kernel_rfl)) (by decide) (fun K hK => ?_)
                have hs37 : w36.cell? ⟨gb635, 0, none⟩ = some (.int .i64 0) := (blk_cell BK635.out 0).trans rfl
                have hfs37 := blk_frozen BK635.out 0
                have hns37_0 := NB609_635.out
                have hns37_1 := NB615_635.out
                have hns37_2 := NB625_635.out
                have hms37_0 := NB635_609.out
                have hms37_1 := NB635_615.out
                have hms37_2 := NB635_625.out
                have hs38 : w36.cell? ⟨gb635, 1, none⟩ = some (.int .i64 0) := (blk_cell BK635.out 1).trans rfl
                have hfs38 := blk_frozen BK635.out 1
                have hns38_0 := NB609_635.out
                have hns38_1 := NB615_635.out
                have hns38_2 := NB625_635.out
                have hms38_0 := NB635_609.out
                have hms38_1 := NB635_615.out
                have hms38_2 := NB635_625.out
                have hs39 : w36.cell? ⟨gb635, 2, none⟩ = some (.int .i64 0) := (blk_cell BK635.out 2).trans rfl
                have hfs39 := blk_frozen BK635.out 2
                have hns39_0 := NB609_635.out
                have hns39_1 := NB615_635.out
                have hns39_2 := NB625_635.out
                have hms39_0 := NB635_609.out
                have hms39_1 := NB635_615.out
                have hms39_2 := NB635_625.out
                have hs40 : w36.cell? ⟨gb635, 3, none⟩ = some (.int .i64 0) := (blk_cell BK635.out 3).trans rfl
                have hfs40 := blk_frozen BK635.out 3
                have hns40_0 := NB609_635.out
                have hns40_1 := NB615_635.out
                have hns40_2 := NB625_635.out
                have hms40_0 := NB635_609.out
                have hms40_1 := NB635_615.out
                have hms40_2 := NB635_625.out
                have hs41 : w36.cell? ⟨gb635, 4, none⟩ = some (.bool false) := (blk_cell BK635.out 4).trans rfl
                have hfs41 := blk_frozen BK635.out 4
                have hns41_0 := NB609_635.out
                have hns41_1 := NB615_635.out
                have hns41_2 := NB625_635.out
                have hms41_0 := NB635_609.out
                have hms41_1 := NB635_615.out
                have hms41_2 := NB635_625.out
                refine skip_ (w1 := ?_) (by rfl) rfl ?_ ?_
                rotate_left
                · go_simp
                  rfl
                refine hK.out _ _ ⟨((cell_far (p := ⟨gb635, _, none⟩) NB615_635.out _).trans (((cell_far (p := ⟨gb635, _, none⟩) NB615_635.out _).trans (((cell_far (p := ⟨gb635, _, none⟩) NB615_635.out _).trans (((cell_far (p := ⟨gb635, _, none⟩) NB615_635.out _).trans (((cell_far (p := ⟨gb635, _, none⟩) NB615_635.out _).trans (hHeld.1)))))))))), ((cell_far (p := ⟨gb635, _, none⟩) NB615_635.out _).trans (((cell_far (p := ⟨gb635, _, none⟩) NB615_635.out _).trans (((cell_far (p := ⟨gb635, _, none⟩) NB615_635.out _).trans (((cell_far (p := ⟨gb635, _, none⟩) NB615_635.out _).trans (((cell_far (p := ⟨gb635, _, none⟩) NB615_635.out _).trans (hHeld.2.1)))))))))), ((cell_far (p := ⟨gb635, _, none⟩) NB615_635.out _).trans (((cell_far (p := ⟨gb635, _, none⟩) NB615_635.out _).trans (((cell_far (p := ⟨gb635, _, none⟩) NB615_635.out _).trans (((cell_far (p := ⟨gb635, _, none⟩) NB615_635.out _).trans (((cell_far (p := ⟨gb635, _, none⟩) NB615_635.out _).trans (hHeld.2.2.1)))))))))), ((cell_far (p := ⟨gb635, _, none⟩) NB615_635.out _).trans (((cell_far (p := ⟨gb635, _, none⟩) NB615_635.out _).trans (((cell_far (p := ⟨gb635, _, none⟩) NB615_635.out _).trans (((cell_far (p := ⟨gb635, _, none⟩) NB615_635.out _).trans (((cell_far (p := ⟨gb635, _, none⟩) NB615_635.out _).trans (hHeld.2.2.2.1)))))))))), ((cell_far (p := ⟨gb635, _, none⟩) NB615_635.out _).trans (((cell_far (p := ⟨gb635, _, none⟩) NB615_635.out _).trans (((cell_far (p := ⟨gb635, _, none⟩) NB615_635.out _).trans (((cell_far (p := ⟨gb635, _, none⟩) NB615_635.out _).trans (((cell_far (p := ⟨gb635, _, none⟩) NB615_635.out _).trans (hHeld.2.2.2.2.1)))))))))), ((cell_far (p := ⟨gb635, _, none⟩) (by first | exact Nat.ne_of_lt (Nat.lt_of_lt_of_le (by have := World.block_lt_of_cell? _ _ hw626_0; first | rwa [add_block] at this | exact this) GW635.out) | (rw [add_block]; exact Nat.ne_of_lt (Nat.lt_of_lt_of_le (by have := World.block_lt_of_cell? _ _ hw626_0; first | rwa [add_block] at this | exact this) GW635.out)) | (show (Addr.add _ _).block ≠ _; rw [add_block]; exact Nat.ne_of_lt (Nat.lt_of_lt_of_le (by have := World.block_lt_of_cell? _ _ hw626_0; first | rwa [add_block] at this | exact this) GW635.out)) | (dsimp only; exact Nat.ne_of_lt (Nat.lt_of_lt_of_le (by have := World.block_lt_of_cell? _ _ hw626_0; first | rwa [add_block] at this | exact this) GW635.out))) _).trans (((cell_far (p := ⟨gb635, _, none⟩) (by first | exact Nat.ne_of_lt (Nat.lt_of_lt_of_le (by have := World.block_lt_of_cell? _ _ hw626_0; first | rwa [add_block] at this | exact this) GW635.out) | (rw [add_block]; exact Nat.ne_of_lt (Nat.lt_of_lt_of_le (by have := World.block_lt_of_cell? _ _ hw626_0; first | rwa [add_block] at this | exact this) GW635.out)) | (show (Addr.add _ _).block ≠ _; rw [add_block]; exact Nat.ne_of_lt (Nat.lt_of_lt_of_le (by have := World.block_lt_of_cell? _ _ hw626_0; first | rwa [add_block] at this | exact this) GW635.out)) | (dsimp only; exact Nat.ne_of_lt (Nat.lt_of_lt_of_le (by have := World.block_lt_of_cell? _ _ hw626_0; first | rwa [add_block] at this | exact this) GW635.out))) _).trans (((cell_far (p := ⟨gb635, _, none⟩) (by first | exact Nat.ne_of_lt (Nat.lt_of_lt_of_le (by have := World.block_lt_of_cell? _ _ hw626_0; first | rwa [add_block] at this | exact this) GW635.out) | (rw [add_block]; exact Nat.ne_of_lt (Nat.lt_of_lt_of_le (by have := World.block_lt_of_cell? _ _ hw626_0; first | rwa [add_block] at this | exact this) GW635.out)) | (show (Addr.add _ _).block ≠ _; rw [add_block]; exact Nat.ne_of_lt (Nat.lt_of_lt_of_le (by have := World.block_lt_of_cell? _ _ hw626_0; first | rwa [add_block] at this | exact this) GW635.out)) | (dsimp only; exact Nat.ne_of_lt (Nat.lt_of_lt_of_le (by have := World.block_lt_of_cell? _ _ hw626_0; first | rwa [add_block] at this | exact this) GW635.out))) _).trans (((cell_far (p := ⟨gb635, _, none⟩) (by first | exact Nat.ne_of_lt (Nat.lt_of_lt_of_le (by have := World.block_lt_of_cell? _ _ hw626_0; first | rwa [add_block] at this | exact this) GW635.out) | (rw [add_block]; exact Nat.ne_of_lt (Nat.lt_of_lt_of_le (by have := World.block_lt_of_cell? _ _ hw626_0; first | rwa [add_block] at this | exact this) GW635.out)) | (show (Addr.add _ _).block ≠ _; rw [add_block]; exact Nat.ne_of_lt (Nat.lt_of_lt_of_le (by have := World.block_lt_of_cell? _ _ hw626_0; first | rwa [add_block] at this | exact this) GW635.out)) | (dsimp only; exact Nat.ne_of_lt (Nat.lt_of_lt_of_le (by have := World.block_lt_of_cell? _ _ hw626_0; first | rwa [add_block] at this | exact this) GW635.out))) _).trans (((cell_far (p := ⟨gb635, _, none⟩) (by first | exact Nat.ne_of_lt (Nat.lt_of_lt_of_le (by have := World.block_lt_of_cell? _ _ hw626_0; first | rwa [add_block] at this | exact this) GW635.out) | (rw [add_block]; exact Nat.ne_of_lt (Nat.lt_of_lt_of_le (by have := World.block_lt_of_cell? _ _ hw626_0; first | rwa [add_block] at this | exact this) GW635.out)) | (show (Addr.add _ _).block ≠ _; rw [add_block]; exact Nat.ne_of_lt (Nat.lt_of_lt_of_le (by have := World.block_lt_of_cell? _ _ hw626_0; first | rwa [add_block] at this | exact this) GW635.out)) | (dsimp only; exact Nat.ne_of_lt (Nat.lt_of_lt_of_le (by have := World.block_lt_of_cell? _ _ hw626_0; first | rwa [add_block] at this | exact this) GW635.out))) _).trans (hHeld.2.2.2.2.2.1)))))))))), ((cell_far (p := ⟨gb635, _, none⟩) (by first | exact Nat.ne_of_lt (Nat.lt_of_lt_of_le (by have := World.block_lt_of_cell? _ _ hw626_1; first | rwa [add_block] at this | exact this) GW635.out) | (rw [add_block]; exact Nat.ne_of_lt (Nat.lt_of_lt_of_le (by have := World.block_lt_of_cell? _ _ hw626_1; first | rwa [add_block] at this | exact this) GW635.out)) | (show (Addr.add _ _).block ≠ _; rw [add_block]; exact Nat.ne_of_lt (Nat.lt_of_lt_of_le (by have := World.block_lt_of_cell? _ _ hw626_1; first | rwa [add_block] at this | exact this) GW635.out)) | (dsimp only; exact Nat.ne_of_lt (Nat.lt_of_lt_of_le (by have := World.block_lt_of_cell? _ _ hw626_1; first | rwa [add_block] at this | exact this) GW635.out))) _).trans (((cell_far (p := ⟨gb635, _, none⟩) (by first | exact Nat.ne_of_lt (Nat.lt_of_lt_of_le (by have := World.block_lt_of_cell? _ _ hw626_1; first | rwa [add_block] at this | exact this) GW635.out) | (rw [add_block]; exact Nat.ne_of_lt (Nat.lt_of_lt_of_le (by have := World.block_lt_of_cell? _ _ hw626_1; first | rwa [add_block] at this | exact this) GW635.out)) | (show (Addr.add _ _).block ≠ _; rw [add_block]; exact Nat.ne_of_lt (Nat.lt_of_lt_of_le (by have := World.block_lt_of_cell? _ _ hw626_1; first | rwa [add_block] at this | exact this) GW635.out)) | (dsimp only; exact Nat.ne_of_lt (Nat.lt_of_lt_of_le (by have := World.block_lt_of_cell? _ _ hw626_1; first | rwa [add_block] at this | exact this) GW635.out))) _).trans (((cell_far (p := ⟨gb635, _, none⟩) (by first | exact Nat.ne_of_lt (Nat.lt_of_lt_of_le (by have := World.block_lt_of_cell? _ _ hw626_1; first | rwa [add_block] at this | exact this) GW635.out) | (rw [add_block]; exact Nat.ne_of_lt (Nat.lt_of_lt_of_le (by have := World.block_lt_of_cell? _ _ hw626_1; first | rwa [add_block] at this | exact this) GW635.out)) | (show (Addr.add _ _).block ≠ _; rw [add_block]; exact Nat.ne_of_lt (Nat.lt_of_lt_of_le (by have := World.block_lt_of_cell? _ _ hw626_1; first | rwa [add_block] at this | exact this) GW635.out)) | (dsimp only; exact Nat.ne_of_lt (Nat.lt_of_lt_of_le (by have := World.block_lt_of_cell? _ _ hw626_1; first | rwa [add_block] at this | exact this) GW635.out))) _).trans (((cell_far (p := ⟨gb635, _, none⟩) (by first | exact Nat.ne_of_lt (Nat.lt_of_lt_of_le (by have := World.block_lt_of_cell? _ _ hw626_1; first | rwa [add_block] at this | exact this) GW635.out) | (rw [add_block]; exact Nat.ne_of_lt (Nat.lt_of_lt_of_le (by have := World.block_lt_of_cell? _ _ hw626_1; first | rwa [add_block] at this | exact this) GW635.out)) | (show (Addr.add _ _).block ≠ _; rw [add_block]; exact Nat.ne_of_lt (Nat.lt_of_lt_of_le (by have := World.block_lt_of_cell? _ _ hw626_1; first | rwa [add_block] at this | exact this) GW635.out)) | (dsimp only; exact Nat.ne_of_lt (Nat.lt_of_lt_of_le (by have := World.block_lt_of_cell? _ _ hw626_1; first | rwa [add_block] at this | exact this) GW635.out))) _).trans (((cell_far (p := ⟨gb635, _, none⟩) (by first | exact Nat.ne_of_lt (Nat.lt_of_lt_of_le (by have := World.block_lt_of_cell? _ _ hw626_1; first | rwa [add_block] at this | exact this) GW635.out) | (rw [add_block]; exact Nat.ne_of_lt (Nat.lt_of_lt_of_le (by have := World.block_lt_of_cell? _ _ hw626_1; first | rwa [add_block] at this | exact this) GW635.out)) | (show (Addr.add _ _).block ≠ _; rw [add_block]; exact Nat.ne_of_lt (Nat.lt_of_lt_of_le (by have := World.block_lt_of_cell? _ _ hw626_1; first | rwa [add_block] at this | exact this) GW635.out)) | (dsimp only; exact Nat.ne_of_lt (Nat.lt_of_lt_of_le (by have := World.block_lt_of_cell? _ _ hw626_1; first | rwa [add_block] at this | exact this) GW635.out))) _).trans (hHeld.2.2.2.2.2.2.1)))))))))), ((cell_far (p := ⟨gb635, _, none⟩) (by first | exact Nat.ne_of_lt (Nat.lt_of_lt_of_le (by have := World.block_lt_of_cell? _ _ hw626_2; first | rwa [add_block] at this | exact this) GW635.out) | (rw [add_block]; exact Nat.ne_of_lt (Nat.lt_of_lt_of_le (by have := World.block_lt_of_cell? _ _ hw626_2; first | rwa [add_block] at this | exact this) GW635.out)) | (show (Addr.add _ _).block ≠ _; rw [add_block]; exact Nat.ne_of_lt (Nat.lt_of_lt_of_le (by have := World.block_lt_of_cell? _ _ hw626_2; first | rwa [add_block] at this | exact this) GW635.out)) | (dsimp only; exact Nat.ne_of_lt (Nat.lt_of_lt_of_le (by have := World.block_lt_of_cell? _ _ hw626_2; first | rwa [add_block] at this | exact this) GW635.out))) _).trans (((cell_far (p := ⟨gb635, _, none⟩) (by first | exact Nat.ne_of_lt (Nat.lt_of_lt_of_le (by have := World.block_lt_of_cell? _ _ hw626_2; first | rwa [add_block] at this | exact this) GW635.out) | (rw [add_block]; exact Nat.ne_of_lt (Nat.lt_of_lt_of_le (by have := World.block_lt_of_cell? _ _ hw626_2; first | rwa [add_block] at this | exact this) GW635.out)) | (show (Addr.add _ _).block ≠ _; rw [add_block]; exact Nat.ne_of_lt (Nat.lt_of_lt_of_le (by have := World.block_lt_of_cell? _ _ hw626_2; first | rwa [add_block] at this | exact this) GW635.out)) | (dsimp only; exact Nat.ne_of_lt (Nat.lt_of_lt_of_le (by have := World.block_lt_of_cell? _ _ hw626_2; first | rwa [add_block] at this | exact this) GW635.out))) _).trans (((cell_far (p := ⟨gb635, _, none⟩) (by first | exact Nat.ne_of_lt (Nat.lt_of_lt_of_le (by have := World.block_lt_of_cell? _ _ hw626_2; first | rwa [add_block] at this | exact this) GW635.out) | (rw [add_block]; exact Nat.ne_of_lt (Nat.lt_of_lt_of_le (by have := World.block_lt_of_cell? _ _ hw626_2; first | rwa [add_block] at this | exact this) GW635.out)) | (show (Addr.add _ _).block ≠ _; rw [add_block]; exact Nat.ne_of_lt (Nat.lt_of_lt_of_le (by have := World.block_lt_of_cell? _ _ hw626_2; first | rwa [add_block] at this | exact this) GW635.out)) | (dsimp only; exact Nat.ne_of_lt (Nat.lt_of_lt_of_le (by have := World.block_lt_of_cell? _ _ hw626_2; first | rwa [add_block] at this | exact this) GW635.out))) _).trans (((cell_far (p := ⟨gb635, _, none⟩) (by first | exact Nat.ne_of_lt (Nat.lt_of_lt_of_le (by have := World.block_lt_of_cell? _ _ hw626_2; first | rwa [add_block] at this | exact this) GW635.out) | (rw [add_block]; exact Nat.ne_of_lt (Nat.lt_of_lt_of_le (by have := World.block_lt_of_cell? _ _ hw626_2; first | rwa [add_block] at this | exact this) GW635.out)) | (show (Addr.add _ _).block ≠ _; rw [add_block]; exact Nat.ne_of_lt (Nat.lt_of_lt_of_le (by have := World.block_lt_of_cell? _ _ hw626_2; first | rwa [add_block] at this | exact this) GW635.out)) | (dsimp only; exact Nat.ne_of_lt (Nat.lt_of_lt_of_le (by have := World.block_lt_of_cell? _ _ hw626_2; first | rwa [add_block] at this | exact this) GW635.out))) _).trans (((cell_far (p := ⟨gb635, _, none⟩) (by first | exact Nat.ne_of_lt (Nat.lt_of_lt_of_le (by have := World.block_lt_of_cell? _ _ hw626_2; first | rwa [add_block] at this | exact this) GW635.out) | (rw [add_block]; exact Nat.ne_of_lt (Nat.lt_of_lt_of_le (by have := World.block_lt_of_cell? _ _ hw626_2; first | rwa [add_block] at this | exact this) GW635.out)) | (show (Addr.add _ _).block ≠ _; rw [add_block]; exact Nat.ne_of_lt (Nat.lt_of_lt_of_le (by have := World.block_lt_of_cell? _ _ hw626_2; first | rwa [add_block] at this | exact this) GW635.out)) | (dsimp only; exact Nat.ne_of_lt (Nat.lt_of_lt_of_le (by have := World.block_lt_of_cell? _ _ hw626_2; first | rwa [add_block] at this | exact this) GW635.out))) _).trans (hHeld.2.2.2.2.2.2.2.1)))))))))), ((cell_far (p := ⟨gb635, _, none⟩) (by first | exact Nat.ne_of_lt (Nat.lt_of_lt_of_le (by have := World.block_lt_of_cell? _ _ hw627_0; first | rwa [add_block] at this | exact this) GW635.out) | (rw [add_block]; exact Nat.ne_of_lt (Nat.lt_of_lt_of_le (by have := World.block_lt_of_cell? _ _ hw627_0; first | rwa [add_block] at this | exact this) GW635.out)) | (show (Addr.add _ _).block ≠ _; rw [add_block]; exact Nat.ne_of_lt (Nat.lt_of_lt_of_le (by have := World.block_lt_of_cell? _ _ hw627_0; first | rwa [add_block] at this | exact this) GW635.out)) | (dsimp only; exact Nat.ne_of_lt (Nat.lt_of_lt_of_le (by have := World.block_lt_of_cell? _ _ hw627_0; first | rwa [add_block] at this | exact this) GW635.out))) _).trans (((cell_far (p := ⟨gb635, _, none⟩) (by first | exact Nat.ne_of_lt (Nat.lt_of_lt_of_le (by have := World.block_lt_of_cell? _ _ hw627_0; first | rwa [add_block] at this | exact this) GW635.out) | (rw [add_block]; exact Nat.ne_of_lt (Nat.lt_of_lt_of_le (by have := World.block_lt_of_cell? _ _ hw627_0; first | rwa [add_block] at this | exact this) GW635.out)) | (show (Addr.add _ _).block ≠ _; rw [add_block]; exact Nat.ne_of_lt (Nat.lt_of_lt_of_le (by have := World.block_lt_of_cell? _ _ hw627_0; first | rwa [add_block] at this | exact this) GW635.out)) | (dsimp only; exact Nat.ne_of_lt (Nat.lt_of_lt_of_le (by have := World.block_lt_of_cell? _ _ hw627_0; first | rwa [add_block] at this | exact this) GW635.out))) _).trans (((cell_far (p := ⟨gb635, _, none⟩) (by first | exact Nat.ne_of_lt (Nat.lt_of_lt_of_le (by have := World.block_lt_of_cell? _ _ hw627_0; first | rwa [add_block] at this | exact this) GW635.out) | (rw [add_block]; exact Nat.ne_of_lt (Nat.lt_of_lt_of_le (by have := World.block_lt_of_cell? _ _ hw627_0; first | rwa [add_block] at this | exact this) GW635.out)) | (show (Addr.add _ _).block ≠ _; rw [add_block]; exact Nat.ne_of_lt (Nat.lt_of_lt_of_le (by have := World.block_lt_of_cell? _ _ hw627_0; first | rwa [add_block] at this | exact this) GW635.out)) | (dsimp only; exact Nat.ne_of_lt (Nat.lt_of_lt_of_le (by have := World.block_lt_of_cell? _ _ hw627_0; first | rwa [add_block] at this | exact this) GW635.out))) _).trans (((cell_far (p := ⟨gb635, _, none⟩) (by first | exact Nat.ne_of_lt (Nat.lt_of_lt_of_le (by have := World.block_lt_of_cell? _ _ hw627_0; first | rwa [add_block] at this | exact this) GW635.out) | (rw [add_block]; exact Nat.ne_of_lt (Nat.lt_of_lt_of_le (by have := World.block_lt_of_cell? _ _ hw627_0; first | rwa [add_block] at this | exact this) GW635.out)) | (show (Addr.add _ _).block ≠ _; rw [add_block]; exact Nat.ne_of_lt (Nat.lt_of_lt_of_le (by have := World.block_lt_of_cell? _ _ hw627_0; first | rwa [add_block] at this | exact this) GW635.out)) | (dsimp only; exact Nat.ne_of_lt (Nat.lt_of_lt_of_le (by have := World.block_lt_of_cell? _ _ hw627_0; first | rwa [add_block] at this | exact this) GW635.out))) _).trans (((cell_far (p := ⟨gb635, _, none⟩) (by first | exact Nat.ne_of_lt (Nat.lt_of_lt_of_le (by have := World.block_lt_of_cell? _ _ hw627_0; first | rwa [add_block] at this | exact this) GW635.out) | (rw [add_block]; exact Nat.ne_of_lt (Nat.lt_of_lt_of_le (by have := World.block_lt_of_cell? _ _ hw627_0; first | rwa [add_block] at this | exact this) GW635.out)) | (show (Addr.add _ _).block ≠ _; rw [add_block]; exact Nat.ne_of_lt (Nat.lt_of_lt_of_le (by have := World.block_lt_of_cell? _ _ hw627_0; first | rwa [add_block] at this | exact this) GW635.out)) | (dsimp only; exact Nat.ne_of_lt (Nat.lt_of_lt_of_le (by have := World.block_lt_of_cell? _ _ hw627_0; first | rwa [add_block] at this | exact this) GW635.out))) _).trans (hHeld.2.2.2.2.2.2.2.2.1)))))))))), ((cell_far (p := ⟨gb635, _, none⟩) (by first | exact Nat.ne_of_lt (Nat.lt_of_lt_of_le (by have := World.block_lt_of_cell? _ _ hw627_1; first | rwa [add_block] at this | exact this) GW635.out) | (rw [add_block]; exact Nat.ne_of_lt (Nat.lt_of_lt_of_le (by have := World.block_lt_of_cell? _ _ hw627_1; first | rwa [add_block] at this | exact this) GW635.out)) | (show (Addr.add _ _).block ≠ _; rw [add_block]; exact Nat.ne_of_lt (Nat.lt_of_lt_of_le (by have := World.block_lt_of_cell? _ _ hw627_1; first | rwa [add_block] at this | exact this) GW635.out)) | (dsimp only; exact Nat.ne_of_lt (Nat.lt_of_lt_of_le (by have := World.block_lt_of_cell? _ _ hw627_1; first | rwa [add_block] at this | exact this) GW635.out))) _).trans (((cell_far (p := ⟨gb635, _, none⟩) (by first | exact Nat.ne_of_lt (Nat.lt_of_lt_of_le (by have := World.block_lt_of_cell? _ _ hw627_1; first | rwa [add_block] at this | exact this) GW635.out) | (rw [add_block]; exact Nat.ne_of_lt (Nat.lt_of_lt_of_le (by have := World.block_lt_of_cell? _ _ hw627_1; first | rwa [add_block] at this | exact this) GW635.out)) | (show (Addr.add _ _).block ≠ _; rw [add_block]; exact Nat.ne_of_lt (Nat.lt_of_lt_of_le (by have := World.block_lt_of_cell? _ _ hw627_1; first | rwa [add_block] at this | exact this) GW635.out)) | (dsimp only; exact Nat.ne_of_lt (Nat.lt_of_lt_of_le (by have := World.block_lt_of_cell? _ _ hw627_1; first | rwa [add_block] at this | exact this) GW635.out))) _).trans (((cell_far (p := ⟨gb635, _, none⟩) (by first | exact Nat.ne_of_lt (Nat.lt_of_lt_of_le (by have := World.block_lt_of_cell? _ _ hw627_1; first | rwa [add_block] at this | exact this) GW635.out) | (rw [add_block]; exact Nat.ne_of_lt (Nat.lt_of_lt_of_le (by have := World.block_lt_of_cell? _ _ hw627_1; first | rwa [add_block] at this | exact this) GW635.out)) | (show (Addr.add _ _).block ≠ _; rw [add_block]; exact Nat.ne_of_lt (Nat.lt_of_lt_of_le (by have := World.block_lt_of_cell? _ _ hw627_1; first | rwa [add_block] at this | exact this) GW635.out)) | (dsimp only; exact Nat.ne_of_lt (Nat.lt_of_lt_of_le (by have := World.block_lt_of_cell? _ _ hw627_1; first | rwa [add_block] at this | exact this) GW635.out))) _).trans (((cell_far (p := ⟨gb635, _, none⟩) (by first | exact Nat.ne_of_lt (Nat.lt_of_lt_of_le (by have := World.block_lt_of_cell? _ _ hw627_1; first | rwa [add_block] at this | exact this) GW635.out) | (rw [add_block]; exact Nat.ne_of_lt (Nat.lt_of_lt_of_le (by have := World.block_lt_of_cell? _ _ hw627_1; first | rwa [add_block] at this | exact this) GW635.out)) | (show (Addr.add _ _).block ≠ _; rw [add_block]; exact Nat.ne_of_lt (Nat.lt_of_lt_of_le (by have := World.block_lt_of_cell? _ _ hw627_1; first | rwa [add_block] at this | exact this) GW635.out)) | (dsimp only; exact Nat.ne_of_lt (Nat.lt_of_lt_of_le (by have := World.block_lt_of_cell? _ _ hw627_1; first | rwa [add_block] at this | exact this) GW635.out))) _).trans (((cell_far (p := ⟨gb635, _, none⟩) (by first | exact Nat.ne_of_lt (Nat.lt_of_lt_of_le (by have := World.block_lt_of_cell? _ _ hw627_1; first | rwa [add_block] at this | exact this) GW635.out) | (rw [add_block]; exact Nat.ne_of_lt (Nat.lt_of_lt_of_le (by have := World.block_lt_of_cell? _ _ hw627_1; first | rwa [add_block] at this | exact this) GW635.out)) | (show (Addr.add _ _).block ≠ _; rw [add_block]; exact Nat.ne_of_lt (Nat.lt_of_lt_of_le (by have := World.block_lt_of_cell? _ _ hw627_1; first | rwa [add_block] at this | exact this) GW635.out)) | (dsimp only; exact Nat.ne_of_lt (Nat.lt_of_lt_of_le (by have := World.block_lt_of_cell? _ _ hw627_1; first | rwa [add_block] at this | exact this) GW635.out))) _).trans (hHeld.2.2.2.2.2.2.2.2.2.1)))))))))), ((cell_far (p := ⟨gb635, _, none⟩) (by first | exact Nat.ne_of_lt (Nat.lt_of_lt_of_le (by have := World.block_lt_of_cell? _ _ hw627_2; first | rwa [add_block] at this | exact this) GW635.out) | (rw [add_block]; exact Nat.ne_of_lt (Nat.lt_of_lt_of_le (by have := World.block_lt_of_cell? _ _ hw627_2; first | rwa [add_block] at this | exact this) GW635.out)) | (show (Addr.add _ _).block ≠ _; rw [add_block]; exact Nat.ne_of_lt (Nat.lt_of_lt_of_le (by have := World.block_lt_of_cell? _ _ hw627_2; first | rwa [add_block] at this | exact this) GW635.out)) | (dsimp only; exact Nat.ne_of_lt (Nat.lt_of_lt_of_le (by have := World.block_lt_of_cell? _ _ hw627_2; first | rwa [add_block] at this | exact this) GW635.out))) _).trans (((cell_far (p := ⟨gb635, _, none⟩) (by first | exact Nat.ne_of_lt (Nat.lt_of_lt_of_le (by have := World.block_lt_of_cell? _ _ hw627_2; first | rwa [add_block] at this | exact this) GW635.out) | (rw [add_block]; exact Nat.ne_of_lt (Nat.lt_of_lt_of_le (by have := World.block_lt_of_cell? _ _ hw627_2; first | rwa [add_block] at this | exact this) GW635.out)) | (show (Addr.add _ _).block ≠ _; rw [add_block]; exact Nat.ne_of_lt (Nat.lt_of_lt_of_le (by have := World.block_lt_of_cell? _ _ hw627_2; first | rwa [add_block] at this | exact this) GW635.out)) | (dsimp only; exact Nat.ne_of_lt (Nat.lt_of_lt_of_le (by have := World.block_lt_of_cell? _ _ hw627_2; first | rwa [add_block] at this | exact this) GW635.out))) _).trans (((cell_far (p := ⟨gb635, _, none⟩) (by first | exact Nat.ne_of_lt (Nat.lt_of_lt_of_le (by have := World.block_lt_of_cell? _ _ hw627_2; first | rwa [add_block] at this | exact this) GW635.out) | (rw [add_block]; exact Nat.ne_of_lt (Nat.lt_of_lt_of_le (by have := World.block_lt_of_cell? _ _ hw627_2; first | rwa [add_block] at this | exact this) GW635.out)) | (show (Addr.add _ _).block ≠ _; rw [add_block]; exact Nat.ne_of_lt (Nat.lt_of_lt_of_le (by have := World.block_lt_of_cell? _ _ hw627_2; first | rwa [add_block] at this | exact this) GW635.out)) | (dsimp only; exact Nat.ne_of_lt (Nat.lt_of_lt_of_le (by have := World.block_lt_of_cell? _ _ hw627_2; first | rwa [add_block] at this | exact this) GW635.out))) _).trans (((cell_far (p := ⟨gb635, _, none⟩) (by first | exact Nat.ne_of_lt (Nat.lt_of_lt_of_le (by have := World.block_lt_of_cell? _ _ hw627_2; first | rwa [add_block] at this | exact this) GW635.out) | (rw [add_block]; exact Nat.ne_of_lt (Nat.lt_of_lt_of_le (by have := World.block_lt_of_cell? _ _ hw627_2; first | rwa [add_block] at this | exact this) GW635.out)) | (show (Addr.add _ _).block ≠ _; rw [add_block]; exact Nat.ne_of_lt (Nat.lt_of_lt_of_le (by have := World.block_lt_of_cell? _ _ hw627_2; first | rwa [add_block] at this | exact this) GW635.out)) | (dsimp only; exact Nat.ne_of_lt (Nat.lt_of_lt_of_le (by have := World.block_lt_of_cell? _ _ hw627_2; first | rwa [add_block] at this | exact this) GW635.out))) _).trans (((cell_far (p := ⟨gb635, _, none⟩) (by first | exact Nat.ne_of_lt (Nat.lt_of_lt_of_le (by have := World.block_lt_of_cell? _ _ hw627_2; first | rwa [add_block] at this | exact this) GW635.out) | (rw [add_block]; exact Nat.ne_of_lt (Nat.lt_of_lt_of_le (by have := World.block_lt_of_cell? _ _ hw627_2; first | rwa [add_block] at this | exact this) GW635.out)) | (show (Addr.add _ _).block ≠ _; rw [add_block]; exact Nat.ne_of_lt (Nat.lt_of_lt_of_le (by have := World.block_lt_of_cell? _ _ hw627_2; first | rwa [add_block] at this | exact this) GW635.out)) | (dsimp only; exact Nat.ne_of_lt (Nat.lt_of_lt_of_le (by have := World.block_lt_of_cell? _ _ hw627_2; first | rwa [add_block] at this | exact this) GW635.out))) _).trans (hHeld.2.2.2.2.2.2.2.2.2.2.1)))))))))), ((cell_far (p := ⟨gb635, _, none⟩) (by first | exact Nat.ne_of_lt (Nat.lt_of_lt_of_le (by have := World.block_lt_of_cell? _ _ hw628_0; first | rwa [add_block] at this | exact this) GW635.out) | (rw [add_block]; exact Nat.ne_of_lt (Nat.lt_of_lt_of_le (by have := World.block_lt_of_cell? _ _ hw628_0; first | rwa [add_block] at this | exact this) GW635.out)) | (show (Addr.add _ _).block ≠ _; rw [add_block]; exact Nat.ne_of_lt (Nat.lt_of_lt_of_le (by have := World.block_lt_of_cell? _ _ hw628_0; first | rwa [add_block] at this | exact this) GW635.out)) | (dsimp only; exact Nat.ne_of_lt (Nat.lt_of_lt_of_le (by have := World.block_lt_of_cell? _ _ hw628_0; first | rwa [add_block] at this | exact this) GW635.out))) _).trans (((cell_far (p := ⟨gb635, _, none⟩) (by first | exact Nat.ne_of_lt (Nat.lt_of_lt_of_le (by have := World.block_lt_of_cell? _ _ hw628_0; first | rwa [add_block] at this | exact this) GW635.out) | (rw [add_block]; exact Nat.ne_of_lt (Nat.lt_of_lt_of_le (by have := World.block_lt_of_cell? _ _ hw628_0; first | rwa [add_block] at this | exact this) GW635.out)) | (show (Addr.add _ _).block ≠ _; rw [add_block]; exact Nat.ne_of_lt (Nat.lt_of_lt_of_le (by have := World.block_lt_of_cell? _ _ hw628_0; first | rwa [add_block] at this | exact this) GW635.out)) | (dsimp only; exact Nat.ne_of_lt (Nat.lt_of_lt_of_le (by have := World.block_lt_of_cell? _ _ hw628_0; first | rwa [add_block] at this | exact this) GW635.out))) _).trans (((cell_far (p := ⟨gb635, _, none⟩) (by first | exact Nat.ne_of_lt (Nat.lt_of_lt_of_le (by have := World.block_lt_of_cell? _ _ hw628_0; first | rwa [add_block] at this | exact this) GW635.out) | (rw [add_block]; exact Nat.ne_of_lt (Nat.lt_of_lt_of_le (by have := World.block_lt_of_cell? _ _ hw628_0; first | rwa [add_block] at this | exact this) GW635.out)) | (show (Addr.add _ _).block ≠ _; rw [add_block]; exact Nat.ne_of_lt (Nat.lt_of_lt_of_le (by have := World.block_lt_of_cell? _ _ hw628_0; first | rwa [add_block] at this | exact this) GW635.out)) | (dsimp only; exact Nat.ne_of_lt (Nat.lt_of_lt_of_le (by have := World.block_lt_of_cell? _ _ hw628_0; first | rwa [add_block] at this | exact this) GW635.out))) _).trans (((cell_far (p := ⟨gb635, _, none⟩) (by first | exact Nat.ne_of_lt (Nat.lt_of_lt_of_le (by have := World.block_lt_of_cell? _ _ hw628_0; first | rwa [add_block] at this | exact this) GW635.out) | (rw [add_block]; exact Nat.ne_of_lt (Nat.lt_of_lt_of_le (by have := World.block_lt_of_cell? _ _ hw628_0; first | rwa [add_block] at this | exact this) GW635.out)) | (show (Addr.add _ _).block ≠ _; rw [add_block]; exact Nat.ne_of_lt (Nat.lt_of_lt_of_le (by have := World.block_lt_of_cell? _ _ hw628_0; first | rwa [add_block] at this | exact this) GW635.out)) | (dsimp only; exact Nat.ne_of_lt (Nat.lt_of_lt_of_le (by have := World.block_lt_of_cell? _ _ hw628_0; first | rwa [add_block] at this | exact this) GW635.out))) _).trans (((cell_far (p := ⟨gb635, _, none⟩) (by first | exact Nat.ne_of_lt (Nat.lt_of_lt_of_le (by have := World.block_lt_of_cell? _ _ hw628_0; first | rwa [add_block] at this | exact this) GW635.out) | (rw [add_block]; exact Nat.ne_of_lt (Nat.lt_of_lt_of_le (by have := World.block_lt_of_cell? _ _ hw628_0; first | rwa [add_block] at this | exact this) GW635.out)) | (show (Addr.add _ _).block ≠ _; rw [add_block]; exact Nat.ne_of_lt (Nat.lt_of_lt_of_le (by have := World.block_lt_of_cell? _ _ hw628_0; first | rwa [add_block] at this | exact this) GW635.out)) | (dsimp only; exact Nat.ne_of_lt (Nat.lt_of_lt_of_le (by have := World.block_lt_of_cell? _ _ hw628_0; first | rwa [add_block] at this | exact this) GW635.out))) _).trans (hHeld.2.2.2.2.2.2.2.2.2.2.2.1)))))))))), ((cell_far (p := ⟨gb635, _, none⟩) (by first | exact Nat.ne_of_lt (Nat.lt_of_lt_of_le (by have := World.block_lt_of_cell? _ _ hw628_1; first | rwa [add_block] at this | exact this) GW635.out) | (rw [add_block]; exact Nat.ne_of_lt (Nat.lt_of_lt_of_le (by have := World.block_lt_of_cell? _ _ hw628_1; first | rwa [add_block] at this | exact this) GW635.out)) | (show (Addr.add _ _).block ≠ _; rw [add_block]; exact Nat.ne_of_lt (Nat.lt_of_lt_of_le (by have := World.block_lt_of_cell? _ _ hw628_1; first | rwa [add_block] at this | exact this) GW635.out)) | (dsimp only; exact Nat.ne_of_lt (Nat.lt_of_lt_of_le (by have := World.block_lt_of_cell? _ _ hw628_1; first | rwa [add_block] at this | exact this) GW635.out))) _).trans (((cell_far (p := ⟨gb635, _, none⟩) (by first | exact Nat.ne_of_lt (Nat.lt_of_lt_of_le (by have := World.block_lt_of_cell? _ _ hw628_1; first | rwa [add_block] at this | exact this) GW635.out) | (rw [add_block]; exact Nat.ne_of_lt (Nat.lt_of_lt_of_le (by have := World.block_lt_of_cell? _ _ hw628_1; first | rwa [add_block] at this | exact this) GW635.out)) | (show (Addr.add _ _).block ≠ _; rw [add_block]; exact Nat.ne_of_lt (Nat.lt_of_lt_of_le (by have := World.block_lt_of_cell? _ _ hw628_1; first | rwa [add_block] at this | exact this) GW635.out)) | (dsimp only; exact Nat.ne_of_lt (Nat.lt_of_lt_of_le (by have := World.block_lt_of_cell? _ _ hw628_1; first | rwa [add_block] at this | exact this) GW635.out))) _).trans (((cell_far (p := ⟨gb635, _, none⟩) (by first | exact Nat.ne_of_lt (Nat.lt_of_lt_of_le (by have := World.block_lt_of_cell? _ _ hw628_1; first | rwa [add_block] at this | exact this) GW635.out) | (rw [add_block]; exact Nat.ne_of_lt (Nat.lt_of_lt_of_le (by have := World.block_lt_of_cell? _ _ hw628_1; first | rwa [add_block] at this | exact this) GW635.out)) | (show (Addr.add _ _).block ≠ _; rw [add_block]; exact Nat.ne_of_lt (Nat.lt_of_lt_of_le (by have := World.block_lt_of_cell? _ _ hw628_1; first | rwa [add_block] at this | exact this) GW635.out)) | (dsimp only; exact Nat.ne_of_lt (Nat.lt_of_lt_of_le (by have := World.block_lt_of_cell? _ _ hw628_1; first | rwa [add_block] at this | exact this) GW635.out))) _).trans (((cell_far (p := ⟨gb635, _, none⟩) (by first | exact Nat.ne_of_lt (Nat.lt_of_lt_of_le (by have := World.block_lt_of_cell? _ _ hw628_1; first | rwa [add_block] at this | exact this) GW635.out) | (rw [add_block]; exact Nat.ne_of_lt (Nat.lt_of_lt_of_le (by have := World.block_lt_of_cell? _ _ hw628_1; first | rwa [add_block] at this | exact this) GW635.out)) | (show (Addr.add _ _).block ≠ _; rw [add_block]; exact Nat.ne_of_lt (Nat.lt_of_lt_of_le (by have := World.block_lt_of_cell? _ _ hw628_1; first | rwa [add_block] at this | exact this) GW635.out)) | (dsimp only; exact Nat.ne_of_lt (Nat.lt_of_lt_of_le (by have := World.block_lt_of_cell? _ _ hw628_1; first | rwa [add_block] at this | exact this) GW635.out))) _).trans (((cell_far (p := ⟨gb635, _, none⟩) (by first | exact Nat.ne_of_lt (Nat.lt_of_lt_of_le (by have := World.block_lt_of_cell? _ _ hw628_1; first | rwa [add_block] at this | exact this) GW635.out) | (rw [add_block]; exact Nat.ne_of_lt (Nat.lt_of_lt_of_le (by have := World.block_lt_of_cell? _ _ hw628_1; first | rwa [add_block] at this | exact this) GW635.out)) | (show (Addr.add _ _).block ≠ _; rw [add_block]; exact Nat.ne_of_lt (Nat.lt_of_lt_of_le (by have := World.block_lt_of_cell? _ _ hw628_1; first | rwa [add_block] at this | exact this) GW635.out)) | (dsimp only; exact Nat.ne_of_lt (Nat.lt_of_lt_of_le (by have := World.block_lt_of_cell? _ _ hw628_1; first | rwa [add_block] at this | exact this) GW635.out))) _).trans (hHeld.2.2.2.2.2.2.2.2.2.2.2.2.1)))))))))), ((cell_far (p := ⟨gb635, _, none⟩) (by first | exact Nat.ne_of_lt (Nat.lt_of_lt_of_le (by have := World.block_lt_of_cell? _ _ hw628_2; first | rwa [add_block] at this | exact this) GW635.out) | (rw [add_block]; exact Nat.ne_of_lt (Nat.lt_of_lt_of_le (by have := World.block_lt_of_cell? _ _ hw628_2; first | rwa [add_block] at this | exact this) GW635.out)) | (show (Addr.add _ _).block ≠ _; rw [add_block]; exact Nat.ne_of_lt (Nat.lt_of_lt_of_le (by have := World.block_lt_of_cell? _ _ hw628_2; first | rwa [add_block] at this | exact this) GW635.out)) | (dsimp only; exact Nat.ne_of_lt (Nat.lt_of_lt_of_le (by have := World.block_lt_of_cell? _ _ hw628_2; first | rwa [add_block] at this | exact this) GW635.out))) _).trans (((cell_far (p := ⟨gb635, _, none⟩) (by first | exact Nat.ne_of_lt (Nat.lt_of_lt_of_le (by have := World.block_lt_of_cell? _ _ hw628_2; first | rwa [add_block] at this | exact this) GW635.out) | (rw [add_block]; exact Nat.ne_of_lt (Nat.lt_of_lt_of_le (by have := World.block_lt_of_cell? _ _ hw628_2; first | rwa [add_block] at this | exact this) GW635.out)) | (show (Addr.add _ _).block ≠ _; rw [add_block]; exact Nat.ne_of_lt (Nat.lt_of_lt_of_le (by have := World.block_lt_of_cell? _ _ hw628_2; first | rwa [add_block] at this | exact this) GW635.out)) | (dsimp only; exact Nat.ne_of_lt (Nat.lt_of_lt_of_le (by have := World.block_lt_of_cell? _ _ hw628_2; first | rwa [add_block] at this | exact this) GW635.out))) _).trans (((cell_far (p := ⟨gb635, _, none⟩) (by first | exact Nat.ne_of_lt (Nat.lt_of_lt_of_le (by have := World.block_lt_of_cell? _ _ hw628_2; first | rwa [add_block] at this | exact this) GW635.out) | (rw [add_block]; exact Nat.ne_of_lt (Nat.lt_of_lt_of_le (by have := World.block_lt_of_cell? _ _ hw628_2; first | rwa [add_block] at this | exact this) GW635.out)) | (show (Addr.add _ _).block ≠ _; rw [add_block]; exact Nat.ne_of_lt (Nat.lt_of_lt_of_le (by have := World.block_lt_of_cell? _ _ hw628_2; first | rwa [add_block] at this | exact this) GW635.out)) | (dsimp only; exact Nat.ne_of_lt (Nat.lt_of_lt_of_le (by have := World.block_lt_of_cell? _ _ hw628_2; first | rwa [add_block] at this | exact this) GW635.out))) _).trans (((cell_far (p := ⟨gb635, _, none⟩) (by first | exact Nat.ne_of_lt (Nat.lt_of_lt_of_le (by have := World.block_lt_of_cell? _ _ hw628_2; first | rwa [add_block] at this | exact this) GW635.out) | (rw [add_block]; exact Nat.ne_of_lt (Nat.lt_of_lt_of_le (by have := World.block_lt_of_cell? _ _ hw628_2; first | rwa [add_block] at this | exact this) GW635.out)) | (show (Addr.add _ _).block ≠ _; rw [add_block]; exact Nat.ne_of_lt (Nat.lt_of_lt_of_le (by have := World.block_lt_of_cell? _ _ hw628_2; first | rwa [add_block] at this | exact this) GW635.out)) | (dsimp only; exact Nat.ne_of_lt (Nat.lt_of_lt_of_le (by have := World.block_lt_of_cell? _ _ hw628_2; first | rwa [add_block] at this | exact this) GW635.out))) _).trans (((cell_far (p := ⟨gb635, _, none⟩) (by first | exact Nat.ne_of_lt (Nat.lt_of_lt_of_le (by have := World.block_lt_of_cell? _ _ hw628_2; first | rwa [add_block] at this | exact this) GW635.out) | (rw [add_block]; exact Nat.ne_of_lt (Nat.lt_of_lt_of_le (by have := World.block_lt_of_cell? _ _ hw628_2; first | rwa [add_block] at this | exact this) GW635.out)) | (show (Addr.add _ _).block ≠ _; rw [add_block]; exact Nat.ne_of_lt (Nat.lt_of_lt_of_le (by have := World.block_lt_of_cell? _ _ hw628_2; first | rwa [add_block] at this | exact this) GW635.out)) | (dsimp only; exact Nat.ne_of_lt (Nat.lt_of_lt_of_le (by have := World.block_lt_of_cell? _ _ hw628_2; first | rwa [add_block] at this | exact this) GW635.out))) _).trans (hHeld.2.2.2.2.2.2.2.2.2.2.2.2.2))))))))))⟩ (fun hHeld => ?_)
                clear hK K
                refine pure_ (i := 32) (N := some 14) (v := ?_) (a' := ?_) #[true, true, true, true, true, true, true, true, true, true, true, true, true, true, true, true, true, true, true, true, true, true, true, true, true, true, true, true, true, true, true, true, true] rfl rfl (any_of HT_.out (by kernel_rfl)) (fun _ _ _ h => h) (Or.inl ⟨by rfl, ?_⟩) ?_ ?_
                rotate_left
                · intro w'
                  go_simp
                  with_reducible rfl
                rotate_left
                · simp only [Act.put, List.setIfInBounds_toArray, List.set_cons_zero, List.set_cons_succ, i64_w, i32_w]
                  rfl
                refine done_ (done_of HT_.out (by kernel_rfl)) ?_
                have hnb42 := NB625_609.out
                have hnc42 := NB609_625.out
                have hnb43 := NB625_615.out
                have hnc43 := NB615_625.out
                have hnb44 := NB625_635.out
                have hnc44 := NB635_625.out
                have hcz45_0 : w36.cell? ⟨gb625, 0, none⟩ = some (.int .i64 t619) := (blk_cell BK625.out 0).trans rfl
                have hcz45_1 : w36.cell? ⟨gb625, 1, none⟩ = some (.int .i64 t620) := (blk_cell BK625.out 1).trans rfl
                have hcz45_2 : w36.cell? ⟨gb625, 2, none⟩ = some (.int .i64 t621) := (blk_cell BK625.out 2).trans rfl
                have hcz45_3 : w36.cell? ⟨gb625, 3, none⟩ = some (.int .i64 t622) := (blk_cell BK625.out 3).trans rfl
                have hcz45_4 : w36.cell? ⟨gb625, 4, none⟩ = some (.bool t623) := (blk_cell BK625.out 4).trans rfl
                have hfz45_0 := blk_frozen BK625.out 0
                have hfz45_1 := blk_frozen BK625.out 1
                have hfz45_2 := blk_frozen BK625.out 2
                have hfz45_3 := blk_frozen BK625.out 3
                have hfz45_4 := blk_frozen BK625.out 4
                have hnb46 := NB635_609.out
                have hnc46 := NB609_635.out
                have hnb47 := NB635_615.out
                have hnc47 := NB615_635.out
                have hcz48_0 : w36.cell? ⟨gb635, 0, none⟩ = some (.int .i64 0) := (blk_cell BK635.out 0).trans rfl
                have hcz48_1 : w36.cell? ⟨gb635, 1, none⟩ = some (.int .i64 0) := (blk_cell BK635.out 1).trans rfl
                have hcz48_2 : w36.cell? ⟨gb635, 2, none⟩ = some (.int .i64 0) := (blk_cell BK635.out 2).trans rfl
                have hcz48_3 : w36.cell? ⟨gb635, 3, none⟩ = some (.int .i64 0) := (blk_cell BK635.out 3).trans rfl
                have hcz48_4 : w36.cell? ⟨gb635, 4, none⟩ = some (.bool false) := (blk_cell BK635.out 4).trans rfl
                have hfz48_0 := blk_frozen BK635.out 0
                have hfz48_1 := blk_frozen BK635.out 1
                have hfz48_2 := blk_frozen BK635.out 2
                have hfz48_3 := blk_frozen BK635.out 3
                have hfz48_4 := blk_frozen BK635.out 4
                have hnb49 := NB609_615.out
                have hnc49 := NB615_609.out
                have hcz50_0 : w36.cell? ⟨gb609, 0, none⟩ = some (.int .i64 x610000_1) := (blk_cell BK609.out 0).trans rfl
                have hcz50_1 : w36.cell? ⟨gb609, 1, none⟩ = some (.int .i64 x610001_1) := (blk_cell BK609.out 1).trans rfl
                have hcz50_2 : w36.cell? ⟨gb609, 2, none⟩ = some (.int .i64 x610002_1) := (blk_cell BK609.out 2).trans rfl
                have hcz50_3 : w36.cell? ⟨gb609, 3, none⟩ = some (.int .i64 x610003_1) := (blk_cell BK609.out 3).trans rfl
                have hcz50_4 : w36.cell? ⟨gb609, 4, none⟩ = some (.bool x610004_1) := (blk_cell BK609.out 4).trans rfl
                have hfz50_0 := blk_frozen BK609.out 0
                have hfz50_1 := blk_frozen BK609.out 1
                have hfz50_2 := blk_frozen BK609.out 2
                have hfz50_3 := blk_frozen BK609.out 3
                have hfz50_4 := blk_frozen BK609.out 4
                have hcz51_0 : w36.cell? ⟨gb615, 0, none⟩ = some (.int .i64 x616000_1) := (blk_cell BK615.out 0).trans rfl
                have hcz51_1 : w36.cell? ⟨gb615, 1, none⟩ = some (.int .i64 x616001_1) := (blk_cell BK615.out 1).trans rfl
                have hcz51_2 : w36.cell? ⟨gb615, 2, none⟩ = some (.int .i64 x616002_1) := (blk_cell BK615.out 2).trans rfl
                have hcz51_3 : w36.cell? ⟨gb615, 3, none⟩ = some (.int .i64 x616003_1) := (blk_cell BK615.out 3).trans rfl
                have hcz51_4 : w36.cell? ⟨gb615, 4, none⟩ = some (.bool x616004_1) := (blk_cell BK615.out 4).trans rfl
                have hfz51_0 := blk_frozen BK615.out 0
                have hfz51_1 := blk_frozen BK615.out 1
                have hfz51_2 := blk_frozen BK615.out 2
                have hfz51_3 := blk_frozen BK615.out 3
                have hfz51_4 := blk_frozen BK615.out 4
                try go_wp2
                go_roundg k1
                case measure => have := HK1.out; omega
                case rel => exact ⟨(wrap64 (x10_1 + 1)), (t619), (t620), (t621), (t622), (t623), (t629), (t630), (t631), (t632), (t633), (by first | rfl | (simp; done) | (simp [*]; done)), H', ⟨by have := HK1.out; omega⟩, ⟨by (with_reducible repeat (first | refine blk_drewN ?_ _ | refine blk_drew ?_ | refine blk_alloc ?_ _)); refine blk_far ?_ NB609_615.out _; (with_reducible repeat (first | refine blk_drewN ?_ _ | refine blk_drew ?_ | refine blk_alloc ?_ _)); refine blk_far ?_ NB609_615.out _; (with_reducible repeat (first | refine blk_drewN ?_ _ | refine blk_drew ?_ | refine blk_alloc ?_ _)); refine blk_far ?_ NB609_615.out _; (with_reducible repeat (first | refine blk_drewN ?_ _ | refine blk_drew ?_ | refine blk_alloc ?_ _)); refine blk_far ?_ NB609_615.out _; (with_reducible repeat (first | refine blk_drewN ?_ _ | refine blk_drew ?_ | refine blk_alloc ?_ _)); refine blk_far ?_ NB609_615.out _; (with_reducible repeat (first | refine blk_drewN ?_ _ | refine blk_drew ?_ | refine blk_alloc ?_ _)); refine blk_put (cs := #[.int .i64 t619, .int .i64 t620, .int .i64 t621, .int .i64 t622, .bool x610004_1]) ?_ 4 _ rfl; (with_reducible repeat (first | refine blk_drewN ?_ _ | refine blk_drew ?_ | refine blk_alloc ?_ _)); refine blk_put (cs := #[.int .i64 t619, .int .i64 t620, .int .i64 t621, .int .i64 x610003_1, .bool x610004_1]) ?_ 3 _ rfl; (with_reducible repeat (first | refine blk_drewN ?_ _ | refine blk_drew ?_ | refine blk_alloc ?_ _)); refine blk_put (cs := #[.int .i64 t619, .int .i64 t620, .int .i64 x610002_1, .int .i64 x610003_1, .bool x610004_1]) ?_ 2 _ rfl; (with_reducible repeat (first | refine blk_drewN ?_ _ | refine blk_drew ?_ | refine blk_alloc ?_ _)); refine blk_put (cs := #[.int .i64 t619, .int .i64 x610001_1, .int .i64 x610002_1, .int .i64 x610003_1, .bool x610004_1]) ?_ 1 _ rfl; (with_reducible repeat (first | refine blk_drewN ?_ _ | refine blk_drew ?_ | refine blk_alloc ?_ _)); refine blk_put (cs := #[.int .i64 x610000_1, .int .i64 x610001_1, .int .i64 x610002_1, .int .i64 x610003_1, .bool x610004_1]) ?_ 0 _ rfl; (with_reducible repeat (first | refine blk_drewN ?_ _ | refine blk_drew ?_ | refine blk_alloc ?_ _)); refine blk_far ?_ NB609_635.out _; (with_reducible repeat (first | refine blk_drewN ?_ _ | refine blk_drew ?_ | refine blk_alloc ?_ _)); refine blk_far ?_ NB609_635.out _; (with_reducible repeat (first | refine blk_drewN ?_ _ | refine blk_drew ?_ | refine blk_alloc ?_ _)); refine blk_far ?_ NB609_635.out _; (with_reducible repeat (first | refine blk_drewN ?_ _ | refine blk_drew ?_ | refine blk_alloc ?_ _)); refine blk_far ?_ NB609_635.out _; (with_reducible repeat (first | refine blk_drewN ?_ _ | refine blk_drew ?_ | refine blk_alloc ?_ _)); refine blk_far ?_ NB609_635.out _; (with_reducible repeat (first | refine blk_drewN ?_ _ | refine blk_drew ?_ | refine blk_alloc ?_ _)); exact BK609.out⟩, ⟨by (with_reducible repeat (first | refine blk_drewN ?_ _ | refine blk_drew ?_ | refine blk_alloc ?_ _)); refine blk_put (cs := #[.int .i64 t629, .int .i64 t630, .int .i64 t631, .int .i64 t632, .bool x616004_1]) ?_ 4 _ rfl; (with_reducible repeat (first | refine blk_drewN ?_ _ | refine blk_drew ?_ | refine blk_alloc ?_ _)); refine blk_put (cs := #[.int .i64 t629, .int .i64 t630, .int .i64 t631, .int .i64 x616003_1, .bool x616004_1]) ?_ 3 _ rfl; (with_reducible repeat (first | refine blk_drewN ?_ _ | refine blk_drew ?_ | refine blk_alloc ?_ _)); refine blk_put (cs := #[.int .i64 t629, .int .i64 t630, .int .i64 x616002_1, .int .i64 x616003_1, .bool x616004_1]) ?_ 2 _ rfl; (with_reducible repeat (first | refine blk_drewN ?_ _ | refine blk_drew ?_ | refine blk_alloc ?_ _)); refine blk_put (cs := #[.int .i64 t629, .int .i64 x616001_1, .int .i64 x616002_1, .int .i64 x616003_1, .bool x616004_1]) ?_ 1 _ rfl; (with_reducible repeat (first | refine blk_drewN ?_ _ | refine blk_drew ?_ | refine blk_alloc ?_ _)); refine blk_put (cs := #[.int .i64 x616000_1, .int .i64 x616001_1, .int .i64 x616002_1, .int .i64 x616003_1, .bool x616004_1]) ?_ 0 _ rfl; (with_reducible repeat (first | refine blk_drewN ?_ _ | refine blk_drew ?_ | refine blk_alloc ?_ _)); refine blk_far ?_ NB615_609.out _; (with_reducible repeat (first | refine blk_drewN ?_ _ | refine blk_drew ?_ | refine blk_alloc ?_ _)); refine blk_far ?_ NB615_609.out _; (with_reducible repeat (first | refine blk_drewN ?_ _ | refine blk_drew ?_ | refine blk_alloc ?_ _)); refine blk_far ?_ NB615_609.out _; (with_reducible repeat (first | refine blk_drewN ?_ _ | refine blk_drew ?_ | refine blk_alloc ?_ _)); refine blk_far ?_ NB615_609.out _; (with_reducible repeat (first | refine blk_drewN ?_ _ | refine blk_drew ?_ | refine blk_alloc ?_ _)); refine blk_far ?_ NB615_609.out _; (with_reducible repeat (first | refine blk_drewN ?_ _ | refine blk_drew ?_ | refine blk_alloc ?_ _)); refine blk_far ?_ NB615_635.out _; (with_reducible repeat (first | refine blk_drewN ?_ _ | refine blk_drew ?_ | refine blk_alloc ?_ _)); refine blk_far ?_ NB615_635.out _; (with_reducible repeat (first | refine blk_drewN ?_ _ | refine blk_drew ?_ | refine blk_alloc ?_ _)); refine blk_far ?_ NB615_635.out _; (with_reducible repeat (first | refine blk_drewN ?_ _ | refine blk_drew ?_ | refine blk_alloc ?_ _)); refine blk_far ?_ NB615_635.out _; (with_reducible repeat (first | refine blk_drewN ?_ _ | refine blk_drew ?_ | refine blk_alloc ?_ _)); refine blk_far ?_ NB615_635.out _; (with_reducible repeat (first | refine blk_drewN ?_ _ | refine blk_drew ?_ | refine blk_alloc ?_ _)); exact BK615.out⟩, ⟨by repeat (first | (with_reducible first | exact HB.out | apply below_alloc | apply pw_below_drewN | apply below_drew1 | refine below_set ?_ GE609.out | refine below_set ?_ GE615.out | refine below_set ?_ GE625.out | refine below_set ?_ GE635.out) | exact HB.out)⟩⟩
            · rw [if_neg c21] at H
              have c21b0 : (t624 == t634) = false := beq_eq_false_iff_ne.mpr c21
              have c21b1 : (t624 != t634) = true := bne_iff_ne.mpr c21
              exact absurd HT.out (by rw [← Option.some.inj H]; decide)
          · rw [if_neg c18] at H
            exact absurd H (by simp)
        · rw [if_neg c17] at H
          have c17b0 : decide (x10_1 < (l2.length : Int)) = false := decide_eq_false c17
          clear c17
          obtain rfl := Option.some.inj H
          go_wp2
          go_ret
          exact ⟨by first | rfl | (simp [errW_none, errW_some] <;> rfl) | (simp [*, errW_none, errW_some] <;> rfl), by repeat (first | (with_reducible first | exact HB.out | apply below_alloc | apply pw_below_drewN | apply below_drew1 | refine below_set ?_ GE609.out | refine below_set ?_ GE615.out) | exact HB.out)⟩

end Go.Proofs.Ytehibiikdlgneaa.P
