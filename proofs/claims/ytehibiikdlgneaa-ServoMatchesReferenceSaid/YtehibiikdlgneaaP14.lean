-- Written by this session's own program, for this seat. Lean checks it.
import Derived.Test.YtehibiikdlgneaaP0
import Derived.Test.YtehibiikdlgneaaP2
import Derived.Test.YtehibiikdlgneaaP11
import Derived.Test.YtehibiikdlgneaaP12
import Derived.Test.YtehibiikdlgneaaP13
namespace Go.Proofs.Ytehibiikdlgneaa.P
open Go.RowKit Go.Proofs.YtehibiikdlgneaaW.PrintWords Go.Proofs.YtehibiikdlgneaaW.PrintLast Go.Proofs.YtehibiikdlgneaaW.PrintMore
attribute [local go_sem] max2_int min2_int max_two min_two max_three min_three max_four min_four   -- for this text's walks alone
set_option linter.unusedVariables false
set_option linter.unusedSimpArgs false

attribute [local go_sem high] eqA49
/-! ### ambidexterlaw25_ServoMatchesReference: function 9 -/
def ambidexterlaw25_ServoMatchesReference.l0 : Nat → List (S54) → Bool → Int → Int → Int → Int → Int → Bool → Int → Int → Int → Int → Bool → Option (Bool)
  | 0, _, _, _, _, _, _, _, _, _, _, _, _, _ => none
  | k + 1, x1, x5, x8, x465000, x465001, x465002, x465003, x465004, x471000, x471001, x471002, x471003, x471004 => if x8 < (x1.length : Int) then (if 0 ≤ x8 then ((servo_Step.f x465000 x465001 x465002 x465003 x465004 (Int.tmod (wrap64 ((rd_T54 x1 x8).f0)) 4) (wrap64 ((rd_T54 x1 x8).f1)) (wrap64 ((rd_T54 x1 x8).f2))).bind fun bt474 => ((ambidexterref25_Tick.f k x471000 x471001 x471002 x471003 x471004 (Int.tmod (wrap64 ((rd_T54 x1 x8).f0)) 4) (wrap64 ((rd_T54 x1 x8).f1)) (wrap64 ((rd_T54 x1 x8).f2))).bind fun bt484 => (if ((!(bt474.1 == bt484.1) || (!(bt474.2.1 == bt484.2.1) || (!(bt474.2.2.1 == bt484.2.2.1)))) || (!(bt474.2.2.2.1 == bt484.2.2.2.1) || (!(bt474.2.2.2.2.1 == bt484.2.2.2.2.1)))) = true then (some false) else (if bt474.2.2.2.2.2 = bt484.2.2.2.2.2 then ((servo_TrackingError.f bt474.1 bt474.2.1 bt474.2.2.1 bt474.2.2.2.1 bt474.2.2.2.2.1 (wrap64 ((rd_T54 x1 x8).f1))).bind fun t492 => ((ambidexterref25_Error.f bt484.1 bt484.2.1 bt484.2.2.1 bt484.2.2.2.1 bt484.2.2.2.2.1 (wrap64 ((rd_T54 x1 x8).f1))).bind fun t494 => (if t492 = t494 then (ambidexterlaw25_ServoMatchesReference.l0 k x1 x5 (wrap64 (x8 + 1)) bt474.1 bt474.2.1 bt474.2.2.1 bt474.2.2.2.1 bt474.2.2.2.2.1 bt484.1 bt484.2.1 bt484.2.2.1 bt484.2.2.2.1 bt484.2.2.2.2.1) else (some false)))) else (some false))))) else (none)) else (if x5 = true then (some ((x465000 == x471000 && (x465001 == x471001 && (x465002 == x471002))) && (x465003 == x471003 && (x465004 == x471004)))) else (some false))
def ambidexterlaw25_ServoMatchesReference.f (k : Nat) (a0 : Int) (l1 : List (S54)) : Option (Bool) := (ambidexterlaw25_head.f).bind fun t458 => (if (l1.length : Int) > 300 then (some t458) else ((servo_New.f (wrap64 (a0))).bind fun bt459 => ((ambidexterref25_New.f (wrap64 (a0))).bind fun bt465 => (ambidexterlaw25_ServoMatchesReference.l0 k l1 t458 0 bt459.1 bt459.2.1 bt459.2.2.1 bt459.2.2.2.1 bt459.2.2.2.2 bt465.1 bt465.2.1 bt465.2.2.1 bt465.2.2.2.1 bt465.2.2.2.2))))
theorem ambidexterlaw25_ServoMatchesReference.mono_l : ∀ k, (∀ y0 y1 y2 y3 y4 y5 y6 y7 y8 y9 y10 y11 y12, LeO (ambidexterlaw25_ServoMatchesReference.l0 k y0 y1 y2 y3 y4 y5 y6 y7 y8 y9 y10 y11 y12) (ambidexterlaw25_ServoMatchesReference.l0 (k + 1) y0 y1 y2 y3 y4 y5 y6 y7 y8 y9 y10 y11 y12))
  | 0 => fun _ _ _ _ _ _ _ _ _ _ _ _ _ r h => by simp [ambidexterlaw25_ServoMatchesReference.l0] at h
  | k + 1 => by
    have ih0 := ambidexterlaw25_ServoMatchesReference.mono_l k
    · intro y0 y1 y2 y3 y4 y5 y6 y7 y8 y9 y10 y11 y12
      unfold ambidexterlaw25_ServoMatchesReference.l0
      repeat' first
      | (with_reducible exact ih0 _ _ _ _ _ _ _ _ _ _ _ _ _)
      | (with_reducible exact ambidexterref25_Tick.mono _ _ _ _ _ _ _ _ _)
      | (with_reducible exact LeO.refl _)
      | (with_reducible exact LeO.none _)
      | (with_reducible refine LeO.ite ?_ ?_)
      | (with_reducible refine LeO.bind ?_ (fun _ => ?_))
      | exact ih0 _ _ _ _ _ _ _ _ _ _ _ _ _
      | exact ambidexterref25_Tick.mono _ _ _ _ _ _ _ _ _
      | exact LeO.none _
      | refine LeO.ite ?_ ?_
      | refine LeO.bind ?_ (fun _ => ?_)
theorem ambidexterlaw25_ServoMatchesReference.mono : ∀ a0 a1 k, LeO (ambidexterlaw25_ServoMatchesReference.f k a0 a1) (ambidexterlaw25_ServoMatchesReference.f (k + 1) a0 a1) := by
  intro a0 a1 k
  have ih0 := ambidexterlaw25_ServoMatchesReference.mono_l k
  unfold ambidexterlaw25_ServoMatchesReference.f
  repeat' first
      | (with_reducible exact ih0 _ _ _ _ _ _ _ _ _ _ _ _ _)
      | (with_reducible exact ambidexterref25_Tick.mono _ _ _ _ _ _ _ _ _)
      | (with_reducible exact LeO.refl _)
      | (with_reducible exact LeO.none _)
      | (with_reducible refine LeO.ite ?_ ?_)
      | (with_reducible refine LeO.bind ?_ (fun _ => ?_))
      | exact ih0 _ _ _ _ _ _ _ _ _ _ _ _ _
      | exact ambidexterref25_Tick.mono _ _ _ _ _ _ _ _ _
      | exact LeO.none _
      | refine LeO.ite ?_ ?_
      | refine LeO.bind ?_ (fun _ => ?_)
def ambidexterlaw25_ServoMatchesReference.T9 : Bool × List (List Nat × List Nat) := (true, [([], []), ([], []), ([], []), ([1, 2], [1, 2]), ([3], [3]), ([4], [4]), ([5], [5]), ([6], [6]), ([], []), ([], []), ([8, 9], [8, 9]), ([10], [10]), ([11], [11]), ([12], [12]), ([], []), ([], []), ([14, 15], [14, 15]), ([16], [16]), ([17], [17]), ([18], [18]), ([0, 7, 13, 19], [0, 7, 13, 19]), ([20], [20]), ([21], [21]), ([21], [21]), ([], []), ([24, 22, 20, 0, 1, 2, 3, 4, 5, 6, 7, 8, 9, 10, 11, 12, 13, 14, 15, 16, 17, 18, 19, 20, 21, 22, 24], [22, 24]), ([23, 25, 0, 1, 2, 3, 4, 5, 6, 7, 8, 9, 10, 11, 12, 13, 14, 15, 16, 17, 18, 19, 20, 21, 22, 23, 24, 25], [23])])
def ambidexterlaw25_ServoMatchesReference.B9 : List Nat := [0, 0, 0, 6, 14, 30, 62, 126, 0, 0, 768, 1792, 3840, 7936, 0, 0, 49152, 114688, 245760, 507904, 1048575, 2097151, 4194303, 4194303, 0, 25165823, 67108863]
theorem ambidexterlaw25_ServoMatchesReference.tab9 : rtab .any (opsOf Try.f9 9) = ambidexterlaw25_ServoMatchesReference.T9 := by kernel_rfl
theorem ambidexterlaw25_ServoMatchesReference.bits9 : waitsOk ambidexterlaw25_ServoMatchesReference.T9.2 ambidexterlaw25_ServoMatchesReference.B9 = true := by kernel_rfl
def ambidexterlaw25_ServoMatchesReference.T10 : Bool × List (List Nat × List Nat) := (true, [([], []), ([], []), ([], []), ([1, 2], [1, 2]), ([3], [3]), ([4], [4]), ([5], [5]), ([6], [6]), ([], []), ([], []), ([8, 9], [8, 9]), ([10], [10]), ([11], [11]), ([12], [12]), ([], []), ([], []), ([14, 15], [14, 15]), ([16], [16]), ([17], [17]), ([18], [18]), ([0, 7, 13, 19], [0, 7, 13, 19]), ([20], [20]), ([21], [21]), ([21], [21]), ([], []), ([24, 22, 20, 0, 1, 2, 3, 4, 5, 6, 7, 8, 9, 10, 11, 12, 13, 14, 15, 16, 17, 18, 19, 20, 21, 22, 24], [22, 24]), ([23, 25, 0, 1, 2, 3, 4, 5, 6, 7, 8, 9, 10, 11, 12, 13, 14, 15, 16, 17, 18, 19, 20, 21, 22, 23, 24, 25], [23])])
def ambidexterlaw25_ServoMatchesReference.B10 : List Nat := [0, 0, 0, 6, 14, 30, 62, 126, 0, 0, 768, 1792, 3840, 7936, 0, 0, 49152, 114688, 245760, 507904, 1048575, 2097151, 4194303, 4194303, 0, 25165823, 67108863]
theorem ambidexterlaw25_ServoMatchesReference.tab10 : rtab .any (opsOf Try.f9 10) = ambidexterlaw25_ServoMatchesReference.T10 := by kernel_rfl
theorem ambidexterlaw25_ServoMatchesReference.bits10 : waitsOk ambidexterlaw25_ServoMatchesReference.T10.2 ambidexterlaw25_ServoMatchesReference.B10 = true := by kernel_rfl
def ambidexterlaw25_ServoMatchesReference.T11 : Bool × List (List Nat × List Nat) := (true, [([], []), ([], []), ([0, 1], [0, 1]), ([2], [2]), ([3], [3]), ([3], [3]), ([4, 5, 3], [3, 4, 5]), ([3, 6], [3, 6]), ([7, 3], [7]), ([8], [8]), ([8], [8]), ([8], [8]), ([10, 11, 8], [8, 10, 11]), ([12, 8], [8, 12]), ([13, 8], [8, 13]), ([14, 8], [8, 14]), ([9, 15, 8, 8], [8, 9, 15]), ([8], [8]), ([8], [8]), ([8], [8]), ([18, 19, 8], [8, 18, 19]), ([20, 8], [8, 20]), ([21, 8], [8, 21]), ([22, 8], [8, 22]), ([17, 23, 16, 8], [8, 17, 23]), ([16, 24, 8], [8, 16, 24]), ([8, 25], [8, 25])])
def ambidexterlaw25_ServoMatchesReference.B11 : List Nat := [0, 0, 3, 7, 15, 15, 63, 127, 255, 511, 511, 511, 3583, 7679, 15871, 32255, 65535, 511, 511, 511, 786943, 1835519, 3932671, 8126975, 16777215, 33554431, 67108863]
theorem ambidexterlaw25_ServoMatchesReference.tab11 : rtab .any (opsOf Try.f9 11) = ambidexterlaw25_ServoMatchesReference.T11 := by kernel_rfl
theorem ambidexterlaw25_ServoMatchesReference.bits11 : waitsOk ambidexterlaw25_ServoMatchesReference.T11.2 ambidexterlaw25_ServoMatchesReference.B11 = true := by kernel_rfl
set_option maxHeartbeats 8000000 in
set_option maxRecDepth 100000 in
theorem ambidexterlaw25_ServoMatchesReference.calls0 (k : Nat) (a0 : Int) (A1 : Option Addr) (c1 : Nat) (l1 : List (S54)) (r : Bool) (w : World) (hr1 : Kd.C k54 w A1 l1.length l1) (hc1 : l1.length ≤ c1) (h : ambidexterlaw25_ServoMatchesReference.f k a0 l1 = some r) (hT : r = true) :
    Calls Try.prog 9 #[.int .i16 a0, .slice A1 l1.length c1] w fun e w' => e = .returned (.bool r) ∧ Below w.heap.size w w' := by
  have hu49 := Try.underlying49
  have HR1 := Aside0.mk hr1
  have HC1 := Aside0.mk hc1
  clear hr1 hc1
  have HB := Aside0.mk (Below.refl w.heap.size w)
  have H : ((ambidexterlaw25_head.f).bind fun t458 => (if (l1.length : Int) > 300 then (some t458) else ((servo_New.f (wrap64 (a0))).bind fun bt459 => ((ambidexterref25_New.f (wrap64 (a0))).bind fun bt465 => (ambidexterlaw25_ServoMatchesReference.l0 k l1 t458 0 bt459.1 bt459.2.1 bt459.2.2.1 bt459.2.2.2.1 bt459.2.2.2.2 bt465.1 bt465.2.1 bt465.2.2.1 bt465.2.2.2.1 bt465.2.2.2.2))))) = some r := h
  clear h
  have HT := Aside0.mk hT
  clear hT
  replace H := Option.bind_eq_some_iff.mp H
  obtain ⟨t458, A30, H⟩ := H
  obtain rfl := ambidexterlaw25_head.is_true A30
  replace H : (if (l1.length : Int) > 300 then (some true) else ((servo_New.f (wrap64 (a0))).bind fun bt459 => ((ambidexterref25_New.f (wrap64 (a0))).bind fun bt465 => (ambidexterlaw25_ServoMatchesReference.l0 k l1 true 0 bt459.1 bt459.2.1 bt459.2.2.1 bt459.2.2.2.1 bt459.2.2.2.2 bt465.1 bt465.2.1 bt465.2.2.1 bt465.2.2.2.1 bt465.2.2.2.2)))) = some r := H
  have A3 := Aside0.mk A30
  clear A30
  by_cases c4 : (l1.length : Int) > 300
  · rw [if_pos c4] at H
    have c4b0 : decide (300 < (l1.length : Int)) = true := decide_eq_true c4
    have c4b1 : decide (300 < l1.length) = true := decide_eq_true (by omega)
    clear c4
    obtain rfl := Option.some.inj H
    go_enter Try.func9, Try.ntmps9
    go_wp2_with (first | ((with_reducible refine gate_callee (f := 29) rfl ?_); refine goesL_ (some 13) rfl rfl Try.func29 (by kernel_rfl) rfl #[] rfl (by (try simp only [List.map_toArray, List.map_cons, List.map_nil]); first | done | rfl | (simp only [List.length_drop, List.length_take]; rfl)) ?_; (with_reducible refine (ambidexterlaw25_head.calls  true _ A3.out).mono ?_); rintro e w5 ⟨rfl, hb⟩; refine ⟨_, rfl, ?_⟩; have n0_ := Aside0.mk (below_step (by repeat (first | (with_reducible first | exact HB.out | apply below_alloc | apply pw_below_drewN | apply below_drew1) | exact HB.out)) hb); clear HB; have HB := n0_; clear n0_; (try clear hb); (try clear hb2); (try clear hk); (try clear hi)))
    go_ret
    exact ⟨by first | rfl | (simp [errW_none, errW_some] <;> rfl) | (simp [*, errW_none, errW_some] <;> rfl), by repeat (first | (with_reducible first | exact HB.out | apply below_alloc | apply pw_below_drewN | apply below_drew1) | exact HB.out)⟩
  · rw [if_neg c4] at H
    have c4b0 : decide (300 < (l1.length : Int)) = false := decide_eq_false c4
    have c4b1 : decide (300 < l1.length) = false := decide_eq_false (by omega)
    clear c4
    replace H := Option.bind_eq_some_iff.mp H
    obtain ⟨⟨t459, t460, t461, t462, t463⟩, A60, H⟩ := H
    replace H : ((ambidexterref25_New.f (wrap64 (a0))).bind fun bt465 => (ambidexterlaw25_ServoMatchesReference.l0 k l1 true 0 t459 t460 t461 t462 t463 bt465.1 bt465.2.1 bt465.2.2.1 bt465.2.2.2.1 bt465.2.2.2.2)) = some r := H
    have A6 := Aside0.mk A60
    clear A60
    replace H := Option.bind_eq_some_iff.mp H
    obtain ⟨⟨t465, t466, t467, t468, t469⟩, A70, H⟩ := H
    replace H : (ambidexterlaw25_ServoMatchesReference.l0 k l1 true 0 t459 t460 t461 t462 t463 t465 t466 t467 t468 t469) = some r := H
    have A7 := Aside0.mk A70
    clear A70
    have H' := Aside0.mk H
    clear H
    go_enter Try.func9, Try.ntmps9
    go_wp2_with (first | ((with_reducible refine gate_callee (f := 29) rfl ?_); refine goesL_ (some 13) rfl rfl Try.func29 (by kernel_rfl) rfl #[] rfl (by (try simp only [List.map_toArray, List.map_cons, List.map_nil]); first | done | rfl | (simp only [List.length_drop, List.length_take]; rfl)) ?_; (with_reducible refine (ambidexterlaw25_head.calls  true _ A3.out).mono ?_); rintro e w8 ⟨rfl, hb⟩; refine ⟨_, rfl, ?_⟩; have n0_ := Aside0.mk (below_step (by repeat (first | (with_reducible first | exact HB.out | apply below_alloc | apply pw_below_drewN | apply below_drew1) | exact HB.out)) hb); clear HB; have HB := n0_; clear n0_; (try clear hb); (try clear hb2); (try clear hk); (try clear hi)) | ((with_reducible refine gate_callee (f := 30) rfl ?_); refine goesL_ (some 20) rfl rfl Try.func30 (by kernel_rfl) rfl #[.int .i64 (wrap64 (a0))] rfl (by (try simp only [List.map_toArray, List.map_cons, List.map_nil]); first | done | rfl | (simp only [List.length_drop, List.length_take]; rfl)) ?_; (with_reducible refine (servo_New.calls (wrap64 (a0)) t459 t460 t461 t462 t463 _ A6.out).mono ?_); rintro e w9 ⟨rfl, hb⟩; refine ⟨_, rfl, ?_⟩; have n0_ := Aside0.mk (below_step (by repeat (first | (with_reducible first | exact HB.out | apply below_alloc | apply pw_below_drewN | apply below_drew1) | exact HB.out)) hb); clear HB; have HB := n0_; clear n0_; (try clear hb); (try clear hb2); (try clear hk); (try clear hi)) | ((with_reducible refine gate_dst (N := 6) rfl ?_); refine box_event ?hg (N := 6) ?hd (cs := #[.int .i64 0, .int .i64 0, .int .i64 0, .int .i64 0, .bool false]) (t := 49) ?hr ?_; (case hd => rfl); (case hg => rfl); (case hr => first | (go_simp; done) | (go_simp; rfl)); intro gb464 hg w10 hbox hb; have n0_ := Aside0.mk (below_step (by repeat (first | (with_reducible first | exact HB.out | apply below_alloc | apply pw_below_drewN | apply below_drew1) | exact HB.out)) hb); have n1_ := Aside0.mk (hbox); have n2_ := Aside0.mk ((by rw [hg]; exact (below_size (by repeat (first | (with_reducible first | exact HB.out | apply below_alloc | apply pw_below_drewN | apply below_drew1) | exact HB.out))) : w.heap.size ≤ gb464)); have n3_ := Aside0.mk ((by rw [hg]; exact (below_size (by repeat (first | (with_reducible first | exact HB.out | apply below_alloc | apply pw_below_drewN | apply below_drew1) | exact HB.out))) : w.heap.size ≤ gb464)); clear HB; have HB := n0_; have BK464 := n1_; have GW464 := n2_; have GE464 := n3_; clear n0_ n1_ n2_ n3_; clear hb hbox hg; have hcz11_0 : w10.cell? ⟨gb464, 0, none⟩ = some (.int .i64 0) := (blk_cell BK464.out 0).trans rfl; have hcz11_1 : w10.cell? ⟨gb464, 1, none⟩ = some (.int .i64 0) := (blk_cell BK464.out 1).trans rfl; have hcz11_2 : w10.cell? ⟨gb464, 2, none⟩ = some (.int .i64 0) := (blk_cell BK464.out 2).trans rfl; have hcz11_3 : w10.cell? ⟨gb464, 3, none⟩ = some (.int .i64 0) := (blk_cell BK464.out 3).trans rfl; have hcz11_4 : w10.cell? ⟨gb464, 4, none⟩ = some (.bool false) := (blk_cell BK464.out 4).trans rfl; have hfz11_0 := blk_frozen BK464.out 0; have hfz11_1 := blk_frozen BK464.out 1; have hfz11_2 := blk_frozen BK464.out 2; have hfz11_3 := blk_frozen BK464.out 3; have hfz11_4 := blk_frozen BK464.out 4) | ((with_reducible refine gate_callee (f := 31) rfl ?_); refine goesL_ (some 23) rfl rfl Try.func31 (by kernel_rfl) rfl #[.int .i64 (wrap64 (a0))] rfl (by (try simp only [List.map_toArray, List.map_cons, List.map_nil]); first | done | rfl | (simp only [List.length_drop, List.length_take]; rfl)) ?_; (with_reducible refine (ambidexterref25_New.calls (wrap64 (a0)) t465 t466 t467 t468 t469 _ A7.out).mono ?_); rintro e w12 ⟨rfl, hb⟩; refine ⟨_, rfl, ?_⟩; have n0_ := Aside0.mk (blk_below (g := gb464) (o := .cells #[.int .i64 t459, .int .i64 t460, .int .i64 t461, .int .i64 t462, .bool t463] 49 (0, 0)) (by (with_reducible repeat (first | refine blk_drewN ?_ _ | refine blk_drew ?_ | refine blk_alloc ?_ _)); refine blk_put (cs := #[.int .i64 t459, .int .i64 t460, .int .i64 t461, .int .i64 t462, .bool false]) ?_ 4 _ rfl; (with_reducible repeat (first | refine blk_drewN ?_ _ | refine blk_drew ?_ | refine blk_alloc ?_ _)); refine blk_put (cs := #[.int .i64 t459, .int .i64 t460, .int .i64 t461, .int .i64 0, .bool false]) ?_ 3 _ rfl; (with_reducible repeat (first | refine blk_drewN ?_ _ | refine blk_drew ?_ | refine blk_alloc ?_ _)); refine blk_put (cs := #[.int .i64 t459, .int .i64 t460, .int .i64 0, .int .i64 0, .bool false]) ?_ 2 _ rfl; (with_reducible repeat (first | refine blk_drewN ?_ _ | refine blk_drew ?_ | refine blk_alloc ?_ _)); refine blk_put (cs := #[.int .i64 t459, .int .i64 0, .int .i64 0, .int .i64 0, .bool false]) ?_ 1 _ rfl; (with_reducible repeat (first | refine blk_drewN ?_ _ | refine blk_drew ?_ | refine blk_alloc ?_ _)); refine blk_put (cs := #[.int .i64 0, .int .i64 0, .int .i64 0, .int .i64 0, .bool false]) ?_ 0 _ rfl; (with_reducible repeat (first | refine blk_drewN ?_ _ | refine blk_drew ?_ | refine blk_alloc ?_ _)); exact BK464.out) hb); have n1_ := Aside0.mk (below_step (by repeat (first | (with_reducible first | exact HB.out | apply below_alloc | apply pw_below_drewN | apply below_drew1 | refine below_set ?_ GE464.out) | exact HB.out)) hb); clear BK464; clear HB; have BK464 := n0_; have HB := n1_; clear n0_ n1_; (try clear hb); (try clear hb2); (try clear hk); (try clear hi)) | ((with_reducible refine gate_dst (N := 7) rfl ?_); refine box_event ?hg (N := 7) ?hd (cs := #[.int .i64 0, .int .i64 0, .int .i64 0, .int .i64 0, .bool false]) (t := 49) ?hr ?_; (case hd => rfl); (case hg => rfl); (case hr => first | (go_simp; done) | (go_simp; rfl)); intro gb470 hg w13 hbox hb; have n0_ := Aside0.mk (blk_below (g := gb464) (o := .cells #[.int .i64 t459, .int .i64 t460, .int .i64 t461, .int .i64 t462, .bool t463] 49 (0, 0)) (by (with_reducible repeat (first | refine blk_drewN ?_ _ | refine blk_drew ?_ | refine blk_alloc ?_ _)); exact BK464.out) hb); have n1_ := Aside0.mk (below_step (by repeat (first | (with_reducible first | exact HB.out | apply below_alloc | apply pw_below_drewN | apply below_drew1 | refine below_set ?_ GE464.out) | exact HB.out)) hb); have n2_ := Aside0.mk (hbox); have n3_ := Aside0.mk ((by rw [hg]; exact (below_size (by repeat (first | (with_reducible first | exact HB.out | apply below_alloc | apply pw_below_drewN | apply below_drew1 | refine below_set ?_ GE464.out) | exact HB.out))) : w.heap.size ≤ gb470)); have n4_ := Aside0.mk ((by rw [hg]; exact (below_size (by repeat (first | (with_reducible first | exact HB.out | apply below_alloc | apply pw_below_drewN | apply below_drew1 | refine below_set ?_ GE464.out) | exact HB.out))) : w.heap.size ≤ gb470)); have n5_ := Aside0.mk ((by rw [hg]; exact Nat.ne_of_lt (blk_lt (g := gb464) (o := .cells #[.int .i64 t459, .int .i64 t460, .int .i64 t461, .int .i64 t462, .bool t463] 49 (0, 0)) (by (with_reducible repeat (first | refine blk_drewN ?_ _ | refine blk_drew ?_ | refine blk_alloc ?_ _)); exact BK464.out)) : gb464 ≠ gb470)); have n6_ := Aside0.mk ((by rw [hg]; exact Nat.ne_of_gt (blk_lt (g := gb464) (o := .cells #[.int .i64 t459, .int .i64 t460, .int .i64 t461, .int .i64 t462, .bool t463] 49 (0, 0)) (by (with_reducible repeat (first | refine blk_drewN ?_ _ | refine blk_drew ?_ | refine blk_alloc ?_ _)); exact BK464.out)) : gb470 ≠ gb464)); clear BK464; clear HB; have BK464 := n0_; have HB := n1_; have BK470 := n2_; have GW470 := n3_; have GE470 := n4_; have NB464_470 := n5_; have NB470_464 := n6_; clear n0_ n1_ n2_ n3_ n4_ n5_ n6_; clear hb hbox hg; have hnb14 := NB470_464.out; have hnc14 := NB464_470.out; have hcz15_0 : w13.cell? ⟨gb470, 0, none⟩ = some (.int .i64 0) := (blk_cell BK470.out 0).trans rfl; have hcz15_1 : w13.cell? ⟨gb470, 1, none⟩ = some (.int .i64 0) := (blk_cell BK470.out 1).trans rfl; have hcz15_2 : w13.cell? ⟨gb470, 2, none⟩ = some (.int .i64 0) := (blk_cell BK470.out 2).trans rfl; have hcz15_3 : w13.cell? ⟨gb470, 3, none⟩ = some (.int .i64 0) := (blk_cell BK470.out 3).trans rfl; have hcz15_4 : w13.cell? ⟨gb470, 4, none⟩ = some (.bool false) := (blk_cell BK470.out 4).trans rfl; have hfz15_0 := blk_frozen BK470.out 0; have hfz15_1 := blk_frozen BK470.out 1; have hfz15_2 := blk_frozen BK470.out 2; have hfz15_3 := blk_frozen BK470.out 3; have hfz15_4 := blk_frozen BK470.out 4))
    go_loopg [8] k (fun kq v8 w' => ∃ (x8_1 : Int) (x465000_1 : Int) (x465001_1 : Int) (x465002_1 : Int) (x465003_1 : Int) (x465004_1 : Bool) (x471000_1 : Int) (x471001_1 : Int) (x471002_1 : Int) (x471003_1 : Int) (x471004_1 : Bool), v8 = .int .i64 x8_1 ∧ Aside0 (ambidexterlaw25_ServoMatchesReference.l0 kq l1 true x8_1 x465000_1 x465001_1 x465002_1 x465003_1 x465004_1 x471000_1 x471001_1 x471002_1 x471003_1 x471004_1 = some r) ∧ Aside0 (kq ≤ k) ∧ Aside0 (w'.heap[gb464]? = some (.cells #[.int .i64 x465000_1, .int .i64 x465001_1, .int .i64 x465002_1, .int .i64 x465003_1, .bool x465004_1] 49 (0, 0))) ∧ Aside0 (w'.heap[gb470]? = some (.cells #[.int .i64 x471000_1, .int .i64 x471001_1, .int .i64 x471002_1, .int .i64 x471003_1, .bool x471004_1] 49 (0, 0))) ∧ Aside0 (Below w.heap.size w w'))
    case atStart => exact ⟨(0), (t459), (t460), (t461), (t462), (t463), (t465), (t466), (t467), (t468), (t469), (by first | rfl | (simp; done) | (simp [*]; done)), H', ⟨Nat.le_refl _⟩, ⟨by (with_reducible repeat (first | refine blk_drewN ?_ _ | refine blk_drew ?_ | refine blk_alloc ?_ _)); refine blk_far ?_ NB464_470.out _; (with_reducible repeat (first | refine blk_drewN ?_ _ | refine blk_drew ?_ | refine blk_alloc ?_ _)); refine blk_far ?_ NB464_470.out _; (with_reducible repeat (first | refine blk_drewN ?_ _ | refine blk_drew ?_ | refine blk_alloc ?_ _)); refine blk_far ?_ NB464_470.out _; (with_reducible repeat (first | refine blk_drewN ?_ _ | refine blk_drew ?_ | refine blk_alloc ?_ _)); refine blk_far ?_ NB464_470.out _; (with_reducible repeat (first | refine blk_drewN ?_ _ | refine blk_drew ?_ | refine blk_alloc ?_ _)); refine blk_far ?_ NB464_470.out _; (with_reducible repeat (first | refine blk_drewN ?_ _ | refine blk_drew ?_ | refine blk_alloc ?_ _)); exact BK464.out⟩, ⟨by (with_reducible repeat (first | refine blk_drewN ?_ _ | refine blk_drew ?_ | refine blk_alloc ?_ _)); refine blk_put (cs := #[.int .i64 t465, .int .i64 t466, .int .i64 t467, .int .i64 t468, .bool false]) ?_ 4 _ rfl; (with_reducible repeat (first | refine blk_drewN ?_ _ | refine blk_drew ?_ | refine blk_alloc ?_ _)); refine blk_put (cs := #[.int .i64 t465, .int .i64 t466, .int .i64 t467, .int .i64 0, .bool false]) ?_ 3 _ rfl; (with_reducible repeat (first | refine blk_drewN ?_ _ | refine blk_drew ?_ | refine blk_alloc ?_ _)); refine blk_put (cs := #[.int .i64 t465, .int .i64 t466, .int .i64 0, .int .i64 0, .bool false]) ?_ 2 _ rfl; (with_reducible repeat (first | refine blk_drewN ?_ _ | refine blk_drew ?_ | refine blk_alloc ?_ _)); refine blk_put (cs := #[.int .i64 t465, .int .i64 0, .int .i64 0, .int .i64 0, .bool false]) ?_ 1 _ rfl; (with_reducible repeat (first | refine blk_drewN ?_ _ | refine blk_drew ?_ | refine blk_alloc ?_ _)); refine blk_put (cs := #[.int .i64 0, .int .i64 0, .int .i64 0, .int .i64 0, .bool false]) ?_ 0 _ rfl; (with_reducible repeat (first | refine blk_drewN ?_ _ | refine blk_drew ?_ | refine blk_alloc ?_ _)); exact BK470.out⟩, ⟨by repeat (first | (with_reducible first | exact HB.out | apply below_alloc | apply pw_below_drewN | apply below_drew1 | refine below_set ?_ GE464.out | refine below_set ?_ GE470.out) | exact HB.out)⟩⟩
    case round =>
      clear H'
      try clear c1
      try clear c2
      try clear p2
      try clear c3
      try clear c4
      try clear c4b0
      try clear c4b1
      try clear p6
      try clear c9
      try clear c14
      try clear hcz11_0
      try clear hcz11_1
      try clear hcz11_2
      try clear hcz11_3
      try clear hcz11_4
      try clear hcz15_0
      try clear hcz15_1
      try clear hcz15_2
      try clear hcz15_3
      try clear hcz15_4
      try clear hfz11_0
      try clear hfz11_1
      try clear hfz11_2
      try clear hfz11_3
      try clear hfz11_4
      try clear hfz15_0
      try clear hfz15_1
      try clear hfz15_2
      try clear hfz15_3
      try clear hfz15_4
      obtain ⟨x8_1, x465000_1, x465001_1, x465002_1, x465003_1, x465004_1, x471000_1, x471001_1, x471002_1, x471003_1, x471004_1, rfl, HA, HK1, BK464, BK470, HB⟩ := hrel
      cases gk with
      | zero => exact absurd HA.out (by simp [ambidexterlaw25_ServoMatchesReference.l0])
      | succ k1 =>
        have H := HA.out
        clear HA
        simp only [ambidexterlaw25_ServoMatchesReference.l0] at H
        by_cases c16 : x8_1 < (l1.length : Int)
        · rw [if_pos c16] at H
          have c16b0 : decide (x8_1 < (l1.length : Int)) = true := decide_eq_true c16
          clear c16
          by_cases c17 : 0 ≤ x8_1
          · rw [if_pos c17] at H
            have c17b0 : decide (0 ≤ x8_1) = true := decide_eq_true c17
            clear c17
            replace H := Option.bind_eq_some_iff.mp H
            obtain ⟨⟨t474, t475, t476, t477, t478, t479⟩, A180, H⟩ := H
            replace H : ((ambidexterref25_Tick.f k1 x471000_1 x471001_1 x471002_1 x471003_1 x471004_1 (Int.tmod (wrap64 ((rd_T54 l1 x8_1).f0)) 4) (wrap64 ((rd_T54 l1 x8_1).f1)) (wrap64 ((rd_T54 l1 x8_1).f2))).bind fun bt484 => (if ((!(t474 == bt484.1) || (!(t475 == bt484.2.1) || (!(t476 == bt484.2.2.1)))) || (!(t477 == bt484.2.2.2.1) || (!(t478 == bt484.2.2.2.2.1)))) = true then (some false) else (if t479 = bt484.2.2.2.2.2 then ((servo_TrackingError.f t474 t475 t476 t477 t478 (wrap64 ((rd_T54 l1 x8_1).f1))).bind fun t492 => ((ambidexterref25_Error.f bt484.1 bt484.2.1 bt484.2.2.1 bt484.2.2.2.1 bt484.2.2.2.2.1 (wrap64 ((rd_T54 l1 x8_1).f1))).bind fun t494 => (if t492 = t494 then (ambidexterlaw25_ServoMatchesReference.l0 k1 l1 true (wrap64 (x8_1 + 1)) t474 t475 t476 t477 t478 bt484.1 bt484.2.1 bt484.2.2.1 bt484.2.2.2.1 bt484.2.2.2.2.1) else (some false)))) else (some false)))) = some r := H
            have A18 := Aside0.mk A180
            clear A180
            replace H := Option.bind_eq_some_iff.mp H
            obtain ⟨⟨t484, t485, t486, t487, t488, t489⟩, A190, H⟩ := H
            replace H : (if ((!(t474 == t484) || (!(t475 == t485) || (!(t476 == t486)))) || (!(t477 == t487) || (!(t478 == t488)))) = true then (some false) else (if t479 = t489 then ((servo_TrackingError.f t474 t475 t476 t477 t478 (wrap64 ((rd_T54 l1 x8_1).f1))).bind fun t492 => ((ambidexterref25_Error.f t484 t485 t486 t487 t488 (wrap64 ((rd_T54 l1 x8_1).f1))).bind fun t494 => (if t492 = t494 then (ambidexterlaw25_ServoMatchesReference.l0 k1 l1 true (wrap64 (x8_1 + 1)) t474 t475 t476 t477 t478 t484 t485 t486 t487 t488) else (some false)))) else (some false))) = some r := H
            have A19 := Aside0.mk A190
            clear A190
            by_cases c20 : ((!(t474 == t484) || (!(t475 == t485) || (!(t476 == t486)))) || (!(t477 == t487) || (!(t478 == t488)))) = true
            · rw [if_pos c20] at H
              have c20b0 : ((!(t474 == t484) || (!(t475 == t485) || (!(t476 == t486)))) || (!(t477 == t487) || (!(t478 == t488)))) = true := c20
              clear c20
              exact absurd HT.out (by rw [← Option.some.inj H]; decide)
            · rw [if_neg c20] at H
              have c20b0 : ((!(t474 == t484) || (!(t475 == t485) || (!(t476 == t486)))) || (!(t477 == t487) || (!(t478 == t488)))) = false := by simpa using c20
              clear c20
              by_cases c21 : t479 = t489
              · rw [if_pos c21] at H
                have c21b0 : (t479 == t489) = true := beq_iff_eq.mpr c21
                have c21b1 : (t479 != t489) = false := bne_eq_false_iff_eq.mpr c21
                clear c21
                replace H := Option.bind_eq_some_iff.mp H
                obtain ⟨t492, A220, H⟩ := H
                replace H : ((ambidexterref25_Error.f t484 t485 t486 t487 t488 (wrap64 ((rd_T54 l1 x8_1).f1))).bind fun t494 => (if t492 = t494 then (ambidexterlaw25_ServoMatchesReference.l0 k1 l1 true (wrap64 (x8_1 + 1)) t474 t475 t476 t477 t478 t484 t485 t486 t487 t488) else (some false))) = some r := H
                have A22 := Aside0.mk A220
                clear A220
                replace H := Option.bind_eq_some_iff.mp H
                obtain ⟨t494, A230, H⟩ := H
                replace H : (if t492 = t494 then (ambidexterlaw25_ServoMatchesReference.l0 k1 l1 true (wrap64 (x8_1 + 1)) t474 t475 t476 t477 t478 t484 t485 t486 t487 t488) else (some false)) = some r := H
                have A23 := Aside0.mk A230
                clear A230
                by_cases c24 : t492 = t494
                · rw [if_pos c24] at H
                  have c24b0 : (t492 == t494) = true := beq_iff_eq.mpr c24
                  have c24b1 : (t492 != t494) = false := bne_eq_false_iff_eq.mpr c24
                  clear c24
                  have H' := Aside0.mk H
                  clear H
                  try go_wp2
                  have n0_ := Aside0.mk (blk_drew BK464.out)
                  have n1_ := Aside0.mk (blk_drew BK470.out)
                  have n2_ := Aside0.mk (below_drew1 HB.out)
                  clear BK464
                  clear BK470
                  clear HB
                  have BK464 := n0_
                  have BK470 := n1_
                  have HB := n2_
                  clear n0_ n1_ n2_
                  have p471 : 0 ≤ (x8_1 : Int) := of_decide_eq_true (by first | (with_reducible assumption) | assumption)
                  have q471 : x8_1 < (l1.length : Int) := of_decide_eq_true (by first | (with_reducible assumption) | assumption)
                  obtain ⟨ad471, e471, hx471_0, hx471_1, hx471_2⟩ := at_T54 HR1.out x8_1 p471 q471
                  have hw471_2 := hx471_2
                  have hw471_1 := hx471_1
                  have hw471_0 := hx471_0
                  cases e471
                  replace hx471_0 := (HB.out.cell (World.block_lt_of_cell? w _ hx471_0)).trans hx471_0
                  replace hx471_1 := (HB.out.cell (World.block_lt_of_cell? w _ hx471_1)).trans hx471_1
                  replace hx471_2 := (HB.out.cell (World.block_lt_of_cell? w _ hx471_2)).trans hx471_2
                  replace p471 := eq_true p471
                  replace q471 := eq_true q471
                  have p472 : 0 ≤ (x8_1 : Int) := of_decide_eq_true (by first | (with_reducible assumption) | assumption)
                  have q472 : x8_1 < (l1.length : Int) := of_decide_eq_true (by first | (with_reducible assumption) | assumption)
                  obtain ⟨ad472, e472, hx472_0, hx472_1, hx472_2⟩ := at_T54 HR1.out x8_1 p472 q472
                  have hw472_2 := hx472_2
                  have hw472_1 := hx472_1
                  have hw472_0 := hx472_0
                  obtain rfl : ad471 = ad472 := (by injection e472)
                  replace hx472_0 := (HB.out.cell (World.block_lt_of_cell? w _ hx472_0)).trans hx472_0
                  replace hx472_1 := (HB.out.cell (World.block_lt_of_cell? w _ hx472_1)).trans hx472_1
                  replace hx472_2 := (HB.out.cell (World.block_lt_of_cell? w _ hx472_2)).trans hx472_2
                  replace p472 := eq_true p472
                  replace q472 := eq_true q472
                  have p473 : 0 ≤ (x8_1 : Int) := of_decide_eq_true (by first | (with_reducible assumption) | assumption)
                  have q473 : x8_1 < (l1.length : Int) := of_decide_eq_true (by first | (with_reducible assumption) | assumption)
                  obtain ⟨ad473, e473, hx473_0, hx473_1, hx473_2⟩ := at_T54 HR1.out x8_1 p473 q473
                  have hw473_2 := hx473_2
                  have hw473_1 := hx473_1
                  have hw473_0 := hx473_0
                  obtain rfl : ad471 = ad473 := (by injection e473)
                  replace hx473_0 := (HB.out.cell (World.block_lt_of_cell? w _ hx473_0)).trans hx473_0
                  replace hx473_1 := (HB.out.cell (World.block_lt_of_cell? w _ hx473_1)).trans hx473_1
                  replace hx473_2 := (HB.out.cell (World.block_lt_of_cell? w _ hx473_2)).trans hx473_2
                  replace p473 := eq_true p473
                  replace q473 := eq_true q473
                  refine start_ (n := 27) (S := fun w' => w'.cell? ⟨gb464, 0, none⟩ = some (.int .i64 x465000_1) ∧ w'.cell? ⟨gb464, 1, none⟩ = some (.int .i64 x465001_1) ∧ w'.cell? ⟨gb464, 2, none⟩ = some (.int .i64 x465002_1) ∧ w'.cell? ⟨gb464, 3, none⟩ = some (.int .i64 x465003_1) ∧ w'.cell? ⟨gb464, 4, none⟩ = some (.bool x465004_1) ∧ w'.cell? (ad471.add ((x8_1).toNat * 3)) = some (.int .u8 ((rd_T54 l1 x8_1).f0)) ∧ w'.cell? ⟨(ad471.add ((x8_1).toNat * 3)).block, (ad471.add ((x8_1).toNat * 3)).off + 1, none⟩ = some (.int .i16 ((rd_T54 l1 x8_1).f1)) ∧ w'.cell? ⟨(ad471.add ((x8_1).toNat * 3)).block, (ad471.add ((x8_1).toNat * 3)).off + 2, none⟩ = some (.int .i16 ((rd_T54 l1 x8_1).f2)) ∧ w'.cell? (ad471.add ((x8_1).toNat * 3)) = some (.int .u8 ((rd_T54 l1 x8_1).f0)) ∧ w'.cell? ⟨(ad471.add ((x8_1).toNat * 3)).block, (ad471.add ((x8_1).toNat * 3)).off + 1, none⟩ = some (.int .i16 ((rd_T54 l1 x8_1).f1)) ∧ w'.cell? ⟨(ad471.add ((x8_1).toNat * 3)).block, (ad471.add ((x8_1).toNat * 3)).off + 2, none⟩ = some (.int .i16 ((rd_T54 l1 x8_1).f2)) ∧ w'.cell? (ad471.add ((x8_1).toNat * 3)) = some (.int .u8 ((rd_T54 l1 x8_1).f0)) ∧ w'.cell? ⟨(ad471.add ((x8_1).toNat * 3)).block, (ad471.add ((x8_1).toNat * 3)).off + 1, none⟩ = some (.int .i16 ((rd_T54 l1 x8_1).f1)) ∧ w'.cell? ⟨(ad471.add ((x8_1).toNat * 3)).block, (ad471.add ((x8_1).toNat * 3)).off + 2, none⟩ = some (.int .i16 ((rd_T54 l1 x8_1).f2))) (ds := []) #[false, false, false, false, false, false, false, false, false, false, false, false, false, false, false, false, false, false, false, false, false, false, false, false, false, false, false] (by kernel_rfl) rfl rfl ⟨(blk_cell BK464.out 0).trans rfl, (blk_cell BK464.out 1).trans rfl, (blk_cell BK464.out 2).trans rfl, (blk_cell BK464.out 3).trans rfl, (blk_cell BK464.out 4).trans rfl, ((HB.out.cell (World.block_lt_of_cell? w _ hw471_0)).trans hw471_0), ((HB.out.cell (World.block_lt_of_cell? w _ hw471_1)).trans hw471_1), ((HB.out.cell (World.block_lt_of_cell? w _ hw471_2)).trans hw471_2), ((HB.out.cell (World.block_lt_of_cell? w _ hw472_0)).trans hw472_0), ((HB.out.cell (World.block_lt_of_cell? w _ hw472_1)).trans hw472_1), ((HB.out.cell (World.block_lt_of_cell? w _ hw472_2)).trans hw472_2), ((HB.out.cell (World.block_lt_of_cell? w _ hw473_0)).trans hw473_0), ((HB.out.cell (World.block_lt_of_cell? w _ hw473_1)).trans hw473_1), ((HB.out.cell (World.block_lt_of_cell? w _ hw473_2)).trans hw473_2)⟩ (fun hHeld => ?_); refine with_tabW ambidexterlaw25_ServoMatchesReference.tab9 ambidexterlaw25_ServoMatchesReference.bits9 (fun HT_ HW_ => ?_)
                  generalize wr.drew = w25 at BK464 BK470 HB hx471_0 hx471_1 hx471_2 hx472_0 hx472_1 hx472_2 hx473_0 hx473_1 hx473_2 hHeld ⊢
                  refine pure_ (i := 1) (N := some 32) (v := ?_) (a' := ?_) #[false, true, false, false, false, false, false, false, false, false, false, false, false, false, false, false, false, false, false, false, false, false, false, false, false, false, false] rfl rfl (any_of HT_.out (by kernel_rfl)) (fun _ _ _ h => h) (Or.inl ⟨by rfl, ?_⟩) ?_ ?_
                  rotate_left
                  · intro w'
                    go_simp
                    with_reducible rfl
                  rotate_left
                  · simp only [Act.put, List.setIfInBounds_toArray, List.set_cons_zero, List.set_cons_succ, i64_w, i32_w]
                    rfl
                  refine pure_ (i := 2) (N := some 33) (v := ?_) (a' := ?_) #[false, true, true, false, false, false, false, false, false, false, false, false, false, false, false, false, false, false, false, false, false, false, false, false, false, false, false] rfl rfl (any_of HT_.out (by kernel_rfl)) (fun _ _ _ h => h) (Or.inl ⟨by rfl, ?_⟩) ?_ ?_
                  rotate_left
                  · intro w'
                    go_simp
                    with_reducible rfl
                  rotate_left
                  · simp only [Act.put, List.setIfInBounds_toArray, List.set_cons_zero, List.set_cons_succ, i64_w, i32_w]
                    rfl
                  refine pure_ (i := 3) (N := some 34) (v := ?_) (a' := ?_) #[false, true, true, true, false, false, false, false, false, false, false, false, false, false, false, false, false, false, false, false, false, false, false, false, false, false, false] rfl rfl (any_of HT_.out (by kernel_rfl)) (fun _ _ _ h => h) (Or.inl ⟨by rfl, ?_⟩) ?_ ?_
                  rotate_left
                  · intro w'
                    go_simp
                    with_reducible rfl
                  rotate_left
                  · simp only [Act.put, List.setIfInBounds_toArray, List.set_cons_zero, List.set_cons_succ, i64_w, i32_w]
                    rfl
                  refine pure_ (i := 4) (N := some 35) (v := ?_) (a' := ?_) #[false, true, true, true, true, false, false, false, false, false, false, false, false, false, false, false, false, false, false, false, false, false, false, false, false, false, false] rfl rfl (any_of HT_.out (by kernel_rfl)) (fun _ _ _ h => h) (Or.inl ⟨by rfl, ?_⟩) ?_ ?_
                  rotate_left
                  · intro w'
                    go_simp
                    with_reducible rfl
                  rotate_left
                  · simp only [Act.put, List.setIfInBounds_toArray, List.set_cons_zero, List.set_cons_succ, i64_w, i32_w]
                    rfl
                  refine pure_ (i := 8) (N := some 39) (v := ?_) (a' := ?_) #[false, true, true, true, true, false, false, false, true, false, false, false, false, false, false, false, false, false, false, false, false, false, false, false, false, false, false] rfl rfl (any_of HT_.out (by kernel_rfl)) (fun _ _ _ h => h) (Or.inl ⟨by rfl, ?_⟩) ?_ ?_
                  rotate_left
                  · intro w'
                    go_simp
                    with_reducible rfl
                  rotate_left
                  · simp only [Act.put, List.setIfInBounds_toArray, List.set_cons_zero, List.set_cons_succ, i64_w, i32_w]
                    rfl
                  refine pure_ (i := 9) (N := some 40) (v := ?_) (a' := ?_) #[false, true, true, true, true, false, false, false, true, true, false, false, false, false, false, false, false, false, false, false, false, false, false, false, false, false, false] rfl rfl (any_of HT_.out (by kernel_rfl)) (fun _ _ _ h => h) (Or.inl ⟨by rfl, ?_⟩) ?_ ?_
                  rotate_left
                  · intro w'
                    go_simp
                    with_reducible rfl
                  rotate_left
                  · simp only [Act.put, List.setIfInBounds_toArray, List.set_cons_zero, List.set_cons_succ, i64_w, i32_w]
                    rfl
                  refine pure_ (i := 10) (N := some 41) (v := ?_) (a' := ?_) #[false, true, true, true, true, false, false, false, true, true, true, false, false, false, false, false, false, false, false, false, false, false, false, false, false, false, false] rfl rfl (any_of HT_.out (by kernel_rfl)) (fun _ _ _ h => h) (Or.inl ⟨by rfl, ?_⟩) ?_ ?_
                  rotate_left
                  · intro w'
                    go_simp
                    with_reducible rfl
                  rotate_left
                  · simp only [Act.put, List.setIfInBounds_toArray, List.set_cons_zero, List.set_cons_succ, i64_w, i32_w]
                    rfl
                  refine pure_ (i := 11) (N := some 42) (v := ?_) (a' := ?_) #[false, true, true, true, true, false, false, false, true, true, true, true, false, false, false, false, false, false, false, false, false, false, false, false, false, false, false] rfl rfl (any_of HT_.out (by kernel_rfl)) (fun _ _ _ h => h) (Or.inl ⟨by rfl, ?_⟩) ?_ ?_
                  rotate_left
                  · intro w'
                    go_simp
                    with_reducible rfl
                  rotate_left
                  · simp only [Act.put, List.setIfInBounds_toArray, List.set_cons_zero, List.set_cons_succ, i64_w, i32_w]
                    rfl
                  refine pure_ (i := 14) (N := some 45) (v := ?_) (a' := ?_) #[false, true, true, true, true, false, false, false, true, true, true, true, false, false, true, false, false, false, false, false, false, false, false, false, false, false, false] rfl rfl (any_of HT_.out (by kernel_rfl)) (fun _ _ _ h => h) (Or.inl ⟨by rfl, ?_⟩) ?_ ?_
                  rotate_left
                  · intro w'
                    go_simp
                    with_reducible rfl
                  rotate_left
                  · simp only [Act.put, List.setIfInBounds_toArray, List.set_cons_zero, List.set_cons_succ, i64_w, i32_w]
                    rfl
                  refine pure_ (i := 15) (N := some 46) (v := ?_) (a' := ?_) #[false, true, true, true, true, false, false, false, true, true, true, true, false, false, true, true, false, false, false, false, false, false, false, false, false, false, false] rfl rfl (any_of HT_.out (by kernel_rfl)) (fun _ _ _ h => h) (Or.inl ⟨by rfl, ?_⟩) ?_ ?_
                  rotate_left
                  · intro w'
                    go_simp
                    with_reducible rfl
                  rotate_left
                  · simp only [Act.put, List.setIfInBounds_toArray, List.set_cons_zero, List.set_cons_succ, i64_w, i32_w]
                    rfl
                  refine pure_ (i := 16) (N := some 47) (v := ?_) (a' := ?_) #[false, true, true, true, true, false, false, false, true, true, true, true, false, false, true, true, true, false, false, false, false, false, false, false, false, false, false] rfl rfl (any_of HT_.out (by kernel_rfl)) (fun _ _ _ h => h) (Or.inl ⟨by rfl, ?_⟩) ?_ ?_
                  rotate_left
                  · intro w'
                    go_simp
                    with_reducible rfl
                  rotate_left
                  · simp only [Act.put, List.setIfInBounds_toArray, List.set_cons_zero, List.set_cons_succ, i64_w, i32_w]
                    rfl
                  refine pure_ (i := 17) (N := some 48) (v := ?_) (a' := ?_) #[false, true, true, true, true, false, false, false, true, true, true, true, false, false, true, true, true, true, false, false, false, false, false, false, false, false, false] rfl rfl (any_of HT_.out (by kernel_rfl)) (fun _ _ _ h => h) (Or.inl ⟨by rfl, ?_⟩) ?_ ?_
                  rotate_left
                  · intro w'
                    go_simp
                    with_reducible rfl
                  rotate_left
                  · simp only [Act.put, List.setIfInBounds_toArray, List.set_cons_zero, List.set_cons_succ, i64_w, i32_w]
                    rfl
                  refine take_ (i := 0) (N := some 31) (v := ?_) (a' := ?_) #[true, true, true, true, true, false, false, false, true, true, true, true, false, false, true, true, true, true, false, false, false, false, false, false, false, false, false] rfl rfl (take_ofW HT_.out HW_.out (by kernel_rfl)) (fun _ _ _ h => h) (Or.inl ⟨by rfl, ?_⟩) hHeld ?_ ?_
                  rotate_left
                  · rintro w' ⟨s0, s1, s2, s3, s4, s5, s6, s7, s8, s9, s10, s11, s12, s13⟩
                    go_simp
                    with_reducible rfl
                  rotate_left
                  · simp only [Act.put, List.setIfInBounds_toArray, List.set_cons_zero, List.set_cons_succ, i64_w, i32_w]
                    rfl
                  refine take_ (i := 5) (N := some 36) (v := ?_) (a' := ?_) #[true, true, true, true, true, true, false, false, true, true, true, true, false, false, true, true, true, true, false, false, false, false, false, false, false, false, false] rfl rfl (take_ofW HT_.out HW_.out (by kernel_rfl)) (fun _ _ _ h => h) (Or.inl ⟨by rfl, ?_⟩) hHeld ?_ ?_
                  rotate_left
                  · rintro w' ⟨s0, s1, s2, s3, s4, s5, s6, s7, s8, s9, s10, s11, s12, s13⟩
                    go_simp
                    with_reducible rfl
                  rotate_left
                  · simp only [Act.put, List.setIfInBounds_toArray, List.set_cons_zero, List.set_cons_succ, i64_w, i32_w]
                    rfl
                  refine pure_ (i := 6) (N := some 37) (v := ?_) (a' := ?_) #[true, true, true, true, true, true, true, false, true, true, true, true, false, false, true, true, true, true, false, false, false, false, false, false, false, false, false] rfl rfl (any_of HT_.out (by kernel_rfl)) (fun _ _ _ h => h) (Or.inl ⟨by rfl, ?_⟩) ?_ ?_
                  rotate_left
                  · intro w'
                    go_simp
                    with_reducible rfl
                  rotate_left
                  · simp only [Act.put, List.setIfInBounds_toArray, List.set_cons_zero, List.set_cons_succ, i64_w, i32_w]
                    rfl
                  refine pure_ (i := 7) (N := some 38) (v := ?_) (a' := ?_) #[true, true, true, true, true, true, true, true, true, true, true, true, false, false, true, true, true, true, false, false, false, false, false, false, false, false, false] rfl rfl (any_of HT_.out (by kernel_rfl)) (fun _ _ _ h => h) (Or.inl ⟨by rfl, ?_⟩) ?_ ?_
                  rotate_left
                  · intro w'
                    go_simp
                    with_reducible rfl
                  rotate_left
                  · simp only [Act.put, List.setIfInBounds_toArray, List.set_cons_zero, List.set_cons_succ, i64_w, i32_w]
                    rfl
                  refine take_ (i := 12) (N := some 43) (v := ?_) (a' := ?_) #[true, true, true, true, true, true, true, true, true, true, true, true, true, false, true, true, true, true, false, false, false, false, false, false, false, false, false] rfl rfl (take_ofW HT_.out HW_.out (by kernel_rfl)) (fun _ _ _ h => h) (Or.inl ⟨by rfl, ?_⟩) hHeld ?_ ?_
                  rotate_left
                  · rintro w' ⟨s0, s1, s2, s3, s4, s5, s6, s7, s8, s9, s10, s11, s12, s13⟩
                    go_simp
                    with_reducible rfl
                  rotate_left
                  · simp only [Act.put, List.setIfInBounds_toArray, List.set_cons_zero, List.set_cons_succ, i64_w, i32_w]
                    rfl
                  refine pure_ (i := 13) (N := some 44) (v := ?_) (a' := ?_) #[true, true, true, true, true, true, true, true, true, true, true, true, true, true, true, true, true, true, false, false, false, false, false, false, false, false, false] rfl rfl (any_of HT_.out (by kernel_rfl)) (fun _ _ _ h => h) (Or.inl ⟨by rfl, ?_⟩) ?_ ?_
                  rotate_left
                  · intro w'
                    go_simp
                    with_reducible rfl
                  rotate_left
                  · simp only [Act.put, List.setIfInBounds_toArray, List.set_cons_zero, List.set_cons_succ, i64_w, i32_w]
                    rfl
                  refine take_ (i := 18) (N := some 49) (v := ?_) (a' := ?_) #[true, true, true, true, true, true, true, true, true, true, true, true, true, true, true, true, true, true, true, false, false, false, false, false, false, false, false] rfl rfl (take_ofW HT_.out HW_.out (by kernel_rfl)) (fun _ _ _ h => h) (Or.inl ⟨by rfl, ?_⟩) hHeld ?_ ?_
                  rotate_left
                  · rintro w' ⟨s0, s1, s2, s3, s4, s5, s6, s7, s8, s9, s10, s11, s12, s13⟩
                    go_simp
                    with_reducible rfl
                  rotate_left
                  · simp only [Act.put, List.setIfInBounds_toArray, List.set_cons_zero, List.set_cons_succ, i64_w, i32_w]
                    rfl
                  refine pure_ (i := 19) (N := some 50) (v := ?_) (a' := ?_) #[true, true, true, true, true, true, true, true, true, true, true, true, true, true, true, true, true, true, true, true, false, false, false, false, false, false, false] rfl rfl (any_of HT_.out (by kernel_rfl)) (fun _ _ _ h => h) (Or.inl ⟨by rfl, ?_⟩) ?_ ?_
                  rotate_left
                  · intro w'
                    go_simp
                    with_reducible rfl
                  rotate_left
                  · simp only [Act.put, List.setIfInBounds_toArray, List.set_cons_zero, List.set_cons_succ, i64_w, i32_w]
                    rfl
                  refine join_ (σ := Nat) 2 #[true, true, true, true, true, true, true, true, true, true, true, true, true, true, true, true, true, true, true, true, true, true, true, true, true, false, false] (fun s_ => [(51, .tuple #[.agg #[.int .i64 t474, .int .i64 t475, .int .i64 t476, .int .i64 t477, .bool t478], .int .i64 t479]), (9, .pointer (some ⟨s_, 0, none⟩)), (30, .tuple #[.agg #[.int .i64 t474, .int .i64 t475, .int .i64 t476, .int .i64 t477, .bool t478], .int .i64 t479]), (52, .agg #[.int .i64 t474, .int .i64 t475, .int .i64 t476, .int .i64 t477, .bool t478]), (53, .int .i64 t479)]) (fun s_ w' => (w'.cell? ⟨gb464, 0, none⟩ = some (.int .i64 x465000_1) ∧ w'.cell? ⟨gb464, 1, none⟩ = some (.int .i64 x465001_1) ∧ w'.cell? ⟨gb464, 2, none⟩ = some (.int .i64 x465002_1) ∧ w'.cell? ⟨gb464, 3, none⟩ = some (.int .i64 x465003_1) ∧ w'.cell? ⟨gb464, 4, none⟩ = some (.bool x465004_1) ∧ w'.cell? (ad471.add ((x8_1).toNat * 3)) = some (.int .u8 ((rd_T54 l1 x8_1).f0)) ∧ w'.cell? ⟨(ad471.add ((x8_1).toNat * 3)).block, (ad471.add ((x8_1).toNat * 3)).off + 1, none⟩ = some (.int .i16 ((rd_T54 l1 x8_1).f1)) ∧ w'.cell? ⟨(ad471.add ((x8_1).toNat * 3)).block, (ad471.add ((x8_1).toNat * 3)).off + 2, none⟩ = some (.int .i16 ((rd_T54 l1 x8_1).f2)) ∧ w'.cell? (ad471.add ((x8_1).toNat * 3)) = some (.int .u8 ((rd_T54 l1 x8_1).f0)) ∧ w'.cell? ⟨(ad471.add ((x8_1).toNat * 3)).block, (ad471.add ((x8_1).toNat * 3)).off + 1, none⟩ = some (.int .i16 ((rd_T54 l1 x8_1).f1)) ∧ w'.cell? ⟨(ad471.add ((x8_1).toNat * 3)).block, (ad471.add ((x8_1).toNat * 3)).off + 2, none⟩ = some (.int .i16 ((rd_T54 l1 x8_1).f2)) ∧ w'.cell? (ad471.add ((x8_1).toNat * 3)) = some (.int .u8 ((rd_T54 l1 x8_1).f0)) ∧ w'.cell? ⟨(ad471.add ((x8_1).toNat * 3)).block, (ad471.add ((x8_1).toNat * 3)).off + 1, none⟩ = some (.int .i16 ((rd_T54 l1 x8_1).f1)) ∧ w'.cell? ⟨(ad471.add ((x8_1).toNat * 3)).block, (ad471.add ((x8_1).toNat * 3)).off + 2, none⟩ = some (.int .i16 ((rd_T54 l1 x8_1).f2))) ∧ (w'.heap[gb464]? = some (.cells #[.int .i64 x465000_1, .int .i64 x465001_1, .int .i64 x465002_1, .int .i64 x465003_1, .bool x465004_1] 49 (0, 0))) ∧ (w'.heap[gb470]? = some (.cells #[.int .i64 x471000_1, .int .i64 x471001_1, .int .i64 x471002_1, .int .i64 x471003_1, .bool x471004_1] 49 (0, 0))) ∧ (w'.heap[s_]? = some (.cells #[.int .i64 0, .int .i64 0, .int .i64 0, .int .i64 0, .bool false] 49 (0, 0))) ∧ (w.heap.size ≤ s_) ∧ (w.heap.size ≤ s_) ∧ (gb464 ≠ s_) ∧ (s_ ≠ gb464) ∧ (gb470 ≠ s_) ∧ (s_ ≠ gb470) ∧ (Below w.heap.size w w')) ?_ ?_
                  rotate_left
                  · intro hCont
                    refine two_ (i := 20) (j := 24) (Ni := some 51) (Nj := some 9) #[true, true, true, true, true, true, true, true, true, true, true, true, true, true, true, true, true, true, true, true, true, false, false, false, false, false, false] #[true, true, true, true, true, true, true, true, true, true, true, true, true, true, true, true, true, true, true, true, false, false, false, false, true, false, false] rfl rfl rfl rfl (two_of HT_.out (by kernel_rfl)) (by decide) (by decide) (fun K hK => ?_) (fun K hK => ?_)
                    · skip
                      refine goes_ Try.func32 (by kernel_rfl) rfl #[.agg #[.int .i64 x465000_1, .int .i64 x465001_1, .int .i64 x465002_1, .int .i64 x465003_1, .bool x465004_1], .int .i64 (Int.tmod (wrap64 ((rd_T54 l1 x8_1).f0)) 4), .int .i64 (wrap64 ((rd_T54 l1 x8_1).f1)), .int .i64 (wrap64 ((rd_T54 l1 x8_1).f2))] (by rfl) rfl rfl (by (try simp only [List.map_toArray, List.map_cons, List.map_nil]); first | done | rfl | (simp only [List.length_drop, List.length_take]; rfl)) ?_
                      with_reducible refine (servo_Step.calls x465000_1 x465001_1 x465002_1 x465003_1 x465004_1 (Int.tmod (wrap64 ((rd_T54 l1 x8_1).f0)) 4) (wrap64 ((rd_T54 l1 x8_1).f1)) (wrap64 ((rd_T54 l1 x8_1).f2)) t474 t475 t476 t477 t478 t479 _ A18.out).mono ?_
                      rintro e w26 ⟨rfl, hb⟩
                      refine ⟨_, rfl, ?_⟩
                      have n0_ := Aside0.mk (blk_below (g := gb464) (o := .cells #[.int .i64 x465000_1, .int .i64 x465001_1, .int .i64 x465002_1, .int .i64 x465003_1, .bool x465004_1] 49 (0, 0)) (by (with_reducible repeat (first | refine blk_drewN ?_ _ | refine blk_drew ?_ | refine blk_alloc ?_ _)); exact BK464.out) hb)
                      have n1_ := Aside0.mk (blk_below (g := gb470) (o := .cells #[.int .i64 x471000_1, .int .i64 x471001_1, .int .i64 x471002_1, .int .i64 x471003_1, .bool x471004_1] 49 (0, 0)) (by (with_reducible repeat (first | refine blk_drewN ?_ _ | refine blk_drew ?_ | refine blk_alloc ?_ _)); exact BK470.out) hb)
                      have n2_ := Aside0.mk (below_step (by repeat (first | (with_reducible first | exact HB.out | apply below_alloc | apply pw_below_drewN | apply below_drew1 | refine below_set ?_ GE464.out | refine below_set ?_ GE470.out) | exact HB.out)) hb)
                      clear BK464
                      clear BK470
                      clear HB
                      have BK464 := n0_
                      have BK470 := n1_
                      have HB := n2_
                      clear n0_ n1_ n2_
                      (try clear hb)
                      (try clear hb2)
                      (try clear hk)
                      (try clear hi)
                      refine hK.out _ _ ⟨(blk_cell BK464.out 0).trans rfl, (blk_cell BK464.out 1).trans rfl, (blk_cell BK464.out 2).trans rfl, (blk_cell BK464.out 3).trans rfl, (blk_cell BK464.out 4).trans rfl, ((HB.out.cell (World.block_lt_of_cell? w _ hw471_0)).trans hw471_0), ((HB.out.cell (World.block_lt_of_cell? w _ hw471_1)).trans hw471_1), ((HB.out.cell (World.block_lt_of_cell? w _ hw471_2)).trans hw471_2), ((HB.out.cell (World.block_lt_of_cell? w _ hw472_0)).trans hw472_0), ((HB.out.cell (World.block_lt_of_cell? w _ hw472_1)).trans hw472_1), ((HB.out.cell (World.block_lt_of_cell? w _ hw472_2)).trans hw472_2), ((HB.out.cell (World.block_lt_of_cell? w _ hw473_0)).trans hw473_0), ((HB.out.cell (World.block_lt_of_cell? w _ hw473_1)).trans hw473_1), ((HB.out.cell (World.block_lt_of_cell? w _ hw473_2)).trans hw473_2)⟩ (fun hHeld => ?_)
                      clear hK K
                      refine norm_ (a' := ?_) ?_ ?_
                      rotate_left
                      · show Act.put _ (some 51) _ = _
                        simp only [Act.put, List.setIfInBounds_toArray, List.set_cons_zero, List.set_cons_succ, i64_w, i32_w]
                        rfl
                      refine pure_ (i := 21) (N := some 30) (v := ?_) (a' := ?_) #[true, true, true, true, true, true, true, true, true, true, true, true, true, true, true, true, true, true, true, true, true, true, false, false, false, false, false] rfl rfl (any_of HT_.out (by kernel_rfl)) (fun _ _ _ h => h) (Or.inl ⟨by rfl, ?_⟩) ?_ ?_
                      rotate_left
                      · intro w'
                        go_simp
                        with_reducible rfl
                      rotate_left
                      · simp only [Act.put, List.setIfInBounds_toArray, List.set_cons_zero, List.set_cons_succ, i64_w, i32_w]
                        rfl
                      refine pure_ (i := 22) (N := some 52) (v := ?_) (a' := ?_) #[true, true, true, true, true, true, true, true, true, true, true, true, true, true, true, true, true, true, true, true, true, true, true, false, false, false, false] rfl rfl (any_of HT_.out (by kernel_rfl)) (fun _ _ _ h => h) (Or.inl ⟨by rfl, ?_⟩) ?_ ?_
                      rotate_left
                      · intro w'
                        go_simp
                        with_reducible rfl
                      rotate_left
                      · simp only [Act.put, List.setIfInBounds_toArray, List.set_cons_zero, List.set_cons_succ, i64_w, i32_w]
                        rfl
                      refine pure_ (i := 23) (N := some 53) (v := ?_) (a' := ?_) #[true, true, true, true, true, true, true, true, true, true, true, true, true, true, true, true, true, true, true, true, true, true, true, true, false, false, false] rfl rfl (any_of HT_.out (by kernel_rfl)) (fun _ _ _ h => h) (Or.inl ⟨by rfl, ?_⟩) ?_ ?_
                      rotate_left
                      · intro w'
                        go_simp
                        with_reducible rfl
                      rotate_left
                      · simp only [Act.put, List.setIfInBounds_toArray, List.set_cons_zero, List.set_cons_succ, i64_w, i32_w]
                        rfl
                      refine one_ (i := 24) (N := some 9) #[true, true, true, true, true, true, true, true, true, true, true, true, true, true, true, true, true, true, true, true, true, true, true, true, true, false, false] rfl rfl (one_of HT_.out (by kernel_rfl)) (by decide) (fun K hK => ?_)
                      refine box_step ?hg (N := 9) ?hd (cs := #[.int .i64 0, .int .i64 0, .int .i64 0, .int .i64 0, .bool false]) (t := 49) ?hr ?_; (case hd => rfl); (case hg => rfl); (case hr => first | (go_simp; done) | (go_simp; rfl))
                      intro gb480 hg w27 hbox hb
                      have n0_ := Aside0.mk (blk_below (g := gb464) (o := .cells #[.int .i64 x465000_1, .int .i64 x465001_1, .int .i64 x465002_1, .int .i64 x465003_1, .bool x465004_1] 49 (0, 0)) (by (with_reducible repeat (first | refine blk_drewN ?_ _ | refine blk_drew ?_ | refine blk_alloc ?_ _)); exact BK464.out) hb)
                      have n1_ := Aside0.mk (blk_below (g := gb470) (o := .cells #[.int .i64 x471000_1, .int .i64 x471001_1, .int .i64 x471002_1, .int .i64 x471003_1, .bool x471004_1] 49 (0, 0)) (by (with_reducible repeat (first | refine blk_drewN ?_ _ | refine blk_drew ?_ | refine blk_alloc ?_ _)); exact BK470.out) hb)
                      have n2_ := Aside0.mk (below_step (by repeat (first | (with_reducible first | exact HB.out | apply below_alloc | apply pw_below_drewN | apply below_drew1 | refine below_set ?_ GE464.out | refine below_set ?_ GE470.out) | exact HB.out)) hb)
                      have n3_ := Aside0.mk (hbox)
                      have n4_ := Aside0.mk ((by rw [hg]; exact (below_size (by repeat (first | (with_reducible first | exact HB.out | apply below_alloc | apply pw_below_drewN | apply below_drew1 | refine below_set ?_ GE464.out | refine below_set ?_ GE470.out) | exact HB.out))) : w.heap.size ≤ gb480))
                      have n5_ := Aside0.mk ((by rw [hg]; exact (below_size (by repeat (first | (with_reducible first | exact HB.out | apply below_alloc | apply pw_below_drewN | apply below_drew1 | refine below_set ?_ GE464.out | refine below_set ?_ GE470.out) | exact HB.out))) : w.heap.size ≤ gb480))
                      have n6_ := Aside0.mk ((by rw [hg]; exact Nat.ne_of_lt (blk_lt (g := gb464) (o := .cells #[.int .i64 x465000_1, .int .i64 x465001_1, .int .i64 x465002_1, .int .i64 x465003_1, .bool x465004_1] 49 (0, 0)) (by (with_reducible repeat (first | refine blk_drewN ?_ _ | refine blk_drew ?_ | refine blk_alloc ?_ _)); exact BK464.out)) : gb464 ≠ gb480))
                      have n7_ := Aside0.mk ((by rw [hg]; exact Nat.ne_of_gt (blk_lt (g := gb464) (o := .cells #[.int .i64 x465000_1, .int .i64 x465001_1, .int .i64 x465002_1, .int .i64 x465003_1, .bool x465004_1] 49 (0, 0)) (by (with_reducible repeat (first | refine blk_drewN ?_ _ | refine blk_drew ?_ | refine blk_alloc ?_ _)); exact BK464.out)) : gb480 ≠ gb464))
                      have n8_ := Aside0.mk ((by rw [hg]; exact Nat.ne_of_lt (blk_lt (g := gb470) (o := .cells #[.int .i64 x471000_1, .int .i64 x471001_1, .int .i64 x471002_1, .int .i64 x471003_1, .bool x471004_1] 49 (0, 0)) (by (with_reducible repeat (first | refine blk_drewN ?_ _ | refine blk_drew ?_ | refine blk_alloc ?_ _)); exact BK470.out)) : gb470 ≠ gb480))
                      have n9_ := Aside0.mk ((by rw [hg]; exact Nat.ne_of_gt (blk_lt (g := gb470) (o := .cells #[.int .i64 x471000_1, .int .i64 x471001_1, .int .i64 x471002_1, .int .i64 x471003_1, .bool x471004_1] 49 (0, 0)) (by (with_reducible repeat (first | refine blk_drewN ?_ _ | refine blk_drew ?_ | refine blk_alloc ?_ _)); exact BK470.out)) : gb480 ≠ gb470))
                      clear BK464
                      clear BK470
                      clear HB
                      have BK464 := n0_
                      have BK470 := n1_
                      have HB := n2_
                      have BK480 := n3_
                      have GW480 := n4_
                      have GE480 := n5_
                      have NB464_480 := n6_
                      have NB480_464 := n7_
                      have NB470_480 := n8_
                      have NB480_470 := n9_
                      clear n0_ n1_ n2_ n3_ n4_ n5_ n6_ n7_ n8_ n9_
                      clear hb hbox hg
                      refine hK.out _ _ ⟨(blk_cell BK464.out 0).trans rfl, (blk_cell BK464.out 1).trans rfl, (blk_cell BK464.out 2).trans rfl, (blk_cell BK464.out 3).trans rfl, (blk_cell BK464.out 4).trans rfl, ((HB.out.cell (World.block_lt_of_cell? w _ hw471_0)).trans hw471_0), ((HB.out.cell (World.block_lt_of_cell? w _ hw471_1)).trans hw471_1), ((HB.out.cell (World.block_lt_of_cell? w _ hw471_2)).trans hw471_2), ((HB.out.cell (World.block_lt_of_cell? w _ hw472_0)).trans hw472_0), ((HB.out.cell (World.block_lt_of_cell? w _ hw472_1)).trans hw472_1), ((HB.out.cell (World.block_lt_of_cell? w _ hw472_2)).trans hw472_2), ((HB.out.cell (World.block_lt_of_cell? w _ hw473_0)).trans hw473_0), ((HB.out.cell (World.block_lt_of_cell? w _ hw473_1)).trans hw473_1), ((HB.out.cell (World.block_lt_of_cell? w _ hw473_2)).trans hw473_2)⟩ (fun hHeld => ?_)
                      clear hK K
                      refine norm_ (a' := ?_) ?_ ?_
                      rotate_left
                      · show Act.put _ (some 9) _ = _
                        simp only [Act.put, List.setIfInBounds_toArray, List.set_cons_zero, List.set_cons_succ, i64_w, i32_w]
                        rfl
                      exact norm_ (by simp only [putAll, Act.put, List.setIfInBounds_toArray, List.set_cons_zero, List.set_cons_succ]) (hCont (gb480) _ ⟨hHeld, (by (with_reducible repeat (first | refine blk_drewN ?_ _ | refine blk_drew ?_ | refine blk_alloc ?_ _)); exact BK464.out), (by (with_reducible repeat (first | refine blk_drewN ?_ _ | refine blk_drew ?_ | refine blk_alloc ?_ _)); exact BK470.out), (by (with_reducible repeat (first | refine blk_drewN ?_ _ | refine blk_drew ?_ | refine blk_alloc ?_ _)); exact BK480.out), GW480.out, GE480.out, NB464_480.out, NB480_464.out, NB470_480.out, NB480_470.out, (by repeat (first | (with_reducible first | exact HB.out | apply below_alloc | apply pw_below_drewN | apply below_drew1 | refine below_set ?_ GE464.out | refine below_set ?_ GE470.out | refine below_set ?_ GE480.out) | exact HB.out))⟩)
                    · skip
                      refine box_step ?hg (N := 9) ?hd (cs := #[.int .i64 0, .int .i64 0, .int .i64 0, .int .i64 0, .bool false]) (t := 49) ?hr ?_; (case hd => rfl); (case hg => rfl); (case hr => first | (go_simp; done) | (go_simp; rfl))
                      intro gb480 hg w26 hbox hb
                      have n0_ := Aside0.mk (blk_below (g := gb464) (o := .cells #[.int .i64 x465000_1, .int .i64 x465001_1, .int .i64 x465002_1, .int .i64 x465003_1, .bool x465004_1] 49 (0, 0)) (by (with_reducible repeat (first | refine blk_drewN ?_ _ | refine blk_drew ?_ | refine blk_alloc ?_ _)); exact BK464.out) hb)
                      have n1_ := Aside0.mk (blk_below (g := gb470) (o := .cells #[.int .i64 x471000_1, .int .i64 x471001_1, .int .i64 x471002_1, .int .i64 x471003_1, .bool x471004_1] 49 (0, 0)) (by (with_reducible repeat (first | refine blk_drewN ?_ _ | refine blk_drew ?_ | refine blk_alloc ?_ _)); exact BK470.out) hb)
                      have n2_ := Aside0.mk (below_step (by repeat (first | (with_reducible first | exact HB.out | apply below_alloc | apply pw_below_drewN | apply below_drew1 | refine below_set ?_ GE464.out | refine below_set ?_ GE470.out) | exact HB.out)) hb)
                      have n3_ := Aside0.mk (hbox)
                      have n4_ := Aside0.mk ((by rw [hg]; exact (below_size (by repeat (first | (with_reducible first | exact HB.out | apply below_alloc | apply pw_below_drewN | apply below_drew1 | refine below_set ?_ GE464.out | refine below_set ?_ GE470.out) | exact HB.out))) : w.heap.size ≤ gb480))
                      have n5_ := Aside0.mk ((by rw [hg]; exact (below_size (by repeat (first | (with_reducible first | exact HB.out | apply below_alloc | apply pw_below_drewN | apply below_drew1 | refine below_set ?_ GE464.out | refine below_set ?_ GE470.out) | exact HB.out))) : w.heap.size ≤ gb480))
                      have n6_ := Aside0.mk ((by rw [hg]; exact Nat.ne_of_lt (blk_lt (g := gb464) (o := .cells #[.int .i64 x465000_1, .int .i64 x465001_1, .int .i64 x465002_1, .int .i64 x465003_1, .bool x465004_1] 49 (0, 0)) (by (with_reducible repeat (first | refine blk_drewN ?_ _ | refine blk_drew ?_ | refine blk_alloc ?_ _)); exact BK464.out)) : gb464 ≠ gb480))
                      have n7_ := Aside0.mk ((by rw [hg]; exact Nat.ne_of_gt (blk_lt (g := gb464) (o := .cells #[.int .i64 x465000_1, .int .i64 x465001_1, .int .i64 x465002_1, .int .i64 x465003_1, .bool x465004_1] 49 (0, 0)) (by (with_reducible repeat (first | refine blk_drewN ?_ _ | refine blk_drew ?_ | refine blk_alloc ?_ _)); exact BK464.out)) : gb480 ≠ gb464))
                      have n8_ := Aside0.mk ((by rw [hg]; exact Nat.ne_of_lt (blk_lt (g := gb470) (o := .cells #[.int .i64 x471000_1, .int .i64 x471001_1, .int .i64 x471002_1, .int .i64 x471003_1, .bool x471004_1] 49 (0, 0)) (by (with_reducible repeat (first | refine blk_drewN ?_ _ | refine blk_drew ?_ | refine blk_alloc ?_ _)); exact BK470.out)) : gb470 ≠ gb480))
                      have n9_ := Aside0.mk ((by rw [hg]; exact Nat.ne_of_gt (blk_lt (g := gb470) (o := .cells #[.int .i64 x471000_1, .int .i64 x471001_1, .int .i64 x471002_1, .int .i64 x471003_1, .bool x471004_1] 49 (0, 0)) (by (with_reducible repeat (first | refine blk_drewN ?_ _ | refine blk_drew ?_ | refine blk_alloc ?_ _)); exact BK470.out)) : gb480 ≠ gb470))
                      clear BK464
                      clear BK470
                      clear HB
                      have BK464 := n0_
                      have BK470 := n1_
                      have HB := n2_
                      have BK480 := n3_
                      have GW480 := n4_
                      have GE480 := n5_
                      have NB464_480 := n6_
                      have NB480_464 := n7_
                      have NB470_480 := n8_
                      have NB480_470 := n9_
                      clear n0_ n1_ n2_ n3_ n4_ n5_ n6_ n7_ n8_ n9_
                      clear hb hbox hg
                      refine hK.out _ _ ⟨(blk_cell BK464.out 0).trans rfl, (blk_cell BK464.out 1).trans rfl, (blk_cell BK464.out 2).trans rfl, (blk_cell BK464.out 3).trans rfl, (blk_cell BK464.out 4).trans rfl, ((HB.out.cell (World.block_lt_of_cell? w _ hw471_0)).trans hw471_0), ((HB.out.cell (World.block_lt_of_cell? w _ hw471_1)).trans hw471_1), ((HB.out.cell (World.block_lt_of_cell? w _ hw471_2)).trans hw471_2), ((HB.out.cell (World.block_lt_of_cell? w _ hw472_0)).trans hw472_0), ((HB.out.cell (World.block_lt_of_cell? w _ hw472_1)).trans hw472_1), ((HB.out.cell (World.block_lt_of_cell? w _ hw472_2)).trans hw472_2), ((HB.out.cell (World.block_lt_of_cell? w _ hw473_0)).trans hw473_0), ((HB.out.cell (World.block_lt_of_cell? w _ hw473_1)).trans hw473_1), ((HB.out.cell (World.block_lt_of_cell? w _ hw473_2)).trans hw473_2)⟩ (fun hHeld => ?_)
                      clear hK K
                      refine norm_ (a' := ?_) ?_ ?_
                      rotate_left
                      · show Act.put _ (some 9) _ = _
                        simp only [Act.put, List.setIfInBounds_toArray, List.set_cons_zero, List.set_cons_succ, i64_w, i32_w]
                        rfl
                      refine one_ (i := 20) (N := some 51) #[true, true, true, true, true, true, true, true, true, true, true, true, true, true, true, true, true, true, true, true, true, false, false, false, true, false, false] rfl rfl (one_of HT_.out (by kernel_rfl)) (by decide) (fun K hK => ?_)
                      refine goes_ Try.func32 (by kernel_rfl) rfl #[.agg #[.int .i64 x465000_1, .int .i64 x465001_1, .int .i64 x465002_1, .int .i64 x465003_1, .bool x465004_1], .int .i64 (Int.tmod (wrap64 ((rd_T54 l1 x8_1).f0)) 4), .int .i64 (wrap64 ((rd_T54 l1 x8_1).f1)), .int .i64 (wrap64 ((rd_T54 l1 x8_1).f2))] (by rfl) rfl rfl (by (try simp only [List.map_toArray, List.map_cons, List.map_nil]); first | done | rfl | (simp only [List.length_drop, List.length_take]; rfl)) ?_
                      with_reducible refine (servo_Step.calls x465000_1 x465001_1 x465002_1 x465003_1 x465004_1 (Int.tmod (wrap64 ((rd_T54 l1 x8_1).f0)) 4) (wrap64 ((rd_T54 l1 x8_1).f1)) (wrap64 ((rd_T54 l1 x8_1).f2)) t474 t475 t476 t477 t478 t479 _ A18.out).mono ?_
                      rintro e w27 ⟨rfl, hb⟩
                      refine ⟨_, rfl, ?_⟩
                      have n0_ := Aside0.mk (blk_below (g := gb464) (o := .cells #[.int .i64 x465000_1, .int .i64 x465001_1, .int .i64 x465002_1, .int .i64 x465003_1, .bool x465004_1] 49 (0, 0)) (by (with_reducible repeat (first | refine blk_drewN ?_ _ | refine blk_drew ?_ | refine blk_alloc ?_ _)); exact BK464.out) hb)
                      have n1_ := Aside0.mk (blk_below (g := gb470) (o := .cells #[.int .i64 x471000_1, .int .i64 x471001_1, .int .i64 x471002_1, .int .i64 x471003_1, .bool x471004_1] 49 (0, 0)) (by (with_reducible repeat (first | refine blk_drewN ?_ _ | refine blk_drew ?_ | refine blk_alloc ?_ _)); exact BK470.out) hb)
                      have n2_ := Aside0.mk (blk_below (g := gb480) (o := .cells #[.int .i64 0, .int .i64 0, .int .i64 0, .int .i64 0, .bool false] 49 (0, 0)) (by (with_reducible repeat (first | refine blk_drewN ?_ _ | refine blk_drew ?_ | refine blk_alloc ?_ _)); exact BK480.out) hb)
                      have n3_ := Aside0.mk (below_step (by repeat (first | (with_reducible first | exact HB.out | apply below_alloc | apply pw_below_drewN | apply below_drew1 | refine below_set ?_ GE464.out | refine below_set ?_ GE470.out | refine below_set ?_ GE480.out) | exact HB.out)) hb)
                      clear BK464
                      clear BK470
                      clear BK480
                      clear HB
                      have BK464 := n0_
                      have BK470 := n1_
                      have BK480 := n2_
                      have HB := n3_
                      clear n0_ n1_ n2_ n3_
                      (try clear hb)
                      (try clear hb2)
                      (try clear hk)
                      (try clear hi)
                      refine hK.out _ _ ⟨(blk_cell BK464.out 0).trans rfl, (blk_cell BK464.out 1).trans rfl, (blk_cell BK464.out 2).trans rfl, (blk_cell BK464.out 3).trans rfl, (blk_cell BK464.out 4).trans rfl, ((HB.out.cell (World.block_lt_of_cell? w _ hw471_0)).trans hw471_0), ((HB.out.cell (World.block_lt_of_cell? w _ hw471_1)).trans hw471_1), ((HB.out.cell (World.block_lt_of_cell? w _ hw471_2)).trans hw471_2), ((HB.out.cell (World.block_lt_of_cell? w _ hw472_0)).trans hw472_0), ((HB.out.cell (World.block_lt_of_cell? w _ hw472_1)).trans hw472_1), ((HB.out.cell (World.block_lt_of_cell? w _ hw472_2)).trans hw472_2), ((HB.out.cell (World.block_lt_of_cell? w _ hw473_0)).trans hw473_0), ((HB.out.cell (World.block_lt_of_cell? w _ hw473_1)).trans hw473_1), ((HB.out.cell (World.block_lt_of_cell? w _ hw473_2)).trans hw473_2)⟩ (fun hHeld => ?_)
                      clear hK K
                      refine norm_ (a' := ?_) ?_ ?_
                      rotate_left
                      · show Act.put _ (some 51) _ = _
                        simp only [Act.put, List.setIfInBounds_toArray, List.set_cons_zero, List.set_cons_succ, i64_w, i32_w]
                        rfl
                      refine pure_ (i := 21) (N := some 30) (v := ?_) (a' := ?_) #[true, true, true, true, true, true, true, true, true, true, true, true, true, true, true, true, true, true, true, true, true, true, false, false, true, false, false] rfl rfl (any_of HT_.out (by kernel_rfl)) (fun _ _ _ h => h) (Or.inl ⟨by rfl, ?_⟩) ?_ ?_
                      rotate_left
                      · intro w'
                        go_simp
                        with_reducible rfl
                      rotate_left
                      · simp only [Act.put, List.setIfInBounds_toArray, List.set_cons_zero, List.set_cons_succ, i64_w, i32_w]
                        rfl
                      refine pure_ (i := 22) (N := some 52) (v := ?_) (a' := ?_) #[true, true, true, true, true, true, true, true, true, true, true, true, true, true, true, true, true, true, true, true, true, true, true, false, true, false, false] rfl rfl (any_of HT_.out (by kernel_rfl)) (fun _ _ _ h => h) (Or.inl ⟨by rfl, ?_⟩) ?_ ?_
                      rotate_left
                      · intro w'
                        go_simp
                        with_reducible rfl
                      rotate_left
                      · simp only [Act.put, List.setIfInBounds_toArray, List.set_cons_zero, List.set_cons_succ, i64_w, i32_w]
                        rfl
                      refine pure_ (i := 23) (N := some 53) (v := ?_) (a' := ?_) #[true, true, true, true, true, true, true, true, true, true, true, true, true, true, true, true, true, true, true, true, true, true, true, true, true, false, false] rfl rfl (any_of HT_.out (by kernel_rfl)) (fun _ _ _ h => h) (Or.inl ⟨by rfl, ?_⟩) ?_ ?_
                      rotate_left
                      · intro w'
                        go_simp
                        with_reducible rfl
                      rotate_left
                      · simp only [Act.put, List.setIfInBounds_toArray, List.set_cons_zero, List.set_cons_succ, i64_w, i32_w]
                        rfl
                      exact norm_ (by simp only [putAll, Act.put, List.setIfInBounds_toArray, List.set_cons_zero, List.set_cons_succ]) (hCont (gb480) _ ⟨hHeld, (by (with_reducible repeat (first | refine blk_drewN ?_ _ | refine blk_drew ?_ | refine blk_alloc ?_ _)); exact BK464.out), (by (with_reducible repeat (first | refine blk_drewN ?_ _ | refine blk_drew ?_ | refine blk_alloc ?_ _)); exact BK470.out), (by (with_reducible repeat (first | refine blk_drewN ?_ _ | refine blk_drew ?_ | refine blk_alloc ?_ _)); exact BK480.out), GW480.out, GE480.out, NB464_480.out, NB480_464.out, NB470_480.out, NB480_470.out, (by repeat (first | (with_reducible first | exact HB.out | apply below_alloc | apply pw_below_drewN | apply below_drew1 | refine below_set ?_ GE464.out | refine below_set ?_ GE470.out | refine below_set ?_ GE480.out) | exact HB.out))⟩)
                  rintro gb480 w28 ⟨hS_, h0_, h1_, h2_, h3_, h4_, h5_, h6_, h7_, h8_, h9_⟩
                  have n0_ : Aside0 (w28.heap[gb464]? = some (.cells #[.int .i64 x465000_1, .int .i64 x465001_1, .int .i64 x465002_1, .int .i64 x465003_1, .bool x465004_1] 49 (0, 0))) := ⟨h0_⟩
                  have n1_ : Aside0 (w28.heap[gb470]? = some (.cells #[.int .i64 x471000_1, .int .i64 x471001_1, .int .i64 x471002_1, .int .i64 x471003_1, .bool x471004_1] 49 (0, 0))) := ⟨h1_⟩
                  have n2_ : Aside0 (w28.heap[gb480]? = some (.cells #[.int .i64 0, .int .i64 0, .int .i64 0, .int .i64 0, .bool false] 49 (0, 0))) := ⟨h2_⟩
                  have n3_ : Aside0 (w.heap.size ≤ gb480) := ⟨h3_⟩
                  have n4_ : Aside0 (w.heap.size ≤ gb480) := ⟨h4_⟩
                  have n5_ : Aside0 (gb464 ≠ gb480) := ⟨h5_⟩
                  have n6_ : Aside0 (gb480 ≠ gb464) := ⟨h6_⟩
                  have n7_ : Aside0 (gb470 ≠ gb480) := ⟨h7_⟩
                  have n8_ : Aside0 (gb480 ≠ gb470) := ⟨h8_⟩
                  have n9_ : Aside0 (Below w.heap.size w w28) := ⟨h9_⟩
                  clear BK464
                  clear BK470
                  clear HB
                  clear h0_ h1_ h2_ h3_ h4_ h5_ h6_ h7_ h8_ h9_
                  have BK464 := n0_
                  have BK470 := n1_
                  have BK480 := n2_
                  have GW480 := n3_
                  have GE480 := n4_
                  have NB464_480 := n5_
                  have NB480_464 := n6_
                  have NB470_480 := n7_
                  have NB480_470 := n8_
                  have HB := n9_
                  clear n0_ n1_ n2_ n3_ n4_ n5_ n6_ n7_ n8_ n9_
                  have hHeld : w28.cell? ⟨gb464, 0, none⟩ = some (.int .i64 x465000_1) ∧ w28.cell? ⟨gb464, 1, none⟩ = some (.int .i64 x465001_1) ∧ w28.cell? ⟨gb464, 2, none⟩ = some (.int .i64 x465002_1) ∧ w28.cell? ⟨gb464, 3, none⟩ = some (.int .i64 x465003_1) ∧ w28.cell? ⟨gb464, 4, none⟩ = some (.bool x465004_1) ∧ w28.cell? (ad471.add ((x8_1).toNat * 3)) = some (.int .u8 ((rd_T54 l1 x8_1).f0)) ∧ w28.cell? ⟨(ad471.add ((x8_1).toNat * 3)).block, (ad471.add ((x8_1).toNat * 3)).off + 1, none⟩ = some (.int .i16 ((rd_T54 l1 x8_1).f1)) ∧ w28.cell? ⟨(ad471.add ((x8_1).toNat * 3)).block, (ad471.add ((x8_1).toNat * 3)).off + 2, none⟩ = some (.int .i16 ((rd_T54 l1 x8_1).f2)) ∧ w28.cell? (ad471.add ((x8_1).toNat * 3)) = some (.int .u8 ((rd_T54 l1 x8_1).f0)) ∧ w28.cell? ⟨(ad471.add ((x8_1).toNat * 3)).block, (ad471.add ((x8_1).toNat * 3)).off + 1, none⟩ = some (.int .i16 ((rd_T54 l1 x8_1).f1)) ∧ w28.cell? ⟨(ad471.add ((x8_1).toNat * 3)).block, (ad471.add ((x8_1).toNat * 3)).off + 2, none⟩ = some (.int .i16 ((rd_T54 l1 x8_1).f2)) ∧ w28.cell? (ad471.add ((x8_1).toNat * 3)) = some (.int .u8 ((rd_T54 l1 x8_1).f0)) ∧ w28.cell? ⟨(ad471.add ((x8_1).toNat * 3)).block, (ad471.add ((x8_1).toNat * 3)).off + 1, none⟩ = some (.int .i16 ((rd_T54 l1 x8_1).f1)) ∧ w28.cell? ⟨(ad471.add ((x8_1).toNat * 3)).block, (ad471.add ((x8_1).toNat * 3)).off + 2, none⟩ = some (.int .i16 ((rd_T54 l1 x8_1).f2)) := hS_
                  refine norm_ (a' := ?_) ?_ ?_
                  rotate_left
                  · simp only [putAll, Act.put, List.setIfInBounds_toArray, List.set_cons_zero, List.set_cons_succ]
                    rfl
                  refine one_ (i := 25) (N := none) #[true, true, true, true, true, true, true, true, true, true, true, true, true, true, true, true, true, true, true, true, true, true, true, true, true, true, false] rfl rfl (one_of HT_.out (by kernel_rfl)) (by decide) (fun K hK => ?_)
                  have hs29 : w28.cell? ⟨gb480, 0, none⟩ = some (.int .i64 0) := (blk_cell BK480.out 0).trans rfl
                  have hfs29 := blk_frozen BK480.out 0
                  have hns29_0 := NB464_480.out
                  have hns29_1 := NB470_480.out
                  have hms29_0 := NB480_464.out
                  have hms29_1 := NB480_470.out
                  have hs30 : w28.cell? ⟨gb480, 1, none⟩ = some (.int .i64 0) := (blk_cell BK480.out 1).trans rfl
                  have hfs30 := blk_frozen BK480.out 1
                  have hns30_0 := NB464_480.out
                  have hns30_1 := NB470_480.out
                  have hms30_0 := NB480_464.out
                  have hms30_1 := NB480_470.out
                  have hs31 : w28.cell? ⟨gb480, 2, none⟩ = some (.int .i64 0) := (blk_cell BK480.out 2).trans rfl
                  have hfs31 := blk_frozen BK480.out 2
                  have hns31_0 := NB464_480.out
                  have hns31_1 := NB470_480.out
                  have hms31_0 := NB480_464.out
                  have hms31_1 := NB480_470.out
                  have hs32 : w28.cell? ⟨gb480, 3, none⟩ = some (.int .i64 0) := (blk_cell BK480.out 3).trans rfl
                  have hfs32 := blk_frozen BK480.out 3
                  have hns32_0 := NB464_480.out
                  have hns32_1 := NB470_480.out
                  have hms32_0 := NB480_464.out
                  have hms32_1 := NB480_470.out
                  have hs33 : w28.cell? ⟨gb480, 4, none⟩ = some (.bool false) := (blk_cell BK480.out 4).trans rfl
                  have hfs33 := blk_frozen BK480.out 4
                  have hns33_0 := NB464_480.out
                  have hns33_1 := NB470_480.out
                  have hms33_0 := NB480_464.out
                  have hms33_1 := NB480_470.out
                  refine skip_ (w1 := ?_) (by rfl) rfl ?_ ?_
                  rotate_left
                  · go_simp
                    rfl
                  refine hK.out _ _ ⟨((cell_far (p := ⟨gb480, _, none⟩) NB464_480.out _).trans (((cell_far (p := ⟨gb480, _, none⟩) NB464_480.out _).trans (((cell_far (p := ⟨gb480, _, none⟩) NB464_480.out _).trans (((cell_far (p := ⟨gb480, _, none⟩) NB464_480.out _).trans (((cell_far (p := ⟨gb480, _, none⟩) NB464_480.out _).trans (hHeld.1)))))))))), ((cell_far (p := ⟨gb480, _, none⟩) NB464_480.out _).trans (((cell_far (p := ⟨gb480, _, none⟩) NB464_480.out _).trans (((cell_far (p := ⟨gb480, _, none⟩) NB464_480.out _).trans (((cell_far (p := ⟨gb480, _, none⟩) NB464_480.out _).trans (((cell_far (p := ⟨gb480, _, none⟩) NB464_480.out _).trans (hHeld.2.1)))))))))), ((cell_far (p := ⟨gb480, _, none⟩) NB464_480.out _).trans (((cell_far (p := ⟨gb480, _, none⟩) NB464_480.out _).trans (((cell_far (p := ⟨gb480, _, none⟩) NB464_480.out _).trans (((cell_far (p := ⟨gb480, _, none⟩) NB464_480.out _).trans (((cell_far (p := ⟨gb480, _, none⟩) NB464_480.out _).trans (hHeld.2.2.1)))))))))), ((cell_far (p := ⟨gb480, _, none⟩) NB464_480.out _).trans (((cell_far (p := ⟨gb480, _, none⟩) NB464_480.out _).trans (((cell_far (p := ⟨gb480, _, none⟩) NB464_480.out _).trans (((cell_far (p := ⟨gb480, _, none⟩) NB464_480.out _).trans (((cell_far (p := ⟨gb480, _, none⟩) NB464_480.out _).trans (hHeld.2.2.2.1)))))))))), ((cell_far (p := ⟨gb480, _, none⟩) NB464_480.out _).trans (((cell_far (p := ⟨gb480, _, none⟩) NB464_480.out _).trans (((cell_far (p := ⟨gb480, _, none⟩) NB464_480.out _).trans (((cell_far (p := ⟨gb480, _, none⟩) NB464_480.out _).trans (((cell_far (p := ⟨gb480, _, none⟩) NB464_480.out _).trans (hHeld.2.2.2.2.1)))))))))), ((cell_far (p := ⟨gb480, _, none⟩) (by first | exact Nat.ne_of_lt (Nat.lt_of_lt_of_le (by have := World.block_lt_of_cell? _ _ hw471_0; first | rwa [add_block] at this | exact this) GW480.out) | (rw [add_block]; exact Nat.ne_of_lt (Nat.lt_of_lt_of_le (by have := World.block_lt_of_cell? _ _ hw471_0; first | rwa [add_block] at this | exact this) GW480.out)) | (show (Addr.add _ _).block ≠ _; rw [add_block]; exact Nat.ne_of_lt (Nat.lt_of_lt_of_le (by have := World.block_lt_of_cell? _ _ hw471_0; first | rwa [add_block] at this | exact this) GW480.out)) | (dsimp only; exact Nat.ne_of_lt (Nat.lt_of_lt_of_le (by have := World.block_lt_of_cell? _ _ hw471_0; first | rwa [add_block] at this | exact this) GW480.out))) _).trans (((cell_far (p := ⟨gb480, _, none⟩) (by first | exact Nat.ne_of_lt (Nat.lt_of_lt_of_le (by have := World.block_lt_of_cell? _ _ hw471_0; first | rwa [add_block] at this | exact this) GW480.out) | (rw [add_block]; exact Nat.ne_of_lt (Nat.lt_of_lt_of_le (by have := World.block_lt_of_cell? _ _ hw471_0; first | rwa [add_block] at this | exact this) GW480.out)) | (show (Addr.add _ _).block ≠ _; rw [add_block]; exact Nat.ne_of_lt (Nat.lt_of_lt_of_le (by have := World.block_lt_of_cell? _ _ hw471_0; first | rwa [add_block] at this | exact this) GW480.out)) | (dsimp only; exact Nat.ne_of_lt (Nat.lt_of_lt_of_le (by have := World.block_lt_of_cell? _ _ hw471_0; first | rwa [add_block] at this | exact this) GW480.out))) _).trans (((cell_far (p := ⟨gb480, _, none⟩) (by first | exact Nat.ne_of_lt (Nat.lt_of_lt_of_le (by have := World.block_lt_of_cell? _ _ hw471_0; first | rwa [add_block] at this | exact this) GW480.out) | (rw [add_block]; exact Nat.ne_of_lt (Nat.lt_of_lt_of_le (by have := World.block_lt_of_cell? _ _ hw471_0; first | rwa [add_block] at this | exact this) GW480.out)) | (show (Addr.add _ _).block ≠ _; rw [add_block]; exact Nat.ne_of_lt (Nat.lt_of_lt_of_le (by have := World.block_lt_of_cell? _ _ hw471_0; first | rwa [add_block] at this | exact this) GW480.out)) | (dsimp only; exact Nat.ne_of_lt (Nat.lt_of_lt_of_le (by have := World.block_lt_of_cell? _ _ hw471_0; first | rwa [add_block] at this | exact this) GW480.out))) _).trans (((cell_far (p := ⟨gb480, _, none⟩) (by first | exact Nat.ne_of_lt (Nat.lt_of_lt_of_le (by have := World.block_lt_of_cell? _ _ hw471_0; first | rwa [add_block] at this | exact this) GW480.out) | (rw [add_block]; exact Nat.ne_of_lt (Nat.lt_of_lt_of_le (by have := World.block_lt_of_cell? _ _ hw471_0; first | rwa [add_block] at this | exact this) GW480.out)) | (show (Addr.add _ _).block ≠ _; rw [add_block]; exact Nat.ne_of_lt (Nat.lt_of_lt_of_le (by have := World.block_lt_of_cell? _ _ hw471_0; first | rwa [add_block] at this | exact this) GW480.out)) | (dsimp only; exact Nat.ne_of_lt (Nat.lt_of_lt_of_le (by have := World.block_lt_of_cell? _ _ hw471_0; first | rwa [add_block] at this | exact this) GW480.out))) _).trans (((cell_far (p := ⟨gb480, _, none⟩) (by first | exact Nat.ne_of_lt (Nat.lt_of_lt_of_le (by have := World.block_lt_of_cell? _ _ hw471_0; first | rwa [add_block] at this | exact this) GW480.out) | (rw [add_block]; exact Nat.ne_of_lt (Nat.lt_of_lt_of_le (by have := World.block_lt_of_cell? _ _ hw471_0; first | rwa [add_block] at this | exact this) GW480.out)) | (show (Addr.add _ _).block ≠ _; rw [add_block]; exact Nat.ne_of_lt (Nat.lt_of_lt_of_le (by have := World.block_lt_of_cell? _ _ hw471_0; first | rwa [add_block] at this | exact this) GW480.out)) | (dsimp only; exact Nat.ne_of_lt (Nat.lt_of_lt_of_le (by have := World.block_lt_of_cell? _ _ hw471_0; first | rwa [add_block] at this | exact this) GW480.out))) _).trans (hHeld.2.2.2.2.2.1)))))))))), ((cell_far (p := ⟨gb480, _, none⟩) (by first | exact Nat.ne_of_lt (Nat.lt_of_lt_of_le (by have := World.block_lt_of_cell? _ _ hw471_1; first | rwa [add_block] at this | exact this) GW480.out) | (rw [add_block]; exact Nat.ne_of_lt (Nat.lt_of_lt_of_le (by have := World.block_lt_of_cell? _ _ hw471_1; first | rwa [add_block] at this | exact this) GW480.out)) | (show (Addr.add _ _).block ≠ _; rw [add_block]; exact Nat.ne_of_lt (Nat.lt_of_lt_of_le (by have := World.block_lt_of_cell? _ _ hw471_1; first | rwa [add_block] at this | exact this) GW480.out)) | (dsimp only; exact Nat.ne_of_lt (Nat.lt_of_lt_of_le (by have := World.block_lt_of_cell? _ _ hw471_1; first | rwa [add_block] at this | exact this) GW480.out))) _).trans (((cell_far (p := ⟨gb480, _, none⟩) (by first | exact Nat.ne_of_lt (Nat.lt_of_lt_of_le (by have := World.block_lt_of_cell? _ _ hw471_1; first | rwa [add_block] at this | exact this) GW480.out) | (rw [add_block]; exact Nat.ne_of_lt (Nat.lt_of_lt_of_le (by have := World.block_lt_of_cell? _ _ hw471_1; first | rwa [add_block] at this | exact this) GW480.out)) | (show (Addr.add _ _).block ≠ _; rw [add_block]; exact Nat.ne_of_lt (Nat.lt_of_lt_of_le (by have := World.block_lt_of_cell? _ _ hw471_1; first | rwa [add_block] at this | exact this) GW480.out)) | (dsimp only; exact Nat.ne_of_lt (Nat.lt_of_lt_of_le (by have := World.block_lt_of_cell? _ _ hw471_1; first | rwa [add_block] at this | exact this) GW480.out))) _).trans (((cell_far (p := ⟨gb480, _, none⟩) (by first | exact Nat.ne_of_lt (Nat.lt_of_lt_of_le (by have := World.block_lt_of_cell? _ _ hw471_1; first | rwa [add_block] at this | exact this) GW480.out) | (rw [add_block]; exact Nat.ne_of_lt (Nat.lt_of_lt_of_le (by have := World.block_lt_of_cell? _ _ hw471_1; first | rwa [add_block] at this | exact this) GW480.out)) | (show (Addr.add _ _).block ≠ _; rw [add_block]; exact Nat.ne_of_lt (Nat.lt_of_lt_of_le (by have := World.block_lt_of_cell? _ _ hw471_1; first | rwa [add_block] at this | exact this) GW480.out)) | (dsimp only; exact Nat.ne_of_lt (Nat.lt_of_lt_of_le (by have := World.block_lt_of_cell? _ _ hw471_1; first | rwa [add_block] at this | exact this) GW480.out))) _).trans (((cell_far (p := ⟨gb480, _, none⟩) (by first | exact Nat.ne_of_lt (Nat.lt_of_lt_of_le (by have := World.block_lt_of_cell? _ _ hw471_1; first | rwa [add_block] at this | exact this) GW480.out) | (rw [add_block]; exact Nat.ne_of_lt (Nat.lt_of_lt_of_le (by have := World.block_lt_of_cell? _ _ hw471_1; first | rwa [add_block] at this | exact this) GW480.out)) | (show (Addr.add _ _).block ≠ _; rw [add_block]; exact Nat.ne_of_lt (Nat.lt_of_lt_of_le (by have := World.block_lt_of_cell? _ _ hw471_1; first | rwa [add_block] at this | exact this) GW480.out)) | (dsimp only; exact Nat.ne_of_lt (Nat.lt_of_lt_of_le (by have := World.block_lt_of_cell? _ _ hw471_1; first | rwa [add_block] at this | exact this) GW480.out))) _).trans (((cell_far (p := ⟨gb480, _, none⟩) (by first | exact Nat.ne_of_lt (Nat.lt_of_lt_of_le (by have := World.block_lt_of_cell? _ _ hw471_1; first | rwa [add_block] at this | exact this) GW480.out) | (rw [add_block]; exact Nat.ne_of_lt (Nat.lt_of_lt_of_le (by have := World.block_lt_of_cell? _ _ hw471_1; first | rwa [add_block] at this | exact this) GW480.out)) | (show (Addr.add _ _).block ≠ _; rw [add_block]; exact Nat.ne_of_lt (Nat.lt_of_lt_of_le (by have := World.block_lt_of_cell? _ _ hw471_1; first | rwa [add_block] at this | exact this) GW480.out)) | (dsimp only; exact Nat.ne_of_lt (Nat.lt_of_lt_of_le (by have := World.block_lt_of_cell? _ _ hw471_1; first | rwa [add_block] at this | exact this) GW480.out))) _).trans (hHeld.2.2.2.2.2.2.1)))))))))), ((cell_far (p := ⟨gb480, _, none⟩) (by first | exact Nat.ne_of_lt (Nat.lt_of_lt_of_le (by have := World.block_lt_of_cell? _ _ hw471_2; first | rwa [add_block] at this | exact this) GW480.out) | (rw [add_block]; exact Nat.ne_of_lt (Nat.lt_of_lt_of_le (by have := World.block_lt_of_cell? _ _ hw471_2; first | rwa [add_block] at this | exact this) GW480.out)) | (show (Addr.add _ _).block ≠ _; rw [add_block]; exact Nat.ne_of_lt (Nat.lt_of_lt_of_le (by have := World.block_lt_of_cell? _ _ hw471_2; first | rwa [add_block] at this | exact this) GW480.out)) | (dsimp only; exact Nat.ne_of_lt (Nat.lt_of_lt_of_le (by have := World.block_lt_of_cell? _ _ hw471_2; first | rwa [add_block] at this | exact this) GW480.out))) _).trans (((cell_far (p := ⟨gb480, _, none⟩) (by first | exact Nat.ne_of_lt (Nat.lt_of_lt_of_le (by have := World.block_lt_of_cell? _ _ hw471_2; first | rwa [add_block] at this | exact this) GW480.out) | (rw [add_block]; exact Nat.ne_of_lt (Nat.lt_of_lt_of_le (by have := World.block_lt_of_cell? _ _ hw471_2; first | rwa [add_block] at this | exact this) GW480.out)) | (show (Addr.add _ _).block ≠ _; rw [add_block]; exact Nat.ne_of_lt (Nat.lt_of_lt_of_le (by have := World.block_lt_of_cell? _ _ hw471_2; first | rwa [add_block] at this | exact this) GW480.out)) | (dsimp only; exact Nat.ne_of_lt (Nat.lt_of_lt_of_le (by have := World.block_lt_of_cell? _ _ hw471_2; first | rwa [add_block] at this | exact this) GW480.out))) _).trans (((cell_far (p := ⟨gb480, _, none⟩) (by first | exact Nat.ne_of_lt (Nat.lt_of_lt_of_le (by have := World.block_lt_of_cell? _ _ hw471_2; first | rwa [add_block] at this | exact this) GW480.out) | (rw [add_block]; exact Nat.ne_of_lt (Nat.lt_of_lt_of_le (by have := World.block_lt_of_cell? _ _ hw471_2; first | rwa [add_block] at this | exact this) GW480.out)) | (show (Addr.add _ _).block ≠ _; rw [add_block]; exact Nat.ne_of_lt (Nat.lt_of_lt_of_le (by have := World.block_lt_of_cell? _ _ hw471_2; first | rwa [add_block] at this | exact this) GW480.out)) | (dsimp only; exact Nat.ne_of_lt (Nat.lt_of_lt_of_le (by have := World.block_lt_of_cell? _ _ hw471_2; first | rwa [add_block] at this | exact this) GW480.out))) _).trans (((cell_far (p := ⟨gb480, _, none⟩) (by first | exact Nat.ne_of_lt (Nat.lt_of_lt_of_le (by have := World.block_lt_of_cell? _ _ hw471_2; first | rwa [add_block] at this | exact this) GW480.out) | (rw [add_block]; exact Nat.ne_of_lt (Nat.lt_of_lt_of_le (by have := World.block_lt_of_cell? _ _ hw471_2; first | rwa [add_block] at this | exact this) GW480.out)) | (show (Addr.add _ _).block ≠ _; rw [add_block]; exact Nat.ne_of_lt (Nat.lt_of_lt_of_le (by have := World.block_lt_of_cell? _ _ hw471_2; first | rwa [add_block] at this | exact this) GW480.out)) | (dsimp only; exact Nat.ne_of_lt (Nat.lt_of_lt_of_le (by have := World.block_lt_of_cell? _ _ hw471_2; first | rwa [add_block] at this | exact this) GW480.out))) _).trans (((cell_far (p := ⟨gb480, _, none⟩) (by first | exact Nat.ne_of_lt (Nat.lt_of_lt_of_le (by have := World.block_lt_of_cell? _ _ hw471_2; first | rwa [add_block] at this | exact this) GW480.out) | (rw [add_block]; exact Nat.ne_of_lt (Nat.lt_of_lt_of_le (by have := World.block_lt_of_cell? _ _ hw471_2; first | rwa [add_block] at this | exact this) GW480.out)) | (show (Addr.add _ _).block ≠ _; rw [add_block]; exact Nat.ne_of_lt (Nat.lt_of_lt_of_le (by have := World.block_lt_of_cell? _ _ hw471_2; first | rwa [add_block] at this | exact this) GW480.out)) | (dsimp only; exact Nat.ne_of_lt (Nat.lt_of_lt_of_le (by have := World.block_lt_of_cell? _ _ hw471_2; first | rwa [add_block] at this | exact this) GW480.out))) _).trans (hHeld.2.2.2.2.2.2.2.1)))))))))), ((cell_far (p := ⟨gb480, _, none⟩) (by first | exact Nat.ne_of_lt (Nat.lt_of_lt_of_le (by have := World.block_lt_of_cell? _ _ hw472_0; first | rwa [add_block] at this | exact this) GW480.out) | (rw [add_block]; exact Nat.ne_of_lt (Nat.lt_of_lt_of_le (by have := World.block_lt_of_cell? _ _ hw472_0; first | rwa [add_block] at this | exact this) GW480.out)) | (show (Addr.add _ _).block ≠ _; rw [add_block]; exact Nat.ne_of_lt (Nat.lt_of_lt_of_le (by have := World.block_lt_of_cell? _ _ hw472_0; first | rwa [add_block] at this | exact this) GW480.out)) | (dsimp only; exact Nat.ne_of_lt (Nat.lt_of_lt_of_le (by have := World.block_lt_of_cell? _ _ hw472_0; first | rwa [add_block] at this | exact this) GW480.out))) _).trans (((cell_far (p := ⟨gb480, _, none⟩) (by first | exact Nat.ne_of_lt (Nat.lt_of_lt_of_le (by have := World.block_lt_of_cell? _ _ hw472_0; first | rwa [add_block] at this | exact this) GW480.out) | (rw [add_block]; exact Nat.ne_of_lt (Nat.lt_of_lt_of_le (by have := World.block_lt_of_cell? _ _ hw472_0; first | rwa [add_block] at this | exact this) GW480.out)) | (show (Addr.add _ _).block ≠ _; rw [add_block]; exact Nat.ne_of_lt (Nat.lt_of_lt_of_le (by have := World.block_lt_of_cell? _ _ hw472_0; first | rwa [add_block] at this | exact this) GW480.out)) | (dsimp only; exact Nat.ne_of_lt (Nat.lt_of_lt_of_le (by have := World.block_lt_of_cell? _ _ hw472_0; first | rwa [add_block] at this | exact this) GW480.out))) _).trans (((cell_far (p := ⟨gb480, _, none⟩) (by first | exact Nat.ne_of_lt (Nat.lt_of_lt_of_le (by have := World.block_lt_of_cell? _ _ hw472_0; first | rwa [add_block] at this | exact this) GW480.out) | (rw [add_block]; exact Nat.ne_of_lt (Nat.lt_of_lt_of_le (by have := World.block_lt_of_cell? _ _ hw472_0; first | rwa [add_block] at this | exact this) GW480.out)) | (show (Addr.add _ _).block ≠ _; rw [add_block]; exact Nat.ne_of_lt (Nat.lt_of_lt_of_le (by have := World.block_lt_of_cell? _ _ hw472_0; first | rwa [add_block] at this | exact this) GW480.out)) | (dsimp only; exact Nat.ne_of_lt (Nat.lt_of_lt_of_le (by have := World.block_lt_of_cell? _ _ hw472_0; first | rwa [add_block] at this | exact this) GW480.out))) _).trans (((cell_far (p := ⟨gb480, _, none⟩) (by first | exact Nat.ne_of_lt (Nat.lt_of_lt_of_le (by have := World.block_lt_of_cell? _ _ hw472_0; first | rwa [add_block] at this | exact this) GW480.out) | (rw [add_block]; exact Nat.ne_of_lt (Nat.lt_of_lt_of_le (by have := World.block_lt_of_cell? _ _ hw472_0; first | rwa [add_block] at this | exact this) GW480.out)) | (show (Addr.add _ _).block ≠ _; rw [add_block]; exact Nat.ne_of_lt (Nat.lt_of_lt_of_le (by have := World.block_lt_of_cell? _ _ hw472_0; first | rwa [add_block] at this | exact this) GW480.out)) | (dsimp only; exact Nat.ne_of_lt (Nat.lt_of_lt_of_le (by have := World.block_lt_of_cell? _ _ hw472_0; first | rwa [add_block] at this | exact this) GW480.out))) _).trans (((cell_far (p := ⟨gb480, _, none⟩) (by first | exact Nat.ne_of_lt (Nat.lt_of_lt_of_le (by have := World.block_lt_of_cell? _ _ hw472_0; first | rwa [add_block] at this | exact this) GW480.out) | (rw [add_block]; exact Nat.ne_of_lt (Nat.lt_of_lt_of_le (by have := World.block_lt_of_cell? _ _ hw472_0; first | rwa [add_block] at this | exact this) GW480.out)) | (show (Addr.add _ _).block ≠ _; rw [add_block]; exact Nat.ne_of_lt (Nat.lt_of_lt_of_le (by have := World.block_lt_of_cell? _ _ hw472_0; first | rwa [add_block] at this | exact this) GW480.out)) | (dsimp only; exact Nat.ne_of_lt (Nat.lt_of_lt_of_le (by have := World.block_lt_of_cell? _ _ hw472_0; first | rwa [add_block] at this | exact this) GW480.out))) _).trans (hHeld.2.2.2.2.2.2.2.2.1)))))))))), ((cell_far (p := ⟨gb480, _, none⟩) (by first | exact Nat.ne_of_lt (Nat.lt_of_lt_of_le (by have := World.block_lt_of_cell? _ _ hw472_1; first | rwa [add_block] at this | exact this) GW480.out) | (rw [add_block]; exact Nat.ne_of_lt (Nat.lt_of_lt_of_le (by have := World.block_lt_of_cell? _ _ hw472_1; first | rwa [add_block] at this | exact this) GW480.out)) | (show (Addr.add _ _).block ≠ _; rw [add_block]; exact Nat.ne_of_lt (Nat.lt_of_lt_of_le (by have := World.block_lt_of_cell? _ _ hw472_1; first | rwa [add_block] at this | exact this) GW480.out)) | (dsimp only; exact Nat.ne_of_lt (Nat.lt_of_lt_of_le (by have := World.block_lt_of_cell? _ _ hw472_1; first | rwa [add_block] at this | exact this) GW480.out))) _).trans (((cell_far (p := ⟨gb480, _, none⟩) (by first | exact Nat.ne_of_lt (Nat.lt_of_lt_of_le (by have := World.block_lt_of_cell? _ _ hw472_1; first | rwa [add_block] at this | exact this) GW480.out) | (rw [add_block]; exact Nat.ne_of_lt (Nat.lt_of_lt_of_le (by have := World.block_lt_of_cell? _ _ hw472_1; first | rwa [add_block] at this | exact this) GW480.out)) | (show (Addr.add _ _).block ≠ _; rw [add_block]; exact Nat.ne_of_lt (Nat.lt_of_lt_of_le (by have := World.block_lt_of_cell? _ _ hw472_1; first | rwa [add_block] at this | exact this) GW480.out)) | (dsimp only; exact Nat.ne_of_lt (Nat.lt_of_lt_of_le (by have := World.block_lt_of_cell? _ _ hw472_1; first | rwa [add_block] at this | exact this) GW480.out))) _).trans (((cell_far (p := ⟨gb480, _, none⟩) (by first | exact Nat.ne_of_lt (Nat.lt_of_lt_of_le (by have := World.block_lt_of_cell? _ _ hw472_1; first | rwa [add_block] at this | exact this) GW480.out) | (rw [add_block]; exact Nat.ne_of_lt (Nat.lt_of_lt_of_le (by have := World.block_lt_of_cell? _ _ hw472_1; first | rwa [add_block] at this | exact this) GW480.out)) | (show (Addr.add _ _).block ≠ _; rw [add_block]; exact Nat.ne_of_lt (Nat.lt_of_lt_of_le (by have := World.block_lt_of_cell? _ _ hw472_1; first | rwa [add_block] at this | exact this) GW480.out)) | (dsimp only; exact Nat.ne_of_lt (Nat.lt_of_lt_of_le (by have := World.block_lt_of_cell? _ _ hw472_1; first | rwa [add_block] at this | exact this) GW480.out))) _).trans (((cell_far (p := ⟨gb480, _, none⟩) (by first | exact Nat.ne_of_lt (Nat.lt_of_lt_of_le (by have := World.block_lt_of_cell? _ _ hw472_1; first | rwa [add_block] at this | exact this) GW480.out) | (rw [add_block]; exact Nat.ne_of_lt (Nat.lt_of_lt_of_le (by have := World.block_lt_of_cell? _ _ hw472_1; first | rwa [add_block] at this | exact this) GW480.out)) | (show (Addr.add _ _).block ≠ _; rw [add_block]; exact Nat.ne_of_lt (Nat.lt_of_lt_of_le (by have := World.block_lt_of_cell? _ _ hw472_1; first | rwa [add_block] at this | exact this) GW480.out)) | (dsimp only; exact Nat.ne_of_lt (Nat.lt_of_lt_of_le (by have := World.block_lt_of_cell? _ _ hw472_1; first | rwa [add_block] at this | exact this) GW480.out))) _).trans (((cell_far (p := ⟨gb480, _, none⟩) (by first | exact Nat.ne_of_lt (Nat.lt_of_lt_of_le (by have := World.block_lt_of_cell? _ _ hw472_1; first | rwa [add_block] at this | exact this) GW480.out) | (rw [add_block]; exact Nat.ne_of_lt (Nat.lt_of_lt_of_le (by have := World.block_lt_of_cell? _ _ hw472_1; first | rwa [add_block] at this | exact this) GW480.out)) | (show (Addr.add _ _).block ≠ _; rw [add_block]; exact Nat.ne_of_lt (Nat.lt_of_lt_of_le (by have := World.block_lt_of_cell? _ _ hw472_1; first | rwa [add_block] at this | exact this) GW480.out)) | (dsimp only; exact Nat.ne_of_lt (Nat.lt_of_lt_of_le (by have := World.block_lt_of_cell? _ _ hw472_1; first | rwa [add_block] at this | exact this) GW480.out))) _).trans (hHeld.2.2.2.2.2.2.2.2.2.1)))))))))), ((cell_far (p := ⟨gb480, _, none⟩) (by first | exact Nat.ne_of_lt (Nat.lt_of_lt_of_le (by have := World.block_lt_of_cell? _ _ hw472_2; first | rwa [add_block] at this | exact this) GW480.out) | (rw [add_block]; exact Nat.ne_of_lt (Nat.lt_of_lt_of_le (by have := World.block_lt_of_cell? _ _ hw472_2; first | rwa [add_block] at this | exact this) GW480.out)) | (show (Addr.add _ _).block ≠ _; rw [add_block]; exact Nat.ne_of_lt (Nat.lt_of_lt_of_le (by have := World.block_lt_of_cell? _ _ hw472_2; first | rwa [add_block] at this | exact this) GW480.out)) | (dsimp only; exact Nat.ne_of_lt (Nat.lt_of_lt_of_le (by have := World.block_lt_of_cell? _ _ hw472_2; first | rwa [add_block] at this | exact this) GW480.out))) _).trans (((cell_far (p := ⟨gb480, _, none⟩) (by first | exact Nat.ne_of_lt (Nat.lt_of_lt_of_le (by have := World.block_lt_of_cell? _ _ hw472_2; first | rwa [add_block] at this | exact this) GW480.out) | (rw [add_block]; exact Nat.ne_of_lt (Nat.lt_of_lt_of_le (by have := World.block_lt_of_cell? _ _ hw472_2; first | rwa [add_block] at this | exact this) GW480.out)) | (show (Addr.add _ _).block ≠ _; rw [add_block]; exact Nat.ne_of_lt (Nat.lt_of_lt_of_le (by have := World.block_lt_of_cell? _ _ hw472_2; first | rwa [add_block] at this | exact this) GW480.out)) | (dsimp only; exact Nat.ne_of_lt (Nat.lt_of_lt_of_le (by have := World.block_lt_of_cell? _ _ hw472_2; first | rwa [add_block] at this | exact this) GW480.out))) _).trans (((cell_far (p := ⟨gb480, _, none⟩) (by first | exact Nat.ne_of_lt (Nat.lt_of_lt_of_le (by have := World.block_lt_of_cell? _ _ hw472_2; first | rwa [add_block] at this | exact this) GW480.out) | (rw [add_block]; exact Nat.ne_of_lt (Nat.lt_of_lt_of_le (by have := World.block_lt_of_cell? _ _ hw472_2; first | rwa [add_block] at this | exact this) GW480.out)) | (show (Addr.add _ _).block ≠ _; rw [add_block]; exact Nat.ne_of_lt (Nat.lt_of_lt_of_le (by have := World.block_lt_of_cell? _ _ hw472_2; first | rwa [add_block] at this | exact this) GW480.out)) | (dsimp only; exact Nat.ne_of_lt (Nat.lt_of_lt_of_le (by have := World.block_lt_of_cell? _ _ hw472_2; first | rwa [add_block] at this | exact this) GW480.out))) _).trans (((cell_far (p := ⟨gb480, _, none⟩) (by first | exact Nat.ne_of_lt (Nat.lt_of_lt_of_le (by have := World.block_lt_of_cell? _ _ hw472_2; first | rwa [add_block] at this | exact this) GW480.out) | (rw [add_block]; exact Nat.ne_of_lt (Nat.lt_of_lt_of_le (by have := World.block_lt_of_cell? _ _ hw472_2; first | rwa [add_block] at this | exact this) GW480.out)) | (show (Addr.add _ _).block ≠ _; rw [add_block]; exact Nat.ne_of_lt (Nat.lt_of_lt_of_le (by have := World.block_lt_of_cell? _ _ hw472_2; first | rwa [add_block] at this | exact this) GW480.out)) | (dsimp only; exact Nat.ne_of_lt (Nat.lt_of_lt_of_le (by have := World.block_lt_of_cell? _ _ hw472_2; first | rwa [add_block] at this | exact this) GW480.out))) _).trans (((cell_far (p := ⟨gb480, _, none⟩) (by first | exact Nat.ne_of_lt (Nat.lt_of_lt_of_le (by have := World.block_lt_of_cell? _ _ hw472_2; first | rwa [add_block] at this | exact this) GW480.out) | (rw [add_block]; exact Nat.ne_of_lt (Nat.lt_of_lt_of_le (by have := World.block_lt_of_cell? _ _ hw472_2; first | rwa [add_block] at this | exact this) GW480.out)) | (show (Addr.add _ _).block ≠ _; rw [add_block]; exact Nat.ne_of_lt (Nat.lt_of_lt_of_le (by have := World.block_lt_of_cell? _ _ hw472_2; first | rwa [add_block] at this | exact this) GW480.out)) | (dsimp only; exact Nat.ne_of_lt (Nat.lt_of_lt_of_le (by have := World.block_lt_of_cell? _ _ hw472_2; first | rwa [add_block] at this | exact this) GW480.out))) _).trans (hHeld.2.2.2.2.2.2.2.2.2.2.1)))))))))), ((cell_far (p := ⟨gb480, _, none⟩) (by first | exact Nat.ne_of_lt (Nat.lt_of_lt_of_le (by have := World.block_lt_of_cell? _ _ hw473_0; first | rwa [add_block] at this | exact this) GW480.out) | (rw [add_block]; exact Nat.ne_of_lt (Nat.lt_of_lt_of_le (by have := World.block_lt_of_cell? _ _ hw473_0; first | rwa [add_block] at this | exact this) GW480.out)) | (show (Addr.add _ _).block ≠ _; rw [add_block]; exact Nat.ne_of_lt (Nat.lt_of_lt_of_le (by have := World.block_lt_of_cell? _ _ hw473_0; first | rwa [add_block] at this | exact this) GW480.out)) | (dsimp only; exact Nat.ne_of_lt (Nat.lt_of_lt_of_le (by have := World.block_lt_of_cell? _ _ hw473_0; first | rwa [add_block] at this | exact this) GW480.out))) _).trans (((cell_far (p := ⟨gb480, _, none⟩) (by first | exact Nat.ne_of_lt (Nat.lt_of_lt_of_le (by have := World.block_lt_of_cell? _ _ hw473_0; first | rwa [add_block] at this | exact this) GW480.out) | (rw [add_block]; exact Nat.ne_of_lt (Nat.lt_of_lt_of_le (by have := World.block_lt_of_cell? _ _ hw473_0; first | rwa [add_block] at this | exact this) GW480.out)) | (show (Addr.add _ _).block ≠ _; rw [add_block]; exact Nat.ne_of_lt (Nat.lt_of_lt_of_le (by have := World.block_lt_of_cell? _ _ hw473_0; first | rwa [add_block] at this | exact this) GW480.out)) | (dsimp only; exact Nat.ne_of_lt (Nat.lt_of_lt_of_le (by have := World.block_lt_of_cell? _ _ hw473_0; first | rwa [add_block] at this | exact this) GW480.out))) _).trans (((cell_far (p := ⟨gb480, _, none⟩) (by first | exact Nat.ne_of_lt (Nat.lt_of_lt_of_le (by have := World.block_lt_of_cell? _ _ hw473_0; first | rwa [add_block] at this | exact this) GW480.out) | (rw [add_block]; exact Nat.ne_of_lt (Nat.lt_of_lt_of_le (by have := World.block_lt_of_cell? _ _ hw473_0; first | rwa [add_block] at this | exact this) GW480.out)) | (show (Addr.add _ _).block ≠ _; rw [add_block]; exact Nat.ne_of_lt (Nat.lt_of_lt_of_le (by have := World.block_lt_of_cell? _ _ hw473_0; first | rwa [add_block] at this | exact this) GW480.out)) | (dsimp only; exact Nat.ne_of_lt (Nat.lt_of_lt_of_le (by have := World.block_lt_of_cell? _ _ hw473_0; first | rwa [add_block] at this | exact this) GW480.out))) _).trans (((cell_far (p := ⟨gb480, _, none⟩) (by first | exact Nat.ne_of_lt (Nat.lt_of_lt_of_le (by have := World.block_lt_of_cell? _ _ hw473_0; first | rwa [add_block] at this | exact this) GW480.out) | (rw [add_block]; exact Nat.ne_of_lt (Nat.lt_of_lt_of_le (by have := World.block_lt_of_cell? _ _ hw473_0; first | rwa [add_block] at this | exact this) GW480.out)) | (show (Addr.add _ _).block ≠ _; rw [add_block]; exact Nat.ne_of_lt (Nat.lt_of_lt_of_le (by have := World.block_lt_of_cell? _ _ hw473_0; first | rwa [add_block] at this | exact this) GW480.out)) | (dsimp only; exact Nat.ne_of_lt (Nat.lt_of_lt_of_le (by have := World.block_lt_of_cell? _ _ hw473_0; first | rwa [add_block] at this | exact this) GW480.out))) _).trans (((cell_far (p := ⟨gb480, _, none⟩) (by first | exact Nat.ne_of_lt (Nat.lt_of_lt_of_le (by have := World.block_lt_of_cell? _ _ hw473_0; first | rwa [add_block] at this | exact this) GW480.out) | (rw [add_block]; exact Nat.ne_of_lt (Nat.lt_of_lt_of_le (by have := World.block_lt_of_cell? _ _ hw473_0; first | rwa [add_block] at this | exact this) GW480.out)) | (show (Addr.add _ _).block ≠ _; rw [add_block]; exact Nat.ne_of_lt (Nat.lt_of_lt_of_le (by have := World.block_lt_of_cell? _ _ hw473_0; first | rwa [add_block] at this | exact this) GW480.out)) | (dsimp only; exact Nat.ne_of_lt (Nat.lt_of_lt_of_le (by have := World.block_lt_of_cell? _ _ hw473_0; first | rwa [add_block] at this | exact this) GW480.out))) _).trans (hHeld.2.2.2.2.2.2.2.2.2.2.2.1)))))))))), ((cell_far (p := ⟨gb480, _, none⟩) (by first | exact Nat.ne_of_lt (Nat.lt_of_lt_of_le (by have := World.block_lt_of_cell? _ _ hw473_1; first | rwa [add_block] at this | exact this) GW480.out) | (rw [add_block]; exact Nat.ne_of_lt (Nat.lt_of_lt_of_le (by have := World.block_lt_of_cell? _ _ hw473_1; first | rwa [add_block] at this | exact this) GW480.out)) | (show (Addr.add _ _).block ≠ _; rw [add_block]; exact Nat.ne_of_lt (Nat.lt_of_lt_of_le (by have := World.block_lt_of_cell? _ _ hw473_1; first | rwa [add_block] at this | exact this) GW480.out)) | (dsimp only; exact Nat.ne_of_lt (Nat.lt_of_lt_of_le (by have := World.block_lt_of_cell? _ _ hw473_1; first | rwa [add_block] at this | exact this) GW480.out))) _).trans (((cell_far (p := ⟨gb480, _, none⟩) (by first | exact Nat.ne_of_lt (Nat.lt_of_lt_of_le (by have := World.block_lt_of_cell? _ _ hw473_1; first | rwa [add_block] at this | exact this) GW480.out) | (rw [add_block]; exact Nat.ne_of_lt (Nat.lt_of_lt_of_le (by have := World.block_lt_of_cell? _ _ hw473_1; first | rwa [add_block] at this | exact this) GW480.out)) | (show (Addr.add _ _).block ≠ _; rw [add_block]; exact Nat.ne_of_lt (Nat.lt_of_lt_of_le (by have := World.block_lt_of_cell? _ _ hw473_1; first | rwa [add_block] at this | exact this) GW480.out)) | (dsimp only; exact Nat.ne_of_lt (Nat.lt_of_lt_of_le (by have := World.block_lt_of_cell? _ _ hw473_1; first | rwa [add_block] at this | exact this) GW480.out))) _).trans (((cell_far (p := ⟨gb480, _, none⟩) (by first | exact Nat.ne_of_lt (Nat.lt_of_lt_of_le (by have := World.block_lt_of_cell? _ _ hw473_1; first | rwa [add_block] at this | exact this) GW480.out) | (rw [add_block]; exact Nat.ne_of_lt (Nat.lt_of_lt_of_le (by have := World.block_lt_of_cell? _ _ hw473_1; first | rwa [add_block] at this | exact this) GW480.out)) | (show (Addr.add _ _).block ≠ _; rw [add_block]; exact Nat.ne_of_lt (Nat.lt_of_lt_of_le (by have := World.block_lt_of_cell? _ _ hw473_1; first | rwa [add_block] at this | exact this) GW480.out)) | (dsimp only; exact Nat.ne_of_lt (Nat.lt_of_lt_of_le (by have := World.block_lt_of_cell? _ _ hw473_1; first | rwa [add_block] at this | exact this) GW480.out))) _).trans (((cell_far (p := ⟨gb480, _, none⟩) (by first | exact Nat.ne_of_lt (Nat.lt_of_lt_of_le (by have := World.block_lt_of_cell? _ _ hw473_1; first | rwa [add_block] at this | exact this) GW480.out) | (rw [add_block]; exact Nat.ne_of_lt (Nat.lt_of_lt_of_le (by have := World.block_lt_of_cell? _ _ hw473_1; first | rwa [add_block] at this | exact this) GW480.out)) | (show (Addr.add _ _).block ≠ _; rw [add_block]; exact Nat.ne_of_lt (Nat.lt_of_lt_of_le (by have := World.block_lt_of_cell? _ _ hw473_1; first | rwa [add_block] at this | exact this) GW480.out)) | (dsimp only; exact Nat.ne_of_lt (Nat.lt_of_lt_of_le (by have := World.block_lt_of_cell? _ _ hw473_1; first | rwa [add_block] at this | exact this) GW480.out))) _).trans (((cell_far (p := ⟨gb480, _, none⟩) (by first | exact Nat.ne_of_lt (Nat.lt_of_lt_of_le (by have := World.block_lt_of_cell? _ _ hw473_1; first | rwa [add_block] at this | exact this) GW480.out) | (rw [add_block]; exact Nat.ne_of_lt (Nat.lt_of_lt_of_le (by have := World.block_lt_of_cell? _ _ hw473_1; first | rwa [add_block] at this | exact this) GW480.out)) | (show (Addr.add _ _).block ≠ _; rw [add_block]; exact Nat.ne_of_lt (Nat.lt_of_lt_of_le (by have := World.block_lt_of_cell? _ _ hw473_1; first | rwa [add_block] at this | exact this) GW480.out)) | (dsimp only; exact Nat.ne_of_lt (Nat.lt_of_lt_of_le (by have := World.block_lt_of_cell? _ _ hw473_1; first | rwa [add_block] at this | exact this) GW480.out))) _).trans (hHeld.2.2.2.2.2.2.2.2.2.2.2.2.1)))))))))), ((cell_far (p := ⟨gb480, _, none⟩) (by first | exact Nat.ne_of_lt (Nat.lt_of_lt_of_le (by have := World.block_lt_of_cell? _ _ hw473_2; first | rwa [add_block] at this | exact this) GW480.out) | (rw [add_block]; exact Nat.ne_of_lt (Nat.lt_of_lt_of_le (by have := World.block_lt_of_cell? _ _ hw473_2; first | rwa [add_block] at this | exact this) GW480.out)) | (show (Addr.add _ _).block ≠ _; rw [add_block]; exact Nat.ne_of_lt (Nat.lt_of_lt_of_le (by have := World.block_lt_of_cell? _ _ hw473_2; first | rwa [add_block] at this | exact this) GW480.out)) | (dsimp only; exact Nat.ne_of_lt (Nat.lt_of_lt_of_le (by have := World.block_lt_of_cell? _ _ hw473_2; first | rwa [add_block] at this | exact this) GW480.out))) _).trans (((cell_far (p := ⟨gb480, _, none⟩) (by first | exact Nat.ne_of_lt (Nat.lt_of_lt_of_le (by have := World.block_lt_of_cell? _ _ hw473_2; first | rwa [add_block] at this | exact this) GW480.out) | (rw [add_block]; exact Nat.ne_of_lt (Nat.lt_of_lt_of_le (by have := World.block_lt_of_cell? _ _ hw473_2; first | rwa [add_block] at this | exact this) GW480.out)) | (show (Addr.add _ _).block ≠ _; rw [add_block]; exact Nat.ne_of_lt (Nat.lt_of_lt_of_le (by have := World.block_lt_of_cell? _ _ hw473_2; first | rwa [add_block] at this | exact this) GW480.out)) | (dsimp only; exact Nat.ne_of_lt (Nat.lt_of_lt_of_le (by have := World.block_lt_of_cell? _ _ hw473_2; first | rwa [add_block] at this | exact this) GW480.out))) _).trans (((cell_far (p := ⟨gb480, _, none⟩) (by first | exact Nat.ne_of_lt (Nat.lt_of_lt_of_le (by have := World.block_lt_of_cell? _ _ hw473_2; first | rwa [add_block] at this | exact this) GW480.out) | (rw [add_block]; exact Nat.ne_of_lt (Nat.lt_of_lt_of_le (by have := World.block_lt_of_cell? _ _ hw473_2; first | rwa [add_block] at this | exact this) GW480.out)) | (show (Addr.add _ _).block ≠ _; rw [add_block]; exact Nat.ne_of_lt (Nat.lt_of_lt_of_le (by have := World.block_lt_of_cell? _ _ hw473_2; first | rwa [add_block] at this | exact this) GW480.out)) | (dsimp only; exact Nat.ne_of_lt (Nat.lt_of_lt_of_le (by have := World.block_lt_of_cell? _ _ hw473_2; first | rwa [add_block] at this | exact this) GW480.out))) _).trans (((cell_far (p := ⟨gb480, _, none⟩) (by first | exact Nat.ne_of_lt (Nat.lt_of_lt_of_le (by have := World.block_lt_of_cell? _ _ hw473_2; first | rwa [add_block] at this | exact this) GW480.out) | (rw [add_block]; exact Nat.ne_of_lt (Nat.lt_of_lt_of_le (by have := World.block_lt_of_cell? _ _ hw473_2; first | rwa [add_block] at this | exact this) GW480.out)) | (show (Addr.add _ _).block ≠ _; rw [add_block]; exact Nat.ne_of_lt (Nat.lt_of_lt_of_le (by have := World.block_lt_of_cell? _ _ hw473_2; first | rwa [add_block] at this | exact this) GW480.out)) | (dsimp only; exact Nat.ne_of_lt (Nat.lt_of_lt_of_le (by have := World.block_lt_of_cell? _ _ hw473_2; first | rwa [add_block] at this | exact this) GW480.out))) _).trans (((cell_far (p := ⟨gb480, _, none⟩) (by first | exact Nat.ne_of_lt (Nat.lt_of_lt_of_le (by have := World.block_lt_of_cell? _ _ hw473_2; first | rwa [add_block] at this | exact this) GW480.out) | (rw [add_block]; exact Nat.ne_of_lt (Nat.lt_of_lt_of_le (by have := World.block_lt_of_cell? _ _ hw473_2; first | rwa [add_block] at this | exact this) GW480.out)) | (show (Addr.add _ _).block ≠ _; rw [add_block]; exact Nat.ne_of_lt (Nat.lt_of_lt_of_le (by have := World.block_lt_of_cell? _ _ hw473_2; first | rwa [add_block] at this | exact this) GW480.out)) | (dsimp only; exact Nat.ne_of_lt (Nat.lt_of_lt_of_le (by have := World.block_lt_of_cell? _ _ hw473_2; first | rwa [add_block] at this | exact this) GW480.out))) _).trans (hHeld.2.2.2.2.2.2.2.2.2.2.2.2.2))))))))))⟩ (fun hHeld => ?_)
                  clear hK K
                  refine pure_ (i := 26) (N := some 10) (v := ?_) (a' := ?_) #[true, true, true, true, true, true, true, true, true, true, true, true, true, true, true, true, true, true, true, true, true, true, true, true, true, true, true] rfl rfl (any_of HT_.out (by kernel_rfl)) (fun _ _ _ h => h) (Or.inl ⟨by rfl, ?_⟩) ?_ ?_
                  rotate_left
                  · intro w'
                    go_simp
                    with_reducible rfl
                  rotate_left
                  · simp only [Act.put, List.setIfInBounds_toArray, List.set_cons_zero, List.set_cons_succ, i64_w, i32_w]
                    rfl
                  refine done_ (done_of HT_.out (by kernel_rfl)) ?_
                  try go_wp2
                  have n0_ : Aside0 ((((((w28.setCell ⟨gb480, 0, none⟩ (.int .i64 t474)).setCell ⟨gb480, 1, none⟩ (.int .i64 t475)).setCell ⟨gb480, 2, none⟩ (.int .i64 t476)).setCell ⟨gb480, 3, none⟩ (.int .i64 t477)).setCell ⟨gb480, 4, none⟩ (.bool t478)).heap[gb464]? = some (.cells #[.int .i64 x465000_1, .int .i64 x465001_1, .int .i64 x465002_1, .int .i64 x465003_1, .bool x465004_1] 49 (0, 0))) := ⟨by (with_reducible repeat (first | refine blk_drewN ?_ _ | refine blk_drew ?_ | refine blk_alloc ?_ _)); refine blk_far ?_ NB464_480.out _; (with_reducible repeat (first | refine blk_drewN ?_ _ | refine blk_drew ?_ | refine blk_alloc ?_ _)); refine blk_far ?_ NB464_480.out _; (with_reducible repeat (first | refine blk_drewN ?_ _ | refine blk_drew ?_ | refine blk_alloc ?_ _)); refine blk_far ?_ NB464_480.out _; (with_reducible repeat (first | refine blk_drewN ?_ _ | refine blk_drew ?_ | refine blk_alloc ?_ _)); refine blk_far ?_ NB464_480.out _; (with_reducible repeat (first | refine blk_drewN ?_ _ | refine blk_drew ?_ | refine blk_alloc ?_ _)); refine blk_far ?_ NB464_480.out _; (with_reducible repeat (first | refine blk_drewN ?_ _ | refine blk_drew ?_ | refine blk_alloc ?_ _)); exact BK464.out⟩
                  have n1_ : Aside0 ((((((w28.setCell ⟨gb480, 0, none⟩ (.int .i64 t474)).setCell ⟨gb480, 1, none⟩ (.int .i64 t475)).setCell ⟨gb480, 2, none⟩ (.int .i64 t476)).setCell ⟨gb480, 3, none⟩ (.int .i64 t477)).setCell ⟨gb480, 4, none⟩ (.bool t478)).heap[gb470]? = some (.cells #[.int .i64 x471000_1, .int .i64 x471001_1, .int .i64 x471002_1, .int .i64 x471003_1, .bool x471004_1] 49 (0, 0))) := ⟨by (with_reducible repeat (first | refine blk_drewN ?_ _ | refine blk_drew ?_ | refine blk_alloc ?_ _)); refine blk_far ?_ NB470_480.out _; (with_reducible repeat (first | refine blk_drewN ?_ _ | refine blk_drew ?_ | refine blk_alloc ?_ _)); refine blk_far ?_ NB470_480.out _; (with_reducible repeat (first | refine blk_drewN ?_ _ | refine blk_drew ?_ | refine blk_alloc ?_ _)); refine blk_far ?_ NB470_480.out _; (with_reducible repeat (first | refine blk_drewN ?_ _ | refine blk_drew ?_ | refine blk_alloc ?_ _)); refine blk_far ?_ NB470_480.out _; (with_reducible repeat (first | refine blk_drewN ?_ _ | refine blk_drew ?_ | refine blk_alloc ?_ _)); refine blk_far ?_ NB470_480.out _; (with_reducible repeat (first | refine blk_drewN ?_ _ | refine blk_drew ?_ | refine blk_alloc ?_ _)); exact BK470.out⟩
                  have n2_ : Aside0 ((((((w28.setCell ⟨gb480, 0, none⟩ (.int .i64 t474)).setCell ⟨gb480, 1, none⟩ (.int .i64 t475)).setCell ⟨gb480, 2, none⟩ (.int .i64 t476)).setCell ⟨gb480, 3, none⟩ (.int .i64 t477)).setCell ⟨gb480, 4, none⟩ (.bool t478)).heap[gb480]? = some (.cells #[.int .i64 t474, .int .i64 t475, .int .i64 t476, .int .i64 t477, .bool t478] 49 (0, 0))) := ⟨by (with_reducible repeat (first | refine blk_drewN ?_ _ | refine blk_drew ?_ | refine blk_alloc ?_ _)); refine blk_put (cs := #[.int .i64 t474, .int .i64 t475, .int .i64 t476, .int .i64 t477, .bool false]) ?_ 4 _ rfl; (with_reducible repeat (first | refine blk_drewN ?_ _ | refine blk_drew ?_ | refine blk_alloc ?_ _)); refine blk_put (cs := #[.int .i64 t474, .int .i64 t475, .int .i64 t476, .int .i64 0, .bool false]) ?_ 3 _ rfl; (with_reducible repeat (first | refine blk_drewN ?_ _ | refine blk_drew ?_ | refine blk_alloc ?_ _)); refine blk_put (cs := #[.int .i64 t474, .int .i64 t475, .int .i64 0, .int .i64 0, .bool false]) ?_ 2 _ rfl; (with_reducible repeat (first | refine blk_drewN ?_ _ | refine blk_drew ?_ | refine blk_alloc ?_ _)); refine blk_put (cs := #[.int .i64 t474, .int .i64 0, .int .i64 0, .int .i64 0, .bool false]) ?_ 1 _ rfl; (with_reducible repeat (first | refine blk_drewN ?_ _ | refine blk_drew ?_ | refine blk_alloc ?_ _)); refine blk_put (cs := #[.int .i64 0, .int .i64 0, .int .i64 0, .int .i64 0, .bool false]) ?_ 0 _ rfl; (with_reducible repeat (first | refine blk_drewN ?_ _ | refine blk_drew ?_ | refine blk_alloc ?_ _)); exact BK480.out⟩
                  have n3_ : Aside0 (Below w.heap.size w (((((w28.setCell ⟨gb480, 0, none⟩ (.int .i64 t474)).setCell ⟨gb480, 1, none⟩ (.int .i64 t475)).setCell ⟨gb480, 2, none⟩ (.int .i64 t476)).setCell ⟨gb480, 3, none⟩ (.int .i64 t477)).setCell ⟨gb480, 4, none⟩ (.bool t478))) := ⟨by repeat (first | (with_reducible first | exact HB.out | apply below_alloc | apply pw_below_drewN | apply below_drew1 | refine below_set ?_ GE464.out | refine below_set ?_ GE470.out | refine below_set ?_ GE480.out) | exact HB.out)⟩
                  (try clear BK464)
                  (try clear BK470)
                  (try clear BK480)
                  (try clear HB)
                  generalize (((((w28.setCell ⟨gb480, 0, none⟩ (.int .i64 t474)).setCell ⟨gb480, 1, none⟩ (.int .i64 t475)).setCell ⟨gb480, 2, none⟩ (.int .i64 t476)).setCell ⟨gb480, 3, none⟩ (.int .i64 t477)).setCell ⟨gb480, 4, none⟩ (.bool t478)) = w34 at n0_ n1_ n2_ n3_ ⊢
                  have BK464 := n0_
                  have BK470 := n1_
                  have BK480 := n2_
                  have HB := n3_
                  clear n0_ n1_ n2_ n3_
                  have n0_ := Aside0.mk (blk_drew BK464.out)
                  have n1_ := Aside0.mk (blk_drew BK470.out)
                  have n2_ := Aside0.mk (blk_drew BK480.out)
                  have n3_ := Aside0.mk (below_drew1 HB.out)
                  clear BK464
                  clear BK470
                  clear BK480
                  clear HB
                  have BK464 := n0_
                  have BK470 := n1_
                  have BK480 := n2_
                  have HB := n3_
                  clear n0_ n1_ n2_ n3_
                  have p481 : 0 ≤ (x8_1 : Int) := of_decide_eq_true (by first | (with_reducible assumption) | assumption)
                  have q481 : x8_1 < (l1.length : Int) := of_decide_eq_true (by first | (with_reducible assumption) | assumption)
                  obtain ⟨ad481, e481, hx481_0, hx481_1, hx481_2⟩ := at_T54 HR1.out x8_1 p481 q481
                  have hw481_2 := hx481_2
                  have hw481_1 := hx481_1
                  have hw481_0 := hx481_0
                  obtain rfl : ad471 = ad481 := (by injection e481)
                  replace hx481_0 := (HB.out.cell (World.block_lt_of_cell? w _ hx481_0)).trans hx481_0
                  replace hx481_1 := (HB.out.cell (World.block_lt_of_cell? w _ hx481_1)).trans hx481_1
                  replace hx481_2 := (HB.out.cell (World.block_lt_of_cell? w _ hx481_2)).trans hx481_2
                  replace p481 := eq_true p481
                  replace q481 := eq_true q481
                  have p482 : 0 ≤ (x8_1 : Int) := of_decide_eq_true (by first | (with_reducible assumption) | assumption)
                  have q482 : x8_1 < (l1.length : Int) := of_decide_eq_true (by first | (with_reducible assumption) | assumption)
                  obtain ⟨ad482, e482, hx482_0, hx482_1, hx482_2⟩ := at_T54 HR1.out x8_1 p482 q482
                  have hw482_2 := hx482_2
                  have hw482_1 := hx482_1
                  have hw482_0 := hx482_0
                  obtain rfl : ad471 = ad482 := (by injection e482)
                  replace hx482_0 := (HB.out.cell (World.block_lt_of_cell? w _ hx482_0)).trans hx482_0
                  replace hx482_1 := (HB.out.cell (World.block_lt_of_cell? w _ hx482_1)).trans hx482_1
                  replace hx482_2 := (HB.out.cell (World.block_lt_of_cell? w _ hx482_2)).trans hx482_2
                  replace p482 := eq_true p482
                  replace q482 := eq_true q482
                  have p483 : 0 ≤ (x8_1 : Int) := of_decide_eq_true (by first | (with_reducible assumption) | assumption)
                  have q483 : x8_1 < (l1.length : Int) := of_decide_eq_true (by first | (with_reducible assumption) | assumption)
                  obtain ⟨ad483, e483, hx483_0, hx483_1, hx483_2⟩ := at_T54 HR1.out x8_1 p483 q483
                  have hw483_2 := hx483_2
                  have hw483_1 := hx483_1
                  have hw483_0 := hx483_0
                  obtain rfl : ad471 = ad483 := (by injection e483)
                  replace hx483_0 := (HB.out.cell (World.block_lt_of_cell? w _ hx483_0)).trans hx483_0
                  replace hx483_1 := (HB.out.cell (World.block_lt_of_cell? w _ hx483_1)).trans hx483_1
                  replace hx483_2 := (HB.out.cell (World.block_lt_of_cell? w _ hx483_2)).trans hx483_2
                  replace p483 := eq_true p483
                  replace q483 := eq_true q483
                  refine start_ (n := 27) (S := fun w' => w'.cell? ⟨gb470, 0, none⟩ = some (.int .i64 x471000_1) ∧ w'.cell? ⟨gb470, 1, none⟩ = some (.int .i64 x471001_1) ∧ w'.cell? ⟨gb470, 2, none⟩ = some (.int .i64 x471002_1) ∧ w'.cell? ⟨gb470, 3, none⟩ = some (.int .i64 x471003_1) ∧ w'.cell? ⟨gb470, 4, none⟩ = some (.bool x471004_1) ∧ w'.cell? (ad471.add ((x8_1).toNat * 3)) = some (.int .u8 ((rd_T54 l1 x8_1).f0)) ∧ w'.cell? ⟨(ad471.add ((x8_1).toNat * 3)).block, (ad471.add ((x8_1).toNat * 3)).off + 1, none⟩ = some (.int .i16 ((rd_T54 l1 x8_1).f1)) ∧ w'.cell? ⟨(ad471.add ((x8_1).toNat * 3)).block, (ad471.add ((x8_1).toNat * 3)).off + 2, none⟩ = some (.int .i16 ((rd_T54 l1 x8_1).f2)) ∧ w'.cell? (ad471.add ((x8_1).toNat * 3)) = some (.int .u8 ((rd_T54 l1 x8_1).f0)) ∧ w'.cell? ⟨(ad471.add ((x8_1).toNat * 3)).block, (ad471.add ((x8_1).toNat * 3)).off + 1, none⟩ = some (.int .i16 ((rd_T54 l1 x8_1).f1)) ∧ w'.cell? ⟨(ad471.add ((x8_1).toNat * 3)).block, (ad471.add ((x8_1).toNat * 3)).off + 2, none⟩ = some (.int .i16 ((rd_T54 l1 x8_1).f2)) ∧ w'.cell? (ad471.add ((x8_1).toNat * 3)) = some (.int .u8 ((rd_T54 l1 x8_1).f0)) ∧ w'.cell? ⟨(ad471.add ((x8_1).toNat * 3)).block, (ad471.add ((x8_1).toNat * 3)).off + 1, none⟩ = some (.int .i16 ((rd_T54 l1 x8_1).f1)) ∧ w'.cell? ⟨(ad471.add ((x8_1).toNat * 3)).block, (ad471.add ((x8_1).toNat * 3)).off + 2, none⟩ = some (.int .i16 ((rd_T54 l1 x8_1).f2))) (ds := []) #[false, false, false, false, false, false, false, false, false, false, false, false, false, false, false, false, false, false, false, false, false, false, false, false, false, false, false] (by kernel_rfl) rfl rfl ⟨(blk_cell BK470.out 0).trans rfl, (blk_cell BK470.out 1).trans rfl, (blk_cell BK470.out 2).trans rfl, (blk_cell BK470.out 3).trans rfl, (blk_cell BK470.out 4).trans rfl, ((HB.out.cell (World.block_lt_of_cell? w _ hw481_0)).trans hw481_0), ((HB.out.cell (World.block_lt_of_cell? w _ hw481_1)).trans hw481_1), ((HB.out.cell (World.block_lt_of_cell? w _ hw481_2)).trans hw481_2), ((HB.out.cell (World.block_lt_of_cell? w _ hw482_0)).trans hw482_0), ((HB.out.cell (World.block_lt_of_cell? w _ hw482_1)).trans hw482_1), ((HB.out.cell (World.block_lt_of_cell? w _ hw482_2)).trans hw482_2), ((HB.out.cell (World.block_lt_of_cell? w _ hw483_0)).trans hw483_0), ((HB.out.cell (World.block_lt_of_cell? w _ hw483_1)).trans hw483_1), ((HB.out.cell (World.block_lt_of_cell? w _ hw483_2)).trans hw483_2)⟩ (fun hHeld => ?_); refine with_tabW ambidexterlaw25_ServoMatchesReference.tab10 ambidexterlaw25_ServoMatchesReference.bits10 (fun HT_ HW_ => ?_)
                  generalize w34.drew = w35 at BK464 BK470 BK480 HB hx481_0 hx481_1 hx481_2 hx482_0 hx482_1 hx482_2 hx483_0 hx483_1 hx483_2 hHeld ⊢
                  refine pure_ (i := 1) (N := some 56) (v := ?_) (a' := ?_) #[false, true, false, false, false, false, false, false, false, false, false, false, false, false, false, false, false, false, false, false, false, false, false, false, false, false, false] rfl rfl (any_of HT_.out (by kernel_rfl)) (fun _ _ _ h => h) (Or.inl ⟨by rfl, ?_⟩) ?_ ?_
                  rotate_left
                  · intro w'
                    go_simp
                    with_reducible rfl
                  rotate_left
                  · simp only [Act.put, List.setIfInBounds_toArray, List.set_cons_zero, List.set_cons_succ, i64_w, i32_w]
                    rfl
                  refine pure_ (i := 2) (N := some 57) (v := ?_) (a' := ?_) #[false, true, true, false, false, false, false, false, false, false, false, false, false, false, false, false, false, false, false, false, false, false, false, false, false, false, false] rfl rfl (any_of HT_.out (by kernel_rfl)) (fun _ _ _ h => h) (Or.inl ⟨by rfl, ?_⟩) ?_ ?_
                  rotate_left
                  · intro w'
                    go_simp
                    with_reducible rfl
                  rotate_left
                  · simp only [Act.put, List.setIfInBounds_toArray, List.set_cons_zero, List.set_cons_succ, i64_w, i32_w]
                    rfl
                  refine pure_ (i := 3) (N := some 58) (v := ?_) (a' := ?_) #[false, true, true, true, false, false, false, false, false, false, false, false, false, false, false, false, false, false, false, false, false, false, false, false, false, false, false] rfl rfl (any_of HT_.out (by kernel_rfl)) (fun _ _ _ h => h) (Or.inl ⟨by rfl, ?_⟩) ?_ ?_
                  rotate_left
                  · intro w'
                    go_simp
                    with_reducible rfl
                  rotate_left
                  · simp only [Act.put, List.setIfInBounds_toArray, List.set_cons_zero, List.set_cons_succ, i64_w, i32_w]
                    rfl
                  refine pure_ (i := 4) (N := some 59) (v := ?_) (a' := ?_) #[false, true, true, true, true, false, false, false, false, false, false, false, false, false, false, false, false, false, false, false, false, false, false, false, false, false, false] rfl rfl (any_of HT_.out (by kernel_rfl)) (fun _ _ _ h => h) (Or.inl ⟨by rfl, ?_⟩) ?_ ?_
                  rotate_left
                  · intro w'
                    go_simp
                    with_reducible rfl
                  rotate_left
                  · simp only [Act.put, List.setIfInBounds_toArray, List.set_cons_zero, List.set_cons_succ, i64_w, i32_w]
                    rfl
                  refine pure_ (i := 8) (N := some 63) (v := ?_) (a' := ?_) #[false, true, true, true, true, false, false, false, true, false, false, false, false, false, false, false, false, false, false, false, false, false, false, false, false, false, false] rfl rfl (any_of HT_.out (by kernel_rfl)) (fun _ _ _ h => h) (Or.inl ⟨by rfl, ?_⟩) ?_ ?_
                  rotate_left
                  · intro w'
                    go_simp
                    with_reducible rfl
                  rotate_left
                  · simp only [Act.put, List.setIfInBounds_toArray, List.set_cons_zero, List.set_cons_succ, i64_w, i32_w]
                    rfl
                  refine pure_ (i := 9) (N := some 64) (v := ?_) (a' := ?_) #[false, true, true, true, true, false, false, false, true, true, false, false, false, false, false, false, false, false, false, false, false, false, false, false, false, false, false] rfl rfl (any_of HT_.out (by kernel_rfl)) (fun _ _ _ h => h) (Or.inl ⟨by rfl, ?_⟩) ?_ ?_
                  rotate_left
                  · intro w'
                    go_simp
                    with_reducible rfl
                  rotate_left
                  · simp only [Act.put, List.setIfInBounds_toArray, List.set_cons_zero, List.set_cons_succ, i64_w, i32_w]
                    rfl
                  refine pure_ (i := 10) (N := some 65) (v := ?_) (a' := ?_) #[false, true, true, true, true, false, false, false, true, true, true, false, false, false, false, false, false, false, false, false, false, false, false, false, false, false, false] rfl rfl (any_of HT_.out (by kernel_rfl)) (fun _ _ _ h => h) (Or.inl ⟨by rfl, ?_⟩) ?_ ?_
                  rotate_left
                  · intro w'
                    go_simp
                    with_reducible rfl
                  rotate_left
                  · simp only [Act.put, List.setIfInBounds_toArray, List.set_cons_zero, List.set_cons_succ, i64_w, i32_w]
                    rfl
                  refine pure_ (i := 11) (N := some 66) (v := ?_) (a' := ?_) #[false, true, true, true, true, false, false, false, true, true, true, true, false, false, false, false, false, false, false, false, false, false, false, false, false, false, false] rfl rfl (any_of HT_.out (by kernel_rfl)) (fun _ _ _ h => h) (Or.inl ⟨by rfl, ?_⟩) ?_ ?_
                  rotate_left
                  · intro w'
                    go_simp
                    with_reducible rfl
                  rotate_left
                  · simp only [Act.put, List.setIfInBounds_toArray, List.set_cons_zero, List.set_cons_succ, i64_w, i32_w]
                    rfl
                  refine pure_ (i := 14) (N := some 69) (v := ?_) (a' := ?_) #[false, true, true, true, true, false, false, false, true, true, true, true, false, false, true, false, false, false, false, false, false, false, false, false, false, false, false] rfl rfl (any_of HT_.out (by kernel_rfl)) (fun _ _ _ h => h) (Or.inl ⟨by rfl, ?_⟩) ?_ ?_
                  rotate_left
                  · intro w'
                    go_simp
                    with_reducible rfl
                  rotate_left
                  · simp only [Act.put, List.setIfInBounds_toArray, List.set_cons_zero, List.set_cons_succ, i64_w, i32_w]
                    rfl
                  refine pure_ (i := 15) (N := some 70) (v := ?_) (a' := ?_) #[false, true, true, true, true, false, false, false, true, true, true, true, false, false, true, true, false, false, false, false, false, false, false, false, false, false, false] rfl rfl (any_of HT_.out (by kernel_rfl)) (fun _ _ _ h => h) (Or.inl ⟨by rfl, ?_⟩) ?_ ?_
                  rotate_left
                  · intro w'
                    go_simp
                    with_reducible rfl
                  rotate_left
                  · simp only [Act.put, List.setIfInBounds_toArray, List.set_cons_zero, List.set_cons_succ, i64_w, i32_w]
                    rfl
                  refine pure_ (i := 16) (N := some 71) (v := ?_) (a' := ?_) #[false, true, true, true, true, false, false, false, true, true, true, true, false, false, true, true, true, false, false, false, false, false, false, false, false, false, false] rfl rfl (any_of HT_.out (by kernel_rfl)) (fun _ _ _ h => h) (Or.inl ⟨by rfl, ?_⟩) ?_ ?_
                  rotate_left
                  · intro w'
                    go_simp
                    with_reducible rfl
                  rotate_left
                  · simp only [Act.put, List.setIfInBounds_toArray, List.set_cons_zero, List.set_cons_succ, i64_w, i32_w]
                    rfl
                  refine pure_ (i := 17) (N := some 72) (v := ?_) (a' := ?_) #[false, true, true, true, true, false, false, false, true, true, true, true, false, false, true, true, true, true, false, false, false, false, false, false, false, false, false] rfl rfl (any_of HT_.out (by kernel_rfl)) (fun _ _ _ h => h) (Or.inl ⟨by rfl, ?_⟩) ?_ ?_
                  rotate_left
                  · intro w'
                    go_simp
                    with_reducible rfl
                  rotate_left
                  · simp only [Act.put, List.setIfInBounds_toArray, List.set_cons_zero, List.set_cons_succ, i64_w, i32_w]
                    rfl
                  refine take_ (i := 0) (N := some 55) (v := ?_) (a' := ?_) #[true, true, true, true, true, false, false, false, true, true, true, true, false, false, true, true, true, true, false, false, false, false, false, false, false, false, false] rfl rfl (take_ofW HT_.out HW_.out (by kernel_rfl)) (fun _ _ _ h => h) (Or.inl ⟨by rfl, ?_⟩) hHeld ?_ ?_
                  rotate_left
                  · rintro w' ⟨s0, s1, s2, s3, s4, s5, s6, s7, s8, s9, s10, s11, s12, s13⟩
                    go_simp
                    with_reducible rfl
                  rotate_left
                  · simp only [Act.put, List.setIfInBounds_toArray, List.set_cons_zero, List.set_cons_succ, i64_w, i32_w]
                    rfl
                  refine take_ (i := 5) (N := some 60) (v := ?_) (a' := ?_) #[true, true, true, true, true, true, false, false, true, true, true, true, false, false, true, true, true, true, false, false, false, false, false, false, false, false, false] rfl rfl (take_ofW HT_.out HW_.out (by kernel_rfl)) (fun _ _ _ h => h) (Or.inl ⟨by rfl, ?_⟩) hHeld ?_ ?_
                  rotate_left
                  · rintro w' ⟨s0, s1, s2, s3, s4, s5, s6, s7, s8, s9, s10, s11, s12, s13⟩
                    go_simp
                    with_reducible rfl
                  rotate_left
                  · simp only [Act.put, List.setIfInBounds_toArray, List.set_cons_zero, List.set_cons_succ, i64_w, i32_w]
                    rfl
                  refine pure_ (i := 6) (N := some 61) (v := ?_) (a' := ?_) #[true, true, true, true, true, true, true, false, true, true, true, true, false, false, true, true, true, true, false, false, false, false, false, false, false, false, false] rfl rfl (any_of HT_.out (by kernel_rfl)) (fun _ _ _ h => h) (Or.inl ⟨by rfl, ?_⟩) ?_ ?_
                  rotate_left
                  · intro w'
                    go_simp
                    with_reducible rfl
                  rotate_left
                  · simp only [Act.put, List.setIfInBounds_toArray, List.set_cons_zero, List.set_cons_succ, i64_w, i32_w]
                    rfl
                  refine pure_ (i := 7) (N := some 62) (v := ?_) (a' := ?_) #[true, true, true, true, true, true, true, true, true, true, true, true, false, false, true, true, true, true, false, false, false, false, false, false, false, false, false] rfl rfl (any_of HT_.out (by kernel_rfl)) (fun _ _ _ h => h) (Or.inl ⟨by rfl, ?_⟩) ?_ ?_
                  rotate_left
                  · intro w'
                    go_simp
                    with_reducible rfl
                  rotate_left
                  · simp only [Act.put, List.setIfInBounds_toArray, List.set_cons_zero, List.set_cons_succ, i64_w, i32_w]
                    rfl
                  refine take_ (i := 12) (N := some 67) (v := ?_) (a' := ?_) #[true, true, true, true, true, true, true, true, true, true, true, true, true, false, true, true, true, true, false, false, false, false, false, false, false, false, false] rfl rfl (take_ofW HT_.out HW_.out (by kernel_rfl)) (fun _ _ _ h => h) (Or.inl ⟨by rfl, ?_⟩) hHeld ?_ ?_
                  rotate_left
                  · rintro w' ⟨s0, s1, s2, s3, s4, s5, s6, s7, s8, s9, s10, s11, s12, s13⟩
                    go_simp
                    with_reducible rfl
                  rotate_left
                  · simp only [Act.put, List.setIfInBounds_toArray, List.set_cons_zero, List.set_cons_succ, i64_w, i32_w]
                    rfl
                  refine pure_ (i := 13) (N := some 68) (v := ?_) (a' := ?_) #[true, true, true, true, true, true, true, true, true, true, true, true, true, true, true, true, true, true, false, false, false, false, false, false, false, false, false] rfl rfl (any_of HT_.out (by kernel_rfl)) (fun _ _ _ h => h) (Or.inl ⟨by rfl, ?_⟩) ?_ ?_
                  rotate_left
                  · intro w'
                    go_simp
                    with_reducible rfl
                  rotate_left
                  · simp only [Act.put, List.setIfInBounds_toArray, List.set_cons_zero, List.set_cons_succ, i64_w, i32_w]
                    rfl
                  refine take_ (i := 18) (N := some 73) (v := ?_) (a' := ?_) #[true, true, true, true, true, true, true, true, true, true, true, true, true, true, true, true, true, true, true, false, false, false, false, false, false, false, false] rfl rfl (take_ofW HT_.out HW_.out (by kernel_rfl)) (fun _ _ _ h => h) (Or.inl ⟨by rfl, ?_⟩) hHeld ?_ ?_
                  rotate_left
                  · rintro w' ⟨s0, s1, s2, s3, s4, s5, s6, s7, s8, s9, s10, s11, s12, s13⟩
                    go_simp
                    with_reducible rfl
                  rotate_left
                  · simp only [Act.put, List.setIfInBounds_toArray, List.set_cons_zero, List.set_cons_succ, i64_w, i32_w]
                    rfl
                  refine pure_ (i := 19) (N := some 74) (v := ?_) (a' := ?_) #[true, true, true, true, true, true, true, true, true, true, true, true, true, true, true, true, true, true, true, true, false, false, false, false, false, false, false] rfl rfl (any_of HT_.out (by kernel_rfl)) (fun _ _ _ h => h) (Or.inl ⟨by rfl, ?_⟩) ?_ ?_
                  rotate_left
                  · intro w'
                    go_simp
                    with_reducible rfl
                  rotate_left
                  · simp only [Act.put, List.setIfInBounds_toArray, List.set_cons_zero, List.set_cons_succ, i64_w, i32_w]
                    rfl
                  refine join_ (σ := Nat) 2 #[true, true, true, true, true, true, true, true, true, true, true, true, true, true, true, true, true, true, true, true, true, true, true, true, true, false, false] (fun s_ => [(75, .tuple #[.agg #[.int .i64 t484, .int .i64 t485, .int .i64 t486, .int .i64 t487, .bool t488], .int .i64 t489]), (11, .pointer (some ⟨s_, 0, none⟩)), (54, .tuple #[.agg #[.int .i64 t484, .int .i64 t485, .int .i64 t486, .int .i64 t487, .bool t488], .int .i64 t489]), (76, .agg #[.int .i64 t484, .int .i64 t485, .int .i64 t486, .int .i64 t487, .bool t488]), (77, .int .i64 t489)]) (fun s_ w' => (w'.cell? ⟨gb470, 0, none⟩ = some (.int .i64 x471000_1) ∧ w'.cell? ⟨gb470, 1, none⟩ = some (.int .i64 x471001_1) ∧ w'.cell? ⟨gb470, 2, none⟩ = some (.int .i64 x471002_1) ∧ w'.cell? ⟨gb470, 3, none⟩ = some (.int .i64 x471003_1) ∧ w'.cell? ⟨gb470, 4, none⟩ = some (.bool x471004_1) ∧ w'.cell? (ad471.add ((x8_1).toNat * 3)) = some (.int .u8 ((rd_T54 l1 x8_1).f0)) ∧ w'.cell? ⟨(ad471.add ((x8_1).toNat * 3)).block, (ad471.add ((x8_1).toNat * 3)).off + 1, none⟩ = some (.int .i16 ((rd_T54 l1 x8_1).f1)) ∧ w'.cell? ⟨(ad471.add ((x8_1).toNat * 3)).block, (ad471.add ((x8_1).toNat * 3)).off + 2, none⟩ = some (.int .i16 ((rd_T54 l1 x8_1).f2)) ∧ w'.cell? (ad471.add ((x8_1).toNat * 3)) = some (.int .u8 ((rd_T54 l1 x8_1).f0)) ∧ w'.cell? ⟨(ad471.add ((x8_1).toNat * 3)).block, (ad471.add ((x8_1).toNat * 3)).off + 1, none⟩ = some (.int .i16 ((rd_T54 l1 x8_1).f1)) ∧ w'.cell? ⟨(ad471.add ((x8_1).toNat * 3)).block, (ad471.add ((x8_1).toNat * 3)).off + 2, none⟩ = some (.int .i16 ((rd_T54 l1 x8_1).f2)) ∧ w'.cell? (ad471.add ((x8_1).toNat * 3)) = some (.int .u8 ((rd_T54 l1 x8_1).f0)) ∧ w'.cell? ⟨(ad471.add ((x8_1).toNat * 3)).block, (ad471.add ((x8_1).toNat * 3)).off + 1, none⟩ = some (.int .i16 ((rd_T54 l1 x8_1).f1)) ∧ w'.cell? ⟨(ad471.add ((x8_1).toNat * 3)).block, (ad471.add ((x8_1).toNat * 3)).off + 2, none⟩ = some (.int .i16 ((rd_T54 l1 x8_1).f2))) ∧ (w'.heap[gb464]? = some (.cells #[.int .i64 x465000_1, .int .i64 x465001_1, .int .i64 x465002_1, .int .i64 x465003_1, .bool x465004_1] 49 (0, 0))) ∧ (w'.heap[gb470]? = some (.cells #[.int .i64 x471000_1, .int .i64 x471001_1, .int .i64 x471002_1, .int .i64 x471003_1, .bool x471004_1] 49 (0, 0))) ∧ (w'.heap[gb480]? = some (.cells #[.int .i64 t474, .int .i64 t475, .int .i64 t476, .int .i64 t477, .bool t478] 49 (0, 0))) ∧ (w'.heap[s_]? = some (.cells #[.int .i64 0, .int .i64 0, .int .i64 0, .int .i64 0, .bool false] 49 (0, 0))) ∧ (w.heap.size ≤ s_) ∧ (w.heap.size ≤ s_) ∧ (gb464 ≠ s_) ∧ (s_ ≠ gb464) ∧ (gb470 ≠ s_) ∧ (s_ ≠ gb470) ∧ (gb480 ≠ s_) ∧ (s_ ≠ gb480) ∧ (Below w.heap.size w w')) ?_ ?_
                  rotate_left
                  · intro hCont
                    refine two_ (i := 20) (j := 24) (Ni := some 75) (Nj := some 11) #[true, true, true, true, true, true, true, true, true, true, true, true, true, true, true, true, true, true, true, true, true, false, false, false, false, false, false] #[true, true, true, true, true, true, true, true, true, true, true, true, true, true, true, true, true, true, true, true, false, false, false, false, true, false, false] rfl rfl rfl rfl (two_of HT_.out (by kernel_rfl)) (by decide) (by decide) (fun K hK => ?_) (fun K hK => ?_)
                    · skip
                      refine goes_ Try.func33 (by kernel_rfl) rfl #[.agg #[.int .i64 x471000_1, .int .i64 x471001_1, .int .i64 x471002_1, .int .i64 x471003_1, .bool x471004_1], .int .i64 (Int.tmod (wrap64 ((rd_T54 l1 x8_1).f0)) 4), .int .i64 (wrap64 ((rd_T54 l1 x8_1).f1)), .int .i64 (wrap64 ((rd_T54 l1 x8_1).f2))] (by rfl) rfl rfl (by (try simp only [List.map_toArray, List.map_cons, List.map_nil]); first | done | rfl | (simp only [List.length_drop, List.length_take]; rfl)) ?_
                      with_reducible refine (ambidexterref25_Tick.calls k1 x471000_1 x471001_1 x471002_1 x471003_1 x471004_1 (Int.tmod (wrap64 ((rd_T54 l1 x8_1).f0)) 4) (wrap64 ((rd_T54 l1 x8_1).f1)) (wrap64 ((rd_T54 l1 x8_1).f2)) t484 t485 t486 t487 t488 t489 _ A19.out).mono ?_
                      rintro e w36 ⟨rfl, hb⟩
                      refine ⟨_, rfl, ?_⟩
                      have n0_ := Aside0.mk (blk_below (g := gb464) (o := .cells #[.int .i64 x465000_1, .int .i64 x465001_1, .int .i64 x465002_1, .int .i64 x465003_1, .bool x465004_1] 49 (0, 0)) (by (with_reducible repeat (first | refine blk_drewN ?_ _ | refine blk_drew ?_ | refine blk_alloc ?_ _)); exact BK464.out) hb)
                      have n1_ := Aside0.mk (blk_below (g := gb470) (o := .cells #[.int .i64 x471000_1, .int .i64 x471001_1, .int .i64 x471002_1, .int .i64 x471003_1, .bool x471004_1] 49 (0, 0)) (by (with_reducible repeat (first | refine blk_drewN ?_ _ | refine blk_drew ?_ | refine blk_alloc ?_ _)); exact BK470.out) hb)
                      have n2_ := Aside0.mk (blk_below (g := gb480) (o := .cells #[.int .i64 t474, .int .i64 t475, .int .i64 t476, .int .i64 t477, .bool t478] 49 (0, 0)) (by (with_reducible repeat (first | refine blk_drewN ?_ _ | refine blk_drew ?_ | refine blk_alloc ?_ _)); exact BK480.out) hb)
                      have n3_ := Aside0.mk (below_step (by repeat (first | (with_reducible first | exact HB.out | apply below_alloc | apply pw_below_drewN | apply below_drew1 | refine below_set ?_ GE464.out | refine below_set ?_ GE470.out | refine below_set ?_ GE480.out) | exact HB.out)) hb)
                      clear BK464
                      clear BK470
                      clear BK480
                      clear HB
                      have BK464 := n0_
                      have BK470 := n1_
                      have BK480 := n2_
                      have HB := n3_
                      clear n0_ n1_ n2_ n3_
                      (try clear hb)
                      (try clear hb2)
                      (try clear hk)
                      (try clear hi)
                      refine hK.out _ _ ⟨(blk_cell BK470.out 0).trans rfl, (blk_cell BK470.out 1).trans rfl, (blk_cell BK470.out 2).trans rfl, (blk_cell BK470.out 3).trans rfl, (blk_cell BK470.out 4).trans rfl, ((HB.out.cell (World.block_lt_of_cell? w _ hw481_0)).trans hw481_0), ((HB.out.cell (World.block_lt_of_cell? w _ hw481_1)).trans hw481_1), ((HB.out.cell (World.block_lt_of_cell? w _ hw481_2)).trans hw481_2), ((HB.out.cell (World.block_lt_of_cell? w _ hw482_0)).trans hw482_0), ((HB.out.cell (World.block_lt_of_cell? w _ hw482_1)).trans hw482_1), ((HB.out.cell (World.block_lt_of_cell? w _ hw482_2)).trans hw482_2), ((HB.out.cell (World.block_lt_of_cell? w _ hw483_0)).trans hw483_0), ((HB.out.cell (World.block_lt_of_cell? w _ hw483_1)).trans hw483_1), ((HB.out.cell (World.block_lt_of_cell? w _ hw483_2)).trans hw483_2)⟩ (fun hHeld => ?_)
                      clear hK K
                      refine norm_ (a' := ?_) ?_ ?_
                      rotate_left
                      · show Act.put _ (some 75) _ = _
                        simp only [Act.put, List.setIfInBounds_toArray, List.set_cons_zero, List.set_cons_succ, i64_w, i32_w]
                        rfl
                      refine pure_ (i := 21) (N := some 54) (v := ?_) (a' := ?_) #[true, true, true, true, true, true, true, true, true, true, true, true, true, true, true, true, true, true, true, true, true, true, false, false, false, false, false] rfl rfl (any_of HT_.out (by kernel_rfl)) (fun _ _ _ h => h) (Or.inl ⟨by rfl, ?_⟩) ?_ ?_
                      rotate_left
                      · intro w'
                        go_simp
                        with_reducible rfl
                      rotate_left
                      · simp only [Act.put, List.setIfInBounds_toArray, List.set_cons_zero, List.set_cons_succ, i64_w, i32_w]
                        rfl
                      refine pure_ (i := 22) (N := some 76) (v := ?_) (a' := ?_) #[true, true, true, true, true, true, true, true, true, true, true, true, true, true, true, true, true, true, true, true, true, true, true, false, false, false, false] rfl rfl (any_of HT_.out (by kernel_rfl)) (fun _ _ _ h => h) (Or.inl ⟨by rfl, ?_⟩) ?_ ?_
                      rotate_left
                      · intro w'
                        go_simp
                        with_reducible rfl
                      rotate_left
                      · simp only [Act.put, List.setIfInBounds_toArray, List.set_cons_zero, List.set_cons_succ, i64_w, i32_w]
                        rfl
                      refine pure_ (i := 23) (N := some 77) (v := ?_) (a' := ?_) #[true, true, true, true, true, true, true, true, true, true, true, true, true, true, true, true, true, true, true, true, true, true, true, true, false, false, false] rfl rfl (any_of HT_.out (by kernel_rfl)) (fun _ _ _ h => h) (Or.inl ⟨by rfl, ?_⟩) ?_ ?_
                      rotate_left
                      · intro w'
                        go_simp
                        with_reducible rfl
                      rotate_left
                      · simp only [Act.put, List.setIfInBounds_toArray, List.set_cons_zero, List.set_cons_succ, i64_w, i32_w]
                        rfl
                      refine one_ (i := 24) (N := some 11) #[true, true, true, true, true, true, true, true, true, true, true, true, true, true, true, true, true, true, true, true, true, true, true, true, true, false, false] rfl rfl (one_of HT_.out (by kernel_rfl)) (by decide) (fun K hK => ?_)
                      refine box_step ?hg (N := 11) ?hd (cs := #[.int .i64 0, .int .i64 0, .int .i64 0, .int .i64 0, .bool false]) (t := 49) ?hr ?_; (case hd => rfl); (case hg => rfl); (case hr => first | (go_simp; done) | (go_simp; rfl))
                      intro gb490 hg w37 hbox hb
                      have n0_ := Aside0.mk (blk_below (g := gb464) (o := .cells #[.int .i64 x465000_1, .int .i64 x465001_1, .int .i64 x465002_1, .int .i64 x465003_1, .bool x465004_1] 49 (0, 0)) (by (with_reducible repeat (first | refine blk_drewN ?_ _ | refine blk_drew ?_ | refine blk_alloc ?_ _)); exact BK464.out) hb)
                      have n1_ := Aside0.mk (blk_below (g := gb470) (o := .cells #[.int .i64 x471000_1, .int .i64 x471001_1, .int .i64 x471002_1, .int .i64 x471003_1, .bool x471004_1] 49 (0, 0)) (by (with_reducible repeat (first | refine blk_drewN ?_ _ | refine blk_drew ?_ | refine blk_alloc ?_ _)); exact BK470.out) hb)
                      have n2_ := Aside0.mk (blk_below (g := gb480) (o := .cells #[.int .i64 t474, .int .i64 t475, .int .i64 t476, .int .i64 t477, .bool t478] 49 (0, 0)) (by (with_reducible repeat (first | refine blk_drewN ?_ _ | refine blk_drew ?_ | refine blk_alloc ?_ _)); exact BK480.out) hb)
                      have n3_ := Aside0.mk (below_step (by repeat (first | (with_reducible first | exact HB.out | apply below_alloc | apply pw_below_drewN | apply below_drew1 | refine below_set ?_ GE464.out | refine below_set ?_ GE470.out | refine below_set ?_ GE480.out) | exact HB.out)) hb)
                      have n4_ := Aside0.mk (hbox)
                      have n5_ := Aside0.mk ((by rw [hg]; exact (below_size (by repeat (first | (with_reducible first | exact HB.out | apply below_alloc | apply pw_below_drewN | apply below_drew1 | refine below_set ?_ GE464.out | refine below_set ?_ GE470.out | refine below_set ?_ GE480.out) | exact HB.out))) : w.heap.size ≤ gb490))
                      have n6_ := Aside0.mk ((by rw [hg]; exact (below_size (by repeat (first | (with_reducible first | exact HB.out | apply below_alloc | apply pw_below_drewN | apply below_drew1 | refine below_set ?_ GE464.out | refine below_set ?_ GE470.out | refine below_set ?_ GE480.out) | exact HB.out))) : w.heap.size ≤ gb490))
                      have n7_ := Aside0.mk ((by rw [hg]; exact Nat.ne_of_lt (blk_lt (g := gb464) (o := .cells #[.int .i64 x465000_1, .int .i64 x465001_1, .int .i64 x465002_1, .int .i64 x465003_1, .bool x465004_1] 49 (0, 0)) (by (with_reducible repeat (first | refine blk_drewN ?_ _ | refine blk_drew ?_ | refine blk_alloc ?_ _)); exact BK464.out)) : gb464 ≠ gb490))
                      have n8_ := Aside0.mk ((by rw [hg]; exact Nat.ne_of_gt (blk_lt (g := gb464) (o := .cells #[.int .i64 x465000_1, .int .i64 x465001_1, .int .i64 x465002_1, .int .i64 x465003_1, .bool x465004_1] 49 (0, 0)) (by (with_reducible repeat (first | refine blk_drewN ?_ _ | refine blk_drew ?_ | refine blk_alloc ?_ _)); exact BK464.out)) : gb490 ≠ gb464))
                      have n9_ := Aside0.mk ((by rw [hg]; exact Nat.ne_of_lt (blk_lt (g := gb470) (o := .cells #[.int .i64 x471000_1, .int .i64 x471001_1, .int .i64 x471002_1, .int .i64 x471003_1, .bool x471004_1] 49 (0, 0)) (by (with_reducible repeat (first | refine blk_drewN ?_ _ | refine blk_drew ?_ | refine blk_alloc ?_ _)); exact BK470.out)) : gb470 ≠ gb490))
                      have n10_ := Aside0.mk ((by rw [hg]; exact Nat.ne_of_gt (blk_lt (g := gb470) (o := .cells #[.int .i64 x471000_1, .int .i64 x471001_1, .int .i64 x471002_1, .int .i64 x471003_1, .bool x471004_1] 49 (0, 0)) (by (with_reducible repeat (first | refine blk_drewN ?_ _ | refine blk_drew ?_ | refine blk_alloc ?_ _)); exact BK470.out)) : gb490 ≠ gb470))
                      have n11_ := Aside0.mk ((by rw [hg]; exact Nat.ne_of_lt (blk_lt (g := gb480) (o := .cells #[.int .i64 t474, .int .i64 t475, .int .i64 t476, .int .i64 t477, .bool t478] 49 (0, 0)) (by (with_reducible repeat (first | refine blk_drewN ?_ _ | refine blk_drew ?_ | refine blk_alloc ?_ _)); exact BK480.out)) : gb480 ≠ gb490))
                      have n12_ := Aside0.mk ((by rw [hg]; exact Nat.ne_of_gt (blk_lt (g := gb480) (o := .cells #[.int .i64 t474, .int .i64 t475, .int .i64 t476, .int .i64 t477, .bool t478] 49 (0, 0)) (by (with_reducible repeat (first | refine blk_drewN ?_ _ | refine blk_drew ?_ | refine blk_alloc ?_ _)); exact BK480.out)) : gb490 ≠ gb480))
                      clear BK464
                      clear BK470
                      clear BK480
                      clear HB
                      have BK464 := n0_
                      have BK470 := n1_
                      have BK480 := n2_
                      have HB := n3_
                      have BK490 := n4_
                      have GW490 := n5_
                      have GE490 := n6_
                      have NB464_490 := n7_
                      have NB490_464 := n8_
                      have NB470_490 := n9_
                      have NB490_470 := n10_
                      have NB480_490 := n11_
                      have NB490_480 := n12_
                      clear n0_ n1_ n2_ n3_ n4_ n5_ n6_ n7_ n8_ n9_ n10_ n11_ n12_
                      clear hb hbox hg
                      refine hK.out _ _ ⟨(blk_cell BK470.out 0).trans rfl, (blk_cell BK470.out 1).trans rfl, (blk_cell BK470.out 2).trans rfl, (blk_cell BK470.out 3).trans rfl, (blk_cell BK470.out 4).trans rfl, ((HB.out.cell (World.block_lt_of_cell? w _ hw481_0)).trans hw481_0), ((HB.out.cell (World.block_lt_of_cell? w _ hw481_1)).trans hw481_1), ((HB.out.cell (World.block_lt_of_cell? w _ hw481_2)).trans hw481_2), ((HB.out.cell (World.block_lt_of_cell? w _ hw482_0)).trans hw482_0), ((HB.out.cell (World.block_lt_of_cell? w _ hw482_1)).trans hw482_1), ((HB.out.cell (World.block_lt_of_cell? w _ hw482_2)).trans hw482_2), ((HB.out.cell (World.block_lt_of_cell? w _ hw483_0)).trans hw483_0), ((HB.out.cell (World.block_lt_of_cell? w _ hw483_1)).trans hw483_1), ((HB.out.cell (World.block_lt_of_cell? w _ hw483_2)).trans hw483_2)⟩ (fun hHeld => ?_)
                      clear hK K
                      refine norm_ (a' := ?_) ?_ ?_
                      rotate_left
                      · show Act.put _ (some 11) _ = _
                        simp only [Act.put, List.setIfInBounds_toArray, List.set_cons_zero, List.set_cons_succ, i64_w, i32_w]
                        rfl
                      exact norm_ (by simp only [putAll, Act.put, List.setIfInBounds_toArray, List.set_cons_zero, List.set_cons_succ]) (hCont (gb490) _ ⟨hHeld, (by (with_reducible repeat (first | refine blk_drewN ?_ _ | refine blk_drew ?_ | refine blk_alloc ?_ _)); exact BK464.out), (by (with_reducible repeat (first | refine blk_drewN ?_ _ | refine blk_drew ?_ | refine blk_alloc ?_ _)); exact BK470.out), (by (with_reducible repeat (first | refine blk_drewN ?_ _ | refine blk_drew ?_ | refine blk_alloc ?_ _)); exact BK480.out), (by (with_reducible repeat (first | refine blk_drewN ?_ _ | refine blk_drew ?_ | refine blk_alloc ?_ _)); exact BK490.out), GW490.out, GE490.out, NB464_490.out, NB490_464.out, NB470_490.out, NB490_470.out, NB480_490.out, NB490_480.out, (by repeat (first | (with_reducible first | exact HB.out | apply below_alloc | apply pw_below_drewN | apply below_drew1 | refine below_set ?_ GE464.out | refine below_set ?_ GE470.out | refine below_set ?_ GE480.out | refine below_set ?_ GE490.out) | exact HB.out))⟩)
                    · skip
                      refine box_step ?hg (N := 11) ?hd (cs := #[.int .i64 0, .int .i64 0, .int .i64 0, .int .i64 0, .bool false]) (t := 49) ?hr ?_; (case hd => rfl); (case hg => rfl); (case hr => first | (go_simp; done) | (go_simp; rfl))
                      intro gb490 hg w36 hbox hb
                      have n0_ := Aside0.mk (blk_below (g := gb464) (o := .cells #[.int .i64 x465000_1, .int .i64 x465001_1, .int .i64 x465002_1, .int .i64 x465003_1, .bool x465004_1] 49 (0, 0)) (by (with_reducible repeat (first | refine blk_drewN ?_ _ | refine blk_drew ?_ | refine blk_alloc ?_ _)); exact BK464.out) hb)
                      have n1_ := Aside0.mk (blk_below (g := gb470) (o := .cells #[.int .i64 x471000_1, .int .i64 x471001_1, .int .i64 x471002_1, .int .i64 x471003_1, .bool x471004_1] 49 (0, 0)) (by (with_reducible repeat (first | refine blk_drewN ?_ _ | refine blk_drew ?_ | refine blk_alloc ?_ _)); exact BK470.out) hb)
                      have n2_ := Aside0.mk (blk_below (g := gb480) (o := .cells #[.int .i64 t474, .int .i64 t475, .int .i64 t476, .int .i64 t477, .bool t478] 49 (0, 0)) (by (with_reducible repeat (first | refine blk_drewN ?_ _ | refine blk_drew ?_ | refine blk_alloc ?_ _)); exact BK480.out) hb)
                      have n3_ := Aside0.mk (below_step (by repeat (first | (with_reducible first | exact HB.out | apply below_alloc | apply pw_below_drewN | apply below_drew1 | refine below_set ?_ GE464.out | refine below_set ?_ GE470.out | refine below_set ?_ GE480.out) | exact HB.out)) hb)
                      have n4_ := Aside0.mk (hbox)
                      have n5_ := Aside0.mk ((by rw [hg]; exact (below_size (by repeat (first | (with_reducible first | exact HB.out | apply below_alloc | apply pw_below_drewN | apply below_drew1 | refine below_set ?_ GE464.out | refine below_set ?_ GE470.out | refine below_set ?_ GE480.out) | exact HB.out))) : w.heap.size ≤ gb490))
                      have n6_ := Aside0.mk ((by rw [hg]; exact (below_size (by repeat (first | (with_reducible first | exact HB.out | apply below_alloc | apply pw_below_drewN | apply below_drew1 | refine below_set ?_ GE464.out | refine below_set ?_ GE470.out | refine below_set ?_ GE480.out) | exact HB.out))) : w.heap.size ≤ gb490))
                      have n7_ := Aside0.mk ((by rw [hg]; exact Nat.ne_of_lt (blk_lt (g := gb464) (o := .cells #[.int .i64 x465000_1, .int .i64 x465001_1, .int .i64 x465002_1, .int .i64 x465003_1, .bool x465004_1] 49 (0, 0)) (by (with_reducible repeat (first | refine blk_drewN ?_ _ | refine blk_drew ?_ | refine blk_alloc ?_ _)); exact BK464.out)) : gb464 ≠ gb490))
                      have n8_ := Aside0.mk ((by rw [hg]; exact Nat.ne_of_gt (blk_lt (g := gb464) (o := .cells #[.int .i64 x465000_1, .int .i64 x465001_1, .int .i64 x465002_1, .int .i64 x465003_1, .bool x465004_1] 49 (0, 0)) (by (with_reducible repeat (first | refine blk_drewN ?_ _ | refine blk_drew ?_ | refine blk_alloc ?_ _)); exact BK464.out)) : gb490 ≠ gb464))
                      have n9_ := Aside0.mk ((by rw [hg]; exact Nat.ne_of_lt (blk_lt (g := gb470) (o := .cells #[.int .i64 x471000_1, .int .i64 x471001_1, .int .i64 x471002_1, .int .i64 x471003_1, .bool x471004_1] 49 (0, 0)) (by (with_reducible repeat (first | refine blk_drewN ?_ _ | refine blk_drew ?_ | refine blk_alloc ?_ _)); exact BK470.out)) : gb470 ≠ gb490))
                      have n10_ := Aside0.mk ((by rw [hg]; exact Nat.ne_of_gt (blk_lt (g := gb470) (o := .cells #[.int .i64 x471000_1, .int .i64 x471001_1, .int .i64 x471002_1, .int .i64 x471003_1, .bool x471004_1] 49 (0, 0)) (by (with_reducible repeat (first | refine blk_drewN ?_ _ | refine blk_drew ?_ | refine blk_alloc ?_ _)); exact BK470.out)) : gb490 ≠ gb470))
                      have n11_ := Aside0.mk ((by rw [hg]; exact Nat.ne_of_lt (blk_lt (g := gb480) (o := .cells #[.int .i64 t474, .int .i64 t475, .int .i64 t476, .int .i64 t477, .bool t478] 49 (0, 0)) (by (with_reducible repeat (first | refine blk_drewN ?_ _ | refine blk_drew ?_ | refine blk_alloc ?_ _)); exact BK480.out)) : gb480 ≠ gb490))
                      have n12_ := Aside0.mk ((by rw [hg]; exact Nat.ne_of_gt (blk_lt (g := gb480) (o := .cells #[.int .i64 t474, .int .i64 t475, .int .i64 t476, .int .i64 t477, .bool t478] 49 (0, 0)) (by (with_reducible repeat (first | refine blk_drewN ?_ _ | refine blk_drew ?_ | refine blk_alloc ?_ _)); exact BK480.out)) : gb490 ≠ gb480))
                      clear BK464
                      clear BK470
                      clear BK480
                      clear HB
                      have BK464 := n0_
                      have BK470 := n1_
                      have BK480 := n2_
                      have HB := n3_
                      have BK490 := n4_
                      have GW490 := n5_
                      have GE490 := n6_
                      have NB464_490 := n7_
                      have NB490_464 := n8_
                      have NB470_490 := n9_
                      have NB490_470 := n10_
                      have NB480_490 := n11_
                      have NB490_480 := n12_
                      clear n0_ n1_ n2_ n3_ n4_ n5_ n6_ n7_ n8_ n9_ n10_ n11_ n12_
                      clear hb hbox hg
                      refine hK.out _ _ ⟨(blk_cell BK470.out 0).trans rfl, (blk_cell BK470.out 1).trans rfl, (blk_cell BK470.out 2).trans rfl, (blk_cell BK470.out 3).trans rfl, (blk_cell BK470.out 4).trans rfl, ((HB.out.cell (World.block_lt_of_cell? w _ hw481_0)).trans hw481_0), ((HB.out.cell (World.block_lt_of_cell? w _ hw481_1)).trans hw481_1), ((HB.out.cell (World.block_lt_of_cell? w _ hw481_2)).trans hw481_2), ((HB.out.cell (World.block_lt_of_cell? w _ hw482_0)).trans hw482_0), ((HB.out.cell (World.block_lt_of_cell? w _ hw482_1)).trans hw482_1), ((HB.out.cell (World.block_lt_of_cell? w _ hw482_2)).trans hw482_2), ((HB.out.cell (World.block_lt_of_cell? w _ hw483_0)).trans hw483_0), ((HB.out.cell (World.block_lt_of_cell? w _ hw483_1)).trans hw483_1), ((HB.out.cell (World.block_lt_of_cell? w _ hw483_2)).trans hw483_2)⟩ (fun hHeld => ?_)
                      clear hK K
                      refine norm_ (a' := ?_) ?_ ?_
                      rotate_left
                      · show Act.put _ (some 11) _ = _
                        simp only [Act.put, List.setIfInBounds_toArray, List.set_cons_zero, List.set_cons_succ, i64_w, i32_w]
                        rfl
                      refine one_ (i := 20) (N := some 75) #[true, true, true, true, true, true, true, true, true, true, true, true, true, true, true, true, true, true, true, true, true, false, false, false, true, false, false] rfl rfl (one_of HT_.out (by kernel_rfl)) (by decide) (fun K hK => ?_)
                      refine goes_ Try.func33 (by kernel_rfl) rfl #[.agg #[.int .i64 x471000_1, .int .i64 x471001_1, .int .i64 x471002_1, .int .i64 x471003_1, .bool x471004_1], .int .i64 (Int.tmod (wrap64 ((rd_T54 l1 x8_1).f0)) 4), .int .i64 (wrap64 ((rd_T54 l1 x8_1).f1)), .int .i64 (wrap64 ((rd_T54 l1 x8_1).f2))] (by rfl) rfl rfl (by (try simp only [List.map_toArray, List.map_cons, List.map_nil]); first | done | rfl | (simp only [List.length_drop, List.length_take]; rfl)) ?_
                      with_reducible refine (ambidexterref25_Tick.calls k1 x471000_1 x471001_1 x471002_1 x471003_1 x471004_1 (Int.tmod (wrap64 ((rd_T54 l1 x8_1).f0)) 4) (wrap64 ((rd_T54 l1 x8_1).f1)) (wrap64 ((rd_T54 l1 x8_1).f2)) t484 t485 t486 t487 t488 t489 _ A19.out).mono ?_
                      rintro e w37 ⟨rfl, hb⟩
                      refine ⟨_, rfl, ?_⟩
                      have n0_ := Aside0.mk (blk_below (g := gb464) (o := .cells #[.int .i64 x465000_1, .int .i64 x465001_1, .int .i64 x465002_1, .int .i64 x465003_1, .bool x465004_1] 49 (0, 0)) (by (with_reducible repeat (first | refine blk_drewN ?_ _ | refine blk_drew ?_ | refine blk_alloc ?_ _)); exact BK464.out) hb)
                      have n1_ := Aside0.mk (blk_below (g := gb470) (o := .cells #[.int .i64 x471000_1, .int .i64 x471001_1, .int .i64 x471002_1, .int .i64 x471003_1, .bool x471004_1] 49 (0, 0)) (by (with_reducible repeat (first | refine blk_drewN ?_ _ | refine blk_drew ?_ | refine blk_alloc ?_ _)); exact BK470.out) hb)
                      have n2_ := Aside0.mk (blk_below (g := gb480) (o := .cells #[.int .i64 t474, .int .i64 t475, .int .i64 t476, .int .i64 t477, .bool t478] 49 (0, 0)) (by (with_reducible repeat (first | refine blk_drewN ?_ _ | refine blk_drew ?_ | refine blk_alloc ?_ _)); exact BK480.out) hb)
                      have n3_ := Aside0.mk (blk_below (g := gb490) (o := .cells #[.int .i64 0, .int .i64 0, .int .i64 0, .int .i64 0, .bool false] 49 (0, 0)) (by (with_reducible repeat (first | refine blk_drewN ?_ _ | refine blk_drew ?_ | refine blk_alloc ?_ _)); exact BK490.out) hb)
                      have n4_ := Aside0.mk (below_step (by repeat (first | (with_reducible first | exact HB.out | apply below_alloc | apply pw_below_drewN | apply below_drew1 | refine below_set ?_ GE464.out | refine below_set ?_ GE470.out | refine below_set ?_ GE480.out | refine below_set ?_ GE490.out) | exact HB.out)) hb)
                      clear BK464
                      clear BK470
                      clear BK480
                      clear BK490
                      clear HB
                      have BK464 := n0_
                      have BK470 := n1_
                      have BK480 := n2_
                      have BK490 := n3_
                      have HB := n4_
                      clear n0_ n1_ n2_ n3_ n4_
                      (try clear hb)
                      (try clear hb2)
                      (try clear hk)
                      (try clear hi)
                      refine hK.out _ _ ⟨(blk_cell BK470.out 0).trans rfl, (blk_cell BK470.out 1).trans rfl, (blk_cell BK470.out 2).trans rfl, (blk_cell BK470.out 3).trans rfl, (blk_cell BK470.out 4).trans rfl, ((HB.out.cell (World.block_lt_of_cell? w _ hw481_0)).trans hw481_0), ((HB.out.cell (World.block_lt_of_cell? w _ hw481_1)).trans hw481_1), ((HB.out.cell (World.block_lt_of_cell? w _ hw481_2)).trans hw481_2), ((HB.out.cell (World.block_lt_of_cell? w _ hw482_0)).trans hw482_0), ((HB.out.cell (World.block_lt_of_cell? w _ hw482_1)).trans hw482_1), ((HB.out.cell (World.block_lt_of_cell? w _ hw482_2)).trans hw482_2), ((HB.out.cell (World.block_lt_of_cell? w _ hw483_0)).trans hw483_0), ((HB.out.cell (World.block_lt_of_cell? w _ hw483_1)).trans hw483_1), ((HB.out.cell (World.block_lt_of_cell? w _ hw483_2)).trans hw483_2)⟩ (fun hHeld => ?_)
                      clear hK K
                      refine norm_ (a' := ?_) ?_ ?_
                      rotate_left
                      · show Act.put _ (some 75) _ = _
                        simp only [Act.put, List.setIfInBounds_toArray, List.set_cons_zero, List.set_cons_succ, i64_w, i32_w]
                        rfl
                      refine pure_ (i := 21) (N := some 54) (v := ?_) (a' := ?_) #[true, true, true, true, true, true, true, true, true, true, true, true, true, true, true, true, true, true, true, true, true, true, false, false, true, false, false] rfl rfl (any_of HT_.out (by kernel_rfl)) (fun _ _ _ h => h) (Or.inl ⟨by rfl, ?_⟩) ?_ ?_
                      rotate_left
                      · intro w'
                        go_simp
                        with_reducible rfl
                      rotate_left
                      · simp only [Act.put, List.setIfInBounds_toArray, List.set_cons_zero, List.set_cons_succ, i64_w, i32_w]
                        rfl
                      refine pure_ (i := 22) (N := some 76) (v := ?_) (a' := ?_) #[true, true, true, true, true, true, true, true, true, true, true, true, true, true, true, true, true, true, true, true, true, true, true, false, true, false, false] rfl rfl (any_of HT_.out (by kernel_rfl)) (fun _ _ _ h => h) (Or.inl ⟨by rfl, ?_⟩) ?_ ?_
                      rotate_left
                      · intro w'
                        go_simp
                        with_reducible rfl
                      rotate_left
                      · simp only [Act.put, List.setIfInBounds_toArray, List.set_cons_zero, List.set_cons_succ, i64_w, i32_w]
                        rfl
                      refine pure_ (i := 23) (N := some 77) (v := ?_) (a' := ?_) #[true, true, true, true, true, true, true, true, true, true, true, true, true, true, true, true, true, true, true, true, true, true, true, true, true, false, false] rfl rfl (any_of HT_.out (by kernel_rfl)) (fun _ _ _ h => h) (Or.inl ⟨by rfl, ?_⟩) ?_ ?_
                      rotate_left
                      · intro w'
                        go_simp
                        with_reducible rfl
                      rotate_left
                      · simp only [Act.put, List.setIfInBounds_toArray, List.set_cons_zero, List.set_cons_succ, i64_w, i32_w]
                        rfl
                      exact norm_ (by simp only [putAll, Act.put, List.setIfInBounds_toArray, List.set_cons_zero, List.set_cons_succ]) (hCont (gb490) _ ⟨hHeld, (by (with_reducible repeat (first | refine blk_drewN ?_ _ | refine blk_drew ?_ | refine blk_alloc ?_ _)); exact BK464.out), (by (with_reducible repeat (first | refine blk_drewN ?_ _ | refine blk_drew ?_ | refine blk_alloc ?_ _)); exact BK470.out), (by (with_reducible repeat (first | refine blk_drewN ?_ _ | refine blk_drew ?_ | refine blk_alloc ?_ _)); exact BK480.out), (by (with_reducible repeat (first | refine blk_drewN ?_ _ | refine blk_drew ?_ | refine blk_alloc ?_ _)); exact BK490.out), GW490.out, GE490.out, NB464_490.out, NB490_464.out, NB470_490.out, NB490_470.out, NB480_490.out, NB490_480.out, (by repeat (first | (with_reducible first | exact HB.out | apply below_alloc | apply pw_below_drewN | apply below_drew1 | refine below_set ?_ GE464.out | refine below_set ?_ GE470.out | refine below_set ?_ GE480.out | refine below_set ?_ GE490.out) | exact HB.out))⟩)
                  rintro gb490 w38 ⟨hS_, h0_, h1_, h2_, h3_, h4_, h5_, h6_, h7_, h8_, h9_, h10_, h11_, h12_⟩
                  have n0_ : Aside0 (w38.heap[gb464]? = some (.cells #[.int .i64 x465000_1, .int .i64 x465001_1, .int .i64 x465002_1, .int .i64 x465003_1, .bool x465004_1] 49 (0, 0))) := ⟨h0_⟩
                  have n1_ : Aside0 (w38.heap[gb470]? = some (.cells #[.int .i64 x471000_1, .int .i64 x471001_1, .int .i64 x471002_1, .int .i64 x471003_1, .bool x471004_1] 49 (0, 0))) := ⟨h1_⟩
                  have n2_ : Aside0 (w38.heap[gb480]? = some (.cells #[.int .i64 t474, .int .i64 t475, .int .i64 t476, .int .i64 t477, .bool t478] 49 (0, 0))) := ⟨h2_⟩
                  have n3_ : Aside0 (w38.heap[gb490]? = some (.cells #[.int .i64 0, .int .i64 0, .int .i64 0, .int .i64 0, .bool false] 49 (0, 0))) := ⟨h3_⟩
                  have n4_ : Aside0 (w.heap.size ≤ gb490) := ⟨h4_⟩
                  have n5_ : Aside0 (w.heap.size ≤ gb490) := ⟨h5_⟩
                  have n6_ : Aside0 (gb464 ≠ gb490) := ⟨h6_⟩
                  have n7_ : Aside0 (gb490 ≠ gb464) := ⟨h7_⟩
                  have n8_ : Aside0 (gb470 ≠ gb490) := ⟨h8_⟩
                  have n9_ : Aside0 (gb490 ≠ gb470) := ⟨h9_⟩
                  have n10_ : Aside0 (gb480 ≠ gb490) := ⟨h10_⟩
                  have n11_ : Aside0 (gb490 ≠ gb480) := ⟨h11_⟩
                  have n12_ : Aside0 (Below w.heap.size w w38) := ⟨h12_⟩
                  clear BK464
                  clear BK470
                  clear BK480
                  clear HB
                  clear h0_ h1_ h2_ h3_ h4_ h5_ h6_ h7_ h8_ h9_ h10_ h11_ h12_
                  have BK464 := n0_
                  have BK470 := n1_
                  have BK480 := n2_
                  have BK490 := n3_
                  have GW490 := n4_
                  have GE490 := n5_
                  have NB464_490 := n6_
                  have NB490_464 := n7_
                  have NB470_490 := n8_
                  have NB490_470 := n9_
                  have NB480_490 := n10_
                  have NB490_480 := n11_
                  have HB := n12_
                  clear n0_ n1_ n2_ n3_ n4_ n5_ n6_ n7_ n8_ n9_ n10_ n11_ n12_
                  have hHeld : w38.cell? ⟨gb470, 0, none⟩ = some (.int .i64 x471000_1) ∧ w38.cell? ⟨gb470, 1, none⟩ = some (.int .i64 x471001_1) ∧ w38.cell? ⟨gb470, 2, none⟩ = some (.int .i64 x471002_1) ∧ w38.cell? ⟨gb470, 3, none⟩ = some (.int .i64 x471003_1) ∧ w38.cell? ⟨gb470, 4, none⟩ = some (.bool x471004_1) ∧ w38.cell? (ad471.add ((x8_1).toNat * 3)) = some (.int .u8 ((rd_T54 l1 x8_1).f0)) ∧ w38.cell? ⟨(ad471.add ((x8_1).toNat * 3)).block, (ad471.add ((x8_1).toNat * 3)).off + 1, none⟩ = some (.int .i16 ((rd_T54 l1 x8_1).f1)) ∧ w38.cell? ⟨(ad471.add ((x8_1).toNat * 3)).block, (ad471.add ((x8_1).toNat * 3)).off + 2, none⟩ = some (.int .i16 ((rd_T54 l1 x8_1).f2)) ∧ w38.cell? (ad471.add ((x8_1).toNat * 3)) = some (.int .u8 ((rd_T54 l1 x8_1).f0)) ∧ w38.cell? ⟨(ad471.add ((x8_1).toNat * 3)).block, (ad471.add ((x8_1).toNat * 3)).off + 1, none⟩ = some (.int .i16 ((rd_T54 l1 x8_1).f1)) ∧ w38.cell? ⟨(ad471.add ((x8_1).toNat * 3)).block, (ad471.add ((x8_1).toNat * 3)).off + 2, none⟩ = some (.int .i16 ((rd_T54 l1 x8_1).f2)) ∧ w38.cell? (ad471.add ((x8_1).toNat * 3)) = some (.int .u8 ((rd_T54 l1 x8_1).f0)) ∧ w38.cell? ⟨(ad471.add ((x8_1).toNat * 3)).block, (ad471.add ((x8_1).toNat * 3)).off + 1, none⟩ = some (.int .i16 ((rd_T54 l1 x8_1).f1)) ∧ w38.cell? ⟨(ad471.add ((x8_1).toNat * 3)).block, (ad471.add ((x8_1).toNat * 3)).off + 2, none⟩ = some (.int .i16 ((rd_T54 l1 x8_1).f2)) := hS_
                  refine norm_ (a' := ?_) ?_ ?_
                  rotate_left
                  · simp only [putAll, Act.put, List.setIfInBounds_toArray, List.set_cons_zero, List.set_cons_succ]
                    rfl
                  refine one_ (i := 25) (N := none) #[true, true, true, true, true, true, true, true, true, true, true, true, true, true, true, true, true, true, true, true, true, true, true, true, true, true, false] rfl rfl (one_of HT_.out (by kernel_rfl)) (by decide) (fun K hK => ?_)
                  have hs39 : w38.cell? ⟨gb490, 0, none⟩ = some (.int .i64 0) := (blk_cell BK490.out 0).trans rfl
                  have hfs39 := blk_frozen BK490.out 0
                  have hns39_0 := NB464_490.out
                  have hns39_1 := NB470_490.out
                  have hns39_2 := NB480_490.out
                  have hms39_0 := NB490_464.out
                  have hms39_1 := NB490_470.out
                  have hms39_2 := NB490_480.out
                  have hs40 : w38.cell? ⟨gb490, 1, none⟩ = some (.int .i64 0) := (blk_cell BK490.out 1).trans rfl
                  have hfs40 := blk_frozen BK490.out 1
                  have hns40_0 := NB464_490.out
                  have hns40_1 := NB470_490.out
                  have hns40_2 := NB480_490.out
                  have hms40_0 := NB490_464.out
                  have hms40_1 := NB490_470.out
                  have hms40_2 := NB490_480.out
                  have hs41 : w38.cell? ⟨gb490, 2, none⟩ = some (.int .i64 0) := (blk_cell BK490.out 2).trans rfl
                  have hfs41 := blk_frozen BK490.out 2
                  have hns41_0 := NB464_490.out
                  have hns41_1 := NB470_490.out
                  have hns41_2 := NB480_490.out
                  have hms41_0 := NB490_464.out
                  have hms41_1 := NB490_470.out
                  have hms41_2 := NB490_480.out
                  have hs42 : w38.cell? ⟨gb490, 3, none⟩ = some (.int .i64 0) := (blk_cell BK490.out 3).trans rfl
                  have hfs42 := blk_frozen BK490.out 3
                  have hns42_0 := NB464_490.out
                  have hns42_1 := NB470_490.out
                  have hns42_2 := NB480_490.out
                  have hms42_0 := NB490_464.out
                  have hms42_1 := NB490_470.out
                  have hms42_2 := NB490_480.out
                  have hs43 : w38.cell? ⟨gb490, 4, none⟩ = some (.bool false) := (blk_cell BK490.out 4).trans rfl
                  have hfs43 := blk_frozen BK490.out 4
                  have hns43_0 := NB464_490.out
                  have hns43_1 := NB470_490.out
                  have hns43_2 := NB480_490.out
                  have hms43_0 := NB490_464.out
                  have hms43_1 := NB490_470.out
                  have hms43_2 := NB490_480.out
                  refine skip_ (w1 := ?_) (by rfl) rfl ?_ ?_
                  rotate_left
                  · go_simp
                    rfl
                  refine hK.out _ _ ⟨((cell_far (p := ⟨gb490, _, none⟩) NB470_490.out _).trans (((cell_far (p := ⟨gb490, _, none⟩) NB470_490.out _).trans (((cell_far (p := ⟨gb490, _, none⟩) NB470_490.out _).trans (((cell_far (p := ⟨gb490, _, none⟩) NB470_490.out _).trans (((cell_far (p := ⟨gb490, _, none⟩) NB470_490.out _).trans (hHeld.1)))))))))), ((cell_far (p := ⟨gb490, _, none⟩) NB470_490.out _).trans (((cell_far (p := ⟨gb490, _, none⟩) NB470_490.out _).trans (((cell_far (p := ⟨gb490, _, none⟩) NB470_490.out _).trans (((cell_far (p := ⟨gb490, _, none⟩) NB470_490.out _).trans (((cell_far (p := ⟨gb490, _, none⟩) NB470_490.out _).trans (hHeld.2.1)))))))))), ((cell_far (p := ⟨gb490, _, none⟩) NB470_490.out _).trans (((cell_far (p := ⟨gb490, _, none⟩) NB470_490.out _).trans (((cell_far (p := ⟨gb490, _, none⟩) NB470_490.out _).trans (((cell_far (p := ⟨gb490, _, none⟩) NB470_490.out _).trans (((cell_far (p := ⟨gb490, _, none⟩) NB470_490.out _).trans (hHeld.2.2.1)))))))))), ((cell_far (p := ⟨gb490, _, none⟩) NB470_490.out _).trans (((cell_far (p := ⟨gb490, _, none⟩) NB470_490.out _).trans (((cell_far (p := ⟨gb490, _, none⟩) NB470_490.out _).trans (((cell_far (p := ⟨gb490, _, none⟩) NB470_490.out _).trans (((cell_far (p := ⟨gb490, _, none⟩) NB470_490.out _).trans (hHeld.2.2.2.1)))))))))), ((cell_far (p := ⟨gb490, _, none⟩) NB470_490.out _).trans (((cell_far (p := ⟨gb490, _, none⟩) NB470_490.out _).trans (((cell_far (p := ⟨gb490, _, none⟩) NB470_490.out _).trans (((cell_far (p := ⟨gb490, _, none⟩) NB470_490.out _).trans (((cell_far (p := ⟨gb490, _, none⟩) NB470_490.out _).trans (hHeld.2.2.2.2.1)))))))))), ((cell_far (p := ⟨gb490, _, none⟩) (by first | exact Nat.ne_of_lt (Nat.lt_of_lt_of_le (by have := World.block_lt_of_cell? _ _ hw481_0; first | rwa [add_block] at this | exact this) GW490.out) | (rw [add_block]; exact Nat.ne_of_lt (Nat.lt_of_lt_of_le (by have := World.block_lt_of_cell? _ _ hw481_0; first | rwa [add_block] at this | exact this) GW490.out)) | (show (Addr.add _ _).block ≠ _; rw [add_block]; exact Nat.ne_of_lt (Nat.lt_of_lt_of_le (by have := World.block_lt_of_cell? _ _ hw481_0; first | rwa [add_block] at this | exact this) GW490.out)) | (dsimp only; exact Nat.ne_of_lt (Nat.lt_of_lt_of_le (by have := World.block_lt_of_cell? _ _ hw481_0; first | rwa [add_block] at this | exact this) GW490.out))) _).trans (((cell_far (p := ⟨gb490, _, none⟩) (by first | exact Nat.ne_of_lt (Nat.lt_of_lt_of_le (by have := World.block_lt_of_cell? _ _ hw481_0; first | rwa [add_block] at this | exact this) GW490.out) | (rw [add_block]; exact Nat.ne_of_lt (Nat.lt_of_lt_of_le (by have := World.block_lt_of_cell? _ _ hw481_0; first | rwa [add_block] at this | exact this) GW490.out)) | (show (Addr.add _ _).block ≠ _; rw [add_block]; exact Nat.ne_of_lt (Nat.lt_of_lt_of_le (by have := World.block_lt_of_cell? _ _ hw481_0; first | rwa [add_block] at this | exact this) GW490.out)) | (dsimp only; exact Nat.ne_of_lt (Nat.lt_of_lt_of_le (by have := World.block_lt_of_cell? _ _ hw481_0; first | rwa [add_block] at this | exact this) GW490.out))) _).trans (((cell_far (p := ⟨gb490, _, none⟩) (by first | exact Nat.ne_of_lt (Nat.lt_of_lt_of_le (by have := World.block_lt_of_cell? _ _ hw481_0; first | rwa [add_block] at this | exact this) GW490.out) | (rw [add_block]; exact Nat.ne_of_lt (Nat.lt_of_lt_of_le (by have := World.block_lt_of_cell? _ _ hw481_0; first | rwa [add_block] at this | exact this) GW490.out)) | (show (Addr.add _ _).block ≠ _; rw [add_block]; exact Nat.ne_of_lt (Nat.lt_of_lt_of_le (by have := World.block_lt_of_cell? _ _ hw481_0; first | rwa [add_block] at this | exact this) GW490.out)) | (dsimp only; exact Nat.ne_of_lt (Nat.lt_of_lt_of_le (by have := World.block_lt_of_cell? _ _ hw481_0; first | rwa [add_block] at this | exact this) GW490.out))) _).trans (((cell_far (p := ⟨gb490, _, none⟩) (by first | exact Nat.ne_of_lt (Nat.lt_of_lt_of_le (by have := World.block_lt_of_cell? _ _ hw481_0; first | rwa [add_block] at this | exact this) GW490.out) | (rw [add_block]; exact Nat.ne_of_lt (Nat.lt_of_lt_of_le (by have := World.block_lt_of_cell? _ _ hw481_0; first | rwa [add_block] at this | exact this) GW490.out)) | (show (Addr.add _ _).block ≠ _; rw [add_block]; exact Nat.ne_of_lt (Nat.lt_of_lt_of_le (by have := World.block_lt_of_cell? _ _ hw481_0; first | rwa [add_block] at this | exact this) GW490.out)) | (dsimp only; exact Nat.ne_of_lt (Nat.lt_of_lt_of_le (by have := World.block_lt_of_cell? _ _ hw481_0; first | rwa [add_block] at this | exact this) GW490.out))) _).trans (((cell_far (p := ⟨gb490, _, none⟩) (by first | exact Nat.ne_of_lt (Nat.lt_of_lt_of_le (by have := World.block_lt_of_cell? _ _ hw481_0; first | rwa [add_block] at this | exact this) GW490.out) | (rw [add_block]; exact Nat.ne_of_lt (Nat.lt_of_lt_of_le (by have := World.block_lt_of_cell? _ _ hw481_0; first | rwa [add_block] at this | exact this) GW490.out)) | (show (Addr.add _ _).block ≠ _; rw [add_block]; exact Nat.ne_of_lt (Nat.lt_of_lt_of_le (by have := World.block_lt_of_cell? _ _ hw481_0; first | rwa [add_block] at this | exact this) GW490.out)) | (dsimp only; exact Nat.ne_of_lt (Nat.lt_of_lt_of_le (by have := World.block_lt_of_cell? _ _ hw481_0; first | rwa [add_block] at this | exact this) GW490.out))) _).trans (hHeld.2.2.2.2.2.1)))))))))), ((cell_far (p := ⟨gb490, _, none⟩) (by first | exact Nat.ne_of_lt (Nat.lt_of_lt_of_le (by have := World.block_lt_of_cell? _ _ hw481_1; first | rwa [add_block] at this | exact this) GW490.out) | (rw [add_block]; exact Nat.ne_of_lt (Nat.lt_of_lt_of_le (by have := World.block_lt_of_cell? _ _ hw481_1; first | rwa [add_block] at this | exact this) GW490.out)) | (show (Addr.add _ _).block ≠ _; rw [add_block]; exact Nat.ne_of_lt (Nat.lt_of_lt_of_le (by have := World.block_lt_of_cell? _ _ hw481_1; first | rwa [add_block] at this | exact this) GW490.out)) | (dsimp only; exact Nat.ne_of_lt (Nat.lt_of_lt_of_le (by have := World.block_lt_of_cell? _ _ hw481_1; first | rwa [add_block] at this | exact this) GW490.out))) _).trans (((cell_far (p := ⟨gb490, _, none⟩) (by first | exact Nat.ne_of_lt (Nat.lt_of_lt_of_le (by have := World.block_lt_of_cell? _ _ hw481_1; first | rwa [add_block] at this | exact this) GW490.out) | (rw [add_block]; exact Nat.ne_of_lt (Nat.lt_of_lt_of_le (by have := World.block_lt_of_cell? _ _ hw481_1; first | rwa [add_block] at this | exact this) GW490.out)) | (show (Addr.add _ _).block ≠ _; rw [add_block]; exact Nat.ne_of_lt (Nat.lt_of_lt_of_le (by have := World.block_lt_of_cell? _ _ hw481_1; first | rwa [add_block] at this | exact this) GW490.out)) | (dsimp only; exact Nat.ne_of_lt (Nat.lt_of_lt_of_le (by have := World.block_lt_of_cell? _ _ hw481_1; first | rwa [add_block] at this | exact this) GW490.out))) _).trans (((cell_far (p := ⟨gb490, _, none⟩) (by first | exact Nat.ne_of_lt (Nat.lt_of_lt_of_le (by have := World.block_lt_of_cell? _ _ hw481_1; first | rwa [add_block] at this | exact this) GW490.out) | (rw [add_block]; exact Nat.ne_of_lt (Nat.lt_of_lt_of_le (by have := World.block_lt_of_cell? _ _ hw481_1; first | rwa [add_block] at this | exact this) GW490.out)) | (show (Addr.add _ _).block ≠ _; rw [add_block]; exact Nat.ne_of_lt (Nat.lt_of_lt_of_le (by have := World.block_lt_of_cell? _ _ hw481_1; first | rwa [add_block] at this | exact this) GW490.out)) | (dsimp only; exact Nat.ne_of_lt (Nat.lt_of_lt_of_le (by have := World.block_lt_of_cell? _ _ hw481_1; first | rwa [add_block] at this | exact this) GW490.out))) _).trans (((cell_far (p := ⟨gb490, _, none⟩) (by first | exact Nat.ne_of_lt (Nat.lt_of_lt_of_le (by have := World.block_lt_of_cell? _ _ hw481_1; first | rwa [add_block] at this | exact this) GW490.out) | (rw [add_block]; exact Nat.ne_of_lt (Nat.lt_of_lt_of_le (by have := World.block_lt_of_cell? _ _ hw481_1; first | rwa [add_block] at this | exact this) GW490.out)) | (show (Addr.add _ _).block ≠ _; rw [add_block]; exact Nat.ne_of_lt (Nat.lt_of_lt_of_le (by have := World.block_lt_of_cell? _ _ hw481_1; first | rwa [add_block] at this | exact this) GW490.out)) | (dsimp only; exact Nat.ne_of_lt (Nat.lt_of_lt_of_le (by have := World.block_lt_of_cell? _ _ hw481_1; first | rwa [add_block] at this | exact this) GW490.out))) _).trans (((cell_far (p := ⟨gb490, _, none⟩) (by first | exact Nat.ne_of_lt (Nat.lt_of_lt_of_le (by have := World.block_lt_of_cell? _ _ hw481_1; first | rwa [add_block] at this | exact this) GW490.out) | (rw [add_block]; exact Nat.ne_of_lt (Nat.lt_of_lt_of_le (by have := World.block_lt_of_cell? _ _ hw481_1; first | rwa [add_block] at this | exact this) GW490.out)) | (show (Addr.add _ _).block ≠ _; rw [add_block]; exact Nat.ne_of_lt (Nat.lt_of_lt_of_le (by have := World.block_lt_of_cell? _ _ hw481_1; first | rwa [add_block] at this | exact this) GW490.out)) | (dsimp only; exact Nat.ne_of_lt (Nat.lt_of_lt_of_le (by have := World.block_lt_of_cell? _ _ hw481_1; first | rwa [add_block] at this | exact this) GW490.out))) _).trans (hHeld.2.2.2.2.2.2.1)))))))))), ((cell_far (p := ⟨gb490, _, none⟩) (by first | exact Nat.ne_of_lt (Nat.lt_of_lt_of_le (by have := World.block_lt_of_cell? _ _ hw481_2; first | rwa [add_block] at this | exact this) GW490.out) | (rw [add_block]; exact Nat.ne_of_lt (Nat.lt_of_lt_of_le (by have := World.block_lt_of_cell? _ _ hw481_2; first | rwa [add_block] at this | exact this) GW490.out)) | (show (Addr.add _ _).block ≠ _; rw [add_block]; exact Nat.ne_of_lt (Nat.lt_of_lt_of_le (by have := World.block_lt_of_cell? _ _ hw481_2; first | rwa [add_block] at this | exact this) GW490.out)) | (dsimp only; exact Nat.ne_of_lt (Nat.lt_of_lt_of_le (by have := World.block_lt_of_cell? _ _ hw481_2; first | rwa [add_block] at this | exact this) GW490.out))) _).trans (((cell_far (p := ⟨gb490, _, none⟩) (by first | exact Nat.ne_of_lt (Nat.lt_of_lt_of_le (by have := World.block_lt_of_cell? _ _ hw481_2; first | rwa [add_block] at this | exact this) GW490.out) | (rw [add_block]; exact Nat.ne_of_lt (Nat.lt_of_lt_of_le (by have := World.block_lt_of_cell? _ _ hw481_2; first | rwa [add_block] at this | exact this) GW490.out)) | (show (Addr.add _ _).block ≠ _; rw [add_block]; exact Nat.ne_of_lt (Nat.lt_of_lt_of_le (by have := World.block_lt_of_cell? _ _ hw481_2; first | rwa [add_block] at this | exact this) GW490.out)) | (dsimp only; exact Nat.ne_of_lt (Nat.lt_of_lt_of_le (by have := World.block_lt_of_cell? _ _ hw481_2; first | rwa [add_block] at this | exact this) GW490.out))) _).trans (((cell_far (p := ⟨gb490, _, none⟩) (by first | exact Nat.ne_of_lt (Nat.lt_of_lt_of_le (by have := World.block_lt_of_cell? _ _ hw481_2; first | rwa [add_block] at this | exact this) GW490.out) | (rw [add_block]; exact Nat.ne_of_lt (Nat.lt_of_lt_of_le (by have := World.block_lt_of_cell? _ _ hw481_2; first | rwa [add_block] at this | exact this) GW490.out)) | (show (Addr.add _ _).block ≠ _; rw [add_block]; exact Nat.ne_of_lt (Nat.lt_of_lt_of_le (by have := World.block_lt_of_cell? _ _ hw481_2; first | rwa [add_block] at this | exact this) GW490.out)) | (dsimp only; exact Nat.ne_of_lt (Nat.lt_of_lt_of_le (by have := World.block_lt_of_cell? _ _ hw481_2; first | rwa [add_block] at this | exact this) GW490.out))) _).trans (((cell_far (p := ⟨gb490, _, none⟩) (by first | exact Nat.ne_of_lt (Nat.lt_of_lt_of_le (by have := World.block_lt_of_cell? _ _ hw481_2; first | rwa [add_block] at this | exact this) GW490.out) | (rw [add_block]; exact Nat.ne_of_lt (Nat.lt_of_lt_of_le (by have := World.block_lt_of_cell? _ _ hw481_2; first | rwa [add_block] at this | exact this) GW490.out)) | (show (Addr.add _ _).block ≠ _; rw [add_block]; exact Nat.ne_of_lt (Nat.lt_of_lt_of_le (by have := World.block_lt_of_cell? _ _ hw481_2; first | rwa [add_block] at this | exact this) GW490.out)) | (dsimp only; exact Nat.ne_of_lt (Nat.lt_of_lt_of_le (by have := World.block_lt_of_cell? _ _ hw481_2; first | rwa [add_block] at this | exact this) GW490.out))) _).trans (((cell_far (p := ⟨gb490, _, none⟩) (by first | exact Nat.ne_of_lt (Nat.lt_of_lt_of_le (by have := World.block_lt_of_cell? _ _ hw481_2; first | rwa [add_block] at this | exact this) GW490.out) | (rw [add_block]; exact Nat.ne_of_lt (Nat.lt_of_lt_of_le (by have := World.block_lt_of_cell? _ _ hw481_2; first | rwa [add_block] at this | exact this) GW490.out)) | (show (Addr.add _ _).block ≠ _; rw [add_block]; exact Nat.ne_of_lt (Nat.lt_of_lt_of_le (by have := World.block_lt_of_cell? _ _ hw481_2; first | rwa [add_block] at this | exact this) GW490.out)) | (dsimp only; exact Nat.ne_of_lt (Nat.lt_of_lt_of_le (by have := World.block_lt_of_cell? _ _ hw481_2; first | rwa [add_block] at this | exact this) GW490.out))) _).trans (hHeld.2.2.2.2.2.2.2.1)))))))))), ((cell_far (p := ⟨gb490, _, none⟩) (by first | exact Nat.ne_of_lt (Nat.lt_of_lt_of_le (by have := World.block_lt_of_cell? _ _ hw482_0; first | rwa [add_block] at this | exact this) GW490.out) | (rw [add_block]; exact Nat.ne_of_lt (Nat.lt_of_lt_of_le (by have := World.block_lt_of_cell? _ _ hw482_0; first | rwa [add_block] at this | exact this) GW490.out)) | (show (Addr.add _ _).block ≠ _; rw [add_block]; exact Nat.ne_of_lt (Nat.lt_of_lt_of_le (by have := World.block_lt_of_cell? _ _ hw482_0; first | rwa [add_block] at this | exact this) GW490.out)) | (dsimp only; exact Nat.ne_of_lt (Nat.lt_of_lt_of_le (by have := World.block_lt_of_cell? _ _ hw482_0; first | rwa [add_block] at this | exact this) GW490.out))) _).trans (((cell_far (p := ⟨gb490, _, none⟩) (by first | exact Nat.ne_of_lt (Nat.lt_of_lt_of_le (by have := World.block_lt_of_cell? _ _ hw482_0; first | rwa [add_block] at this | exact this) GW490.out) | (rw [add_block]; exact Nat.ne_of_lt (Nat.lt_of_lt_of_le (by have := World.block_lt_of_cell? _ _ hw482_0; first | rwa [add_block] at this | exact this) GW490.out)) | (show (Addr.add _ _).block ≠ _; rw [add_block]; exact Nat.ne_of_lt (Nat.lt_of_lt_of_le (by have := World.block_lt_of_cell? _ _ hw482_0; first | rwa [add_block] at this | exact this) GW490.out)) | (dsimp only; exact Nat.ne_of_lt (Nat.lt_of_lt_of_le (by have := World.block_lt_of_cell? _ _ hw482_0; first | rwa [add_block] at this | exact this) GW490.out))) _).trans (((cell_far (p := ⟨gb490, _, none⟩) (by first | exact Nat.ne_of_lt (Nat.lt_of_lt_of_le (by have := World.block_lt_of_cell? _ _ hw482_0; first | rwa [add_block] at this | exact this) GW490.out) | (rw [add_block]; exact Nat.ne_of_lt (Nat.lt_of_lt_of_le (by have := World.block_lt_of_cell? _ _ hw482_0; first | rwa [add_block] at this | exact this) GW490.out)) | (show (Addr.add _ _).block ≠ _; rw [add_block]; exact Nat.ne_of_lt (Nat.lt_of_lt_of_le (by have := World.block_lt_of_cell? _ _ hw482_0; first | rwa [add_block] at this | exact this) GW490.out)) | (dsimp only; exact Nat.ne_of_lt (Nat.lt_of_lt_of_le (by have := World.block_lt_of_cell? _ _ hw482_0; first | rwa [add_block] at this | exact this) GW490.out))) _).trans (((cell_far (p := ⟨gb490, _, none⟩) (by first | exact Nat.ne_of_lt (Nat.lt_of_lt_of_le (by have := World.block_lt_of_cell? _ _ hw482_0; first | rwa [add_block] at this | exact this) GW490.out) | (rw [add_block]; exact Nat.ne_of_lt (Nat.lt_of_lt_of_le (by have := World.block_lt_of_cell? _ _ hw482_0; first | rwa [add_block] at this | exact this) GW490.out)) | (show (Addr.add _ _).block ≠ _; rw [add_block]; exact Nat.ne_of_lt (Nat.lt_of_lt_of_le (by have := World.block_lt_of_cell? _ _ hw482_0; first | rwa [add_block] at this | exact this) GW490.out)) | (dsimp only; exact Nat.ne_of_lt (Nat.lt_of_lt_of_le (by have := World.block_lt_of_cell? _ _ hw482_0; first | rwa [add_block] at this | exact this) GW490.out))) _).trans (((cell_far (p := ⟨gb490, _, none⟩) (by first | exact Nat.ne_of_lt (Nat.lt_of_lt_of_le (by have := World.block_lt_of_cell? _ _ hw482_0; first | rwa [add_block] at this | exact this) GW490.out) | (rw [add_block]; exact Nat.ne_of_lt (Nat.lt_of_lt_of_le (by have := World.block_lt_of_cell? _ _ hw482_0; first | rwa [add_block] at this | exact this) GW490.out)) | (show (Addr.add _ _).block ≠ _; rw [add_block]; exact Nat.ne_of_lt (Nat.lt_of_lt_of_le (by have := World.block_lt_of_cell? _ _ hw482_0; first | rwa [add_block] at this | exact this) GW490.out)) | (dsimp only; exact Nat.ne_of_lt (Nat.lt_of_lt_of_le (by have := World.block_lt_of_cell? _ _ hw482_0; first | rwa [add_block] at this | exact this) GW490.out))) _).trans (hHeld.2.2.2.2.2.2.2.2.1)))))))))), ((cell_far (p := ⟨gb490, _, none⟩) (by first | exact Nat.ne_of_lt (Nat.lt_of_lt_of_le (by have := World.block_lt_of_cell? _ _ hw482_1; first | rwa [add_block] at this | exact this) GW490.out) | (rw [add_block]; exact Nat.ne_of_lt (Nat.lt_of_lt_of_le (by have := World.block_lt_of_cell? _ _ hw482_1; first | rwa [add_block] at this | exact this) GW490.out)) | (show (Addr.add _ _).block ≠ _; rw [add_block]; exact Nat.ne_of_lt (Nat.lt_of_lt_of_le (by have := World.block_lt_of_cell? _ _ hw482_1; first | rwa [add_block] at this | exact this) GW490.out)) | (dsimp only; exact Nat.ne_of_lt (Nat.lt_of_lt_of_le (by have := World.block_lt_of_cell? _ _ hw482_1; first | rwa [add_block] at this | exact this) GW490.out))) _).trans (((cell_far (p := ⟨gb490, _, none⟩) (by first | exact Nat.ne_of_lt (Nat.lt_of_lt_of_le (by have := World.block_lt_of_cell? _ _ hw482_1; first | rwa [add_block] at this | exact this) GW490.out) | (rw [add_block]; exact Nat.ne_of_lt (Nat.lt_of_lt_of_le (by have := World.block_lt_of_cell? _ _ hw482_1; first | rwa [add_block] at this | exact this) GW490.out)) | (show (Addr.add _ _).block ≠ _; rw [add_block]; exact Nat.ne_of_lt (Nat.lt_of_lt_of_le (by have := World.block_lt_of_cell? _ _ hw482_1; first | rwa [add_block] at this | exact this) GW490.out)) | (dsimp only; exact Nat.ne_of_lt (Nat.lt_of_lt_of_le (by have := World.block_lt_of_cell? _ _ hw482_1; first | rwa [add_block] at this | exact this) GW490.out))) _).trans (((cell_far (p := ⟨gb490, _, none⟩) (by first | exact Nat.ne_of_lt (Nat.lt_of_lt_of_le (by have := World.block_lt_of_cell? _ _ hw482_1; first | rwa [add_block] at this | exact this) GW490.out) | (rw [add_block]; exact Nat.ne_of_lt (Nat.lt_of_lt_of_le (by have := World.block_lt_of_cell? _ _ hw482_1; first | rwa [add_block] at this | exact this) GW490.out)) | (show (Addr.add _ _).block ≠ _; rw [add_block]; exact Nat.ne_of_lt (Nat.lt_of_lt_of_le (by have := World.block_lt_of_cell? _ _ hw482_1; first | rwa [add_block] at this | exact this) GW490.out)) | (dsimp only; exact Nat.ne_of_lt (Nat.lt_of_lt_of_le (by have := World.block_lt_of_cell? _ _ hw482_1; first | rwa [add_block] at this | exact this) GW490.out))) _).trans (((cell_far (p := ⟨gb490, _, none⟩) (by first | exact Nat.ne_of_lt (Nat.lt_of_lt_of_le (by have := World.block_lt_of_cell? _ _ hw482_1; first | rwa [add_block] at this | exact this) GW490.out) | (rw [add_block]; exact Nat.ne_of_lt (Nat.lt_of_lt_of_le (by have := World.block_lt_of_cell? _ _ hw482_1; first | rwa [add_block] at this | exact this) GW490.out)) | (show (Addr.add _ _).block ≠ _; rw [add_block]; exact Nat.ne_of_lt (Nat.lt_of_lt_of_le (by have := World.block_lt_of_cell? _ _ hw482_1; first | rwa [add_block] at this | exact this) GW490.out)) | (dsimp only; exact Nat.ne_of_lt (Nat.lt_of_lt_of_le (by have := World.block_lt_of_cell? _ _ hw482_1; first | rwa [add_block] at this | exact this) GW490.out))) _).trans (((cell_far (p := ⟨gb490, _, none⟩) (by first | exact Nat.ne_of_lt (Nat.lt_of_lt_of_le (by have := World.block_lt_of_cell? _ _ hw482_1; first | rwa [add_block] at this | exact this) GW490.out) | (rw [add_block]; exact Nat.ne_of_lt (Nat.lt_of_lt_of_le (by have := World.block_lt_of_cell? _ _ hw482_1; first | rwa [add_block] at this | exact this) GW490.out)) | (show (Addr.add _ _).block ≠ _; rw [add_block]; exact Nat.ne_of_lt (Nat.lt_of_lt_of_le (by have := World.block_lt_of_cell? _ _ hw482_1; first | rwa [add_block] at this | exact this) GW490.out)) | (dsimp only; exact Nat.ne_of_lt (Nat.lt_of_lt_of_le (by have := World.block_lt_of_cell? _ _ hw482_1; first | rwa [add_block] at this | exact this) GW490.out))) _).trans (hHeld.2.2.2.2.2.2.2.2.2.1)))))))))), ((cell_far (p := ⟨gb490, _, none⟩) (by first | exact Nat.ne_of_lt (Nat.lt_of_lt_of_le (by have := World.block_lt_of_cell? _ _ hw482_2; first | rwa [add_block] at this | exact this) GW490.out) | (rw [add_block]; exact Nat.ne_of_lt (Nat.lt_of_lt_of_le (by have := World.block_lt_of_cell? _ _ hw482_2; first | rwa [add_block] at this | exact this) GW490.out)) | (show (Addr.add _ _).block ≠ _; rw [add_block]; exact Nat.ne_of_lt (Nat.lt_of_lt_of_le (by have := World.block_lt_of_cell? _ _ hw482_2; first | rwa [add_block] at this | exact this) GW490.out)) | (dsimp only; exact Nat.ne_of_lt (Nat.lt_of_lt_of_le (by have := World.block_lt_of_cell? _ _ hw482_2; first | rwa [add_block] at this | exact this) GW490.out))) _).trans (((cell_far (p := ⟨gb490, _, none⟩) (by first | exact Nat.ne_of_lt (Nat.lt_of_lt_of_le (by have := World.block_lt_of_cell? _ _ hw482_2; first | rwa [add_block] at this | exact this) GW490.out) | (rw [add_block]; exact Nat.ne_of_lt (Nat.lt_of_lt_of_le (by have := World.block_lt_of_cell? _ _ hw482_2; first | rwa [add_block] at this | exact this) GW490.out)) | (show (Addr.add _ _).block ≠ _; rw [add_block]; exact Nat.ne_of_lt (Nat.lt_of_lt_of_le (by have := World.block_lt_of_cell? _ _ hw482_2; first | rwa [add_block] at this | exact this) GW490.out)) | (dsimp only; exact Nat.ne_of_lt (Nat.lt_of_lt_of_le (by have := World.block_lt_of_cell? _ _ hw482_2; first | rwa [add_block] at this | exact this) GW490.out))) _).trans (((cell_far (p := ⟨gb490, _, none⟩) (by first | exact Nat.ne_of_lt (Nat.lt_of_lt_of_le (by have := World.block_lt_of_cell? _ _ hw482_2; first | rwa [add_block] at this | exact this) GW490.out) | (rw [add_block]; exact Nat.ne_of_lt (Nat.lt_of_lt_of_le (by have := World.block_lt_of_cell? _ _ hw482_2; first | rwa [add_block] at this | exact this) GW490.out)) | (show (Addr.add _ _).block ≠ _; rw [add_block]; exact Nat.ne_of_lt (Nat.lt_of_lt_of_le (by have := World.block_lt_of_cell? _ _ hw482_2; first | rwa [add_block] at this | exact this) GW490.out)) | (dsimp only; exact Nat.ne_of_lt (Nat.lt_of_lt_of_le (by have := World.block_lt_of_cell? _ _ hw482_2; first | rwa [add_block] at this | exact this) GW490.out))) _).trans (((cell_far (p := ⟨gb490, _, none⟩) (by first | exact Nat.ne_of_lt (Nat.lt_of_lt_of_le (by have := World.block_lt_of_cell? _ _ hw482_2; first | rwa [add_block] at this | exact this) GW490.out) | (rw [add_block]; exact Nat.ne_of_lt (Nat.lt_of_lt_of_le (by have := World.block_lt_of_cell? _ _ hw482_2; first | rwa [add_block] at this | exact this) GW490.out)) | (show (Addr.add _ _).block ≠ _; rw [add_block]; exact Nat.ne_of_lt (Nat.lt_of_lt_of_le (by have := World.block_lt_of_cell? _ _ hw482_2; first | rwa [add_block] at this | exact this) GW490.out)) | (dsimp only; exact Nat.ne_of_lt (Nat.lt_of_lt_of_le (by have := World.block_lt_of_cell? _ _ hw482_2; first | rwa [add_block] at this | exact this) GW490.out))) _).trans (((cell_far (p := ⟨gb490, _, none⟩) (by first | exact Nat.ne_of_lt (Nat.lt_of_lt_of_le (by have := World.block_lt_of_cell? _ _ hw482_2; first | rwa [add_block] at this | exact this) GW490.out) | (rw [add_block]; exact Nat.ne_of_lt (Nat.lt_of_lt_of_le (by have := World.block_lt_of_cell? _ _ hw482_2; first | rwa [add_block] at this | exact this) GW490.out)) | (show (Addr.add _ _).block ≠ _; rw [add_block]; exact Nat.ne_of_lt (Nat.lt_of_lt_of_le (by have := World.block_lt_of_cell? _ _ hw482_2; first | rwa [add_block] at this | exact this) GW490.out)) | (dsimp only; exact Nat.ne_of_lt (Nat.lt_of_lt_of_le (by have := World.block_lt_of_cell? _ _ hw482_2; first | rwa [add_block] at this | exact this) GW490.out))) _).trans (hHeld.2.2.2.2.2.2.2.2.2.2.1)))))))))), ((cell_far (p := ⟨gb490, _, none⟩) (by first | exact Nat.ne_of_lt (Nat.lt_of_lt_of_le (by have := World.block_lt_of_cell? _ _ hw483_0; first | rwa [add_block] at this | exact this) GW490.out) | (rw [add_block]; exact Nat.ne_of_lt (Nat.lt_of_lt_of_le (by have := World.block_lt_of_cell? _ _ hw483_0; first | rwa [add_block] at this | exact this) GW490.out)) | (show (Addr.add _ _).block ≠ _; rw [add_block]; exact Nat.ne_of_lt (Nat.lt_of_lt_of_le (by have := World.block_lt_of_cell? _ _ hw483_0; first | rwa [add_block] at this | exact this) GW490.out)) | (dsimp only; exact Nat.ne_of_lt (Nat.lt_of_lt_of_le (by have := World.block_lt_of_cell? _ _ hw483_0; first | rwa [add_block] at this | exact this) GW490.out))) _).trans (((cell_far (p := ⟨gb490, _, none⟩) (by first | exact Nat.ne_of_lt (Nat.lt_of_lt_of_le (by have := World.block_lt_of_cell? _ _ hw483_0; first | rwa [add_block] at this | exact this) GW490.out) | (rw [add_block]; exact Nat.ne_of_lt (Nat.lt_of_lt_of_le (by have := World.block_lt_of_cell? _ _ hw483_0; first | rwa [add_block] at this | exact this) GW490.out)) | (show (Addr.add _ _).block ≠ _; rw [add_block]; exact Nat.ne_of_lt (Nat.lt_of_lt_of_le (by have := World.block_lt_of_cell? _ _ hw483_0; first | rwa [add_block] at this | exact this) GW490.out)) | (dsimp only; exact Nat.ne_of_lt (Nat.lt_of_lt_of_le (by have := World.block_lt_of_cell? _ _ hw483_0; first | rwa [add_block] at this | exact this) GW490.out))) _).trans (((cell_far (p := ⟨gb490, _, none⟩) (by first | exact Nat.ne_of_lt (Nat.lt_of_lt_of_le (by have := World.block_lt_of_cell? _ _ hw483_0; first | rwa [add_block] at this | exact this) GW490.out) | (rw [add_block]; exact Nat.ne_of_lt (Nat.lt_of_lt_of_le (by have := World.block_lt_of_cell? _ _ hw483_0; first | rwa [add_block] at this | exact this) GW490.out)) | (show (Addr.add _ _).block ≠ _; rw [add_block]; exact Nat.ne_of_lt (Nat.lt_of_lt_of_le (by have := World.block_lt_of_cell? _ _ hw483_0; first | rwa [add_block] at this | exact this) GW490.out)) | (dsimp only; exact Nat.ne_of_lt (Nat.lt_of_lt_of_le (by have := World.block_lt_of_cell? _ _ hw483_0; first | rwa [add_block] at this | exact this) GW490.out))) _).trans (((cell_far (p := ⟨gb490, _, none⟩) (by first | exact Nat.ne_of_lt (Nat.lt_of_lt_of_le (by have := World.block_lt_of_cell? _ _ hw483_0; first | rwa [add_block] at this | exact this) GW490.out) | (rw [add_block]; exact Nat.ne_of_lt (Nat.lt_of_lt_of_le (by have := World.block_lt_of_cell? _ _ hw483_0; first | rwa [add_block] at this | exact this) GW490.out)) | (show (Addr.add _ _).block ≠ _; rw [add_block]; exact Nat.ne_of_lt (Nat.lt_of_lt_of_le (by have := World.block_lt_of_cell? _ _ hw483_0; first | rwa [add_block] at this | exact this) GW490.out)) | (dsimp only; exact Nat.ne_of_lt (Nat.lt_of_lt_of_le (by have := World.block_lt_of_cell? _ _ hw483_0; first | rwa [add_block] at this | exact this) GW490.out))) _).trans (((cell_far (p := ⟨gb490, _, none⟩) (by first | exact Nat.ne_of_lt (Nat.lt_of_lt_of_le (by have := World.block_lt_of_cell? _ _ hw483_0; first | rwa [add_block] at this | exact this) GW490.out) | (rw [add_block]; exact Nat.ne_of_lt (Nat.lt_of_lt_of_le (by have := World.block_lt_of_cell? _ _ hw483_0; first | rwa [add_block] at this | exact this) GW490.out)) | (show (Addr.add _ _).block ≠ _; rw [add_block]; exact Nat.ne_of_lt (Nat.lt_of_lt_of_le (by have := World.block_lt_of_cell? _ _ hw483_0; first | rwa [add_block] at this | exact this) GW490.out)) | (dsimp only; exact Nat.ne_of_lt (Nat.lt_of_lt_of_le (by have := World.block_lt_of_cell? _ _ hw483_0; first | rwa [add_block] at this | exact this) GW490.out))) _).trans (hHeld.2.2.2.2.2.2.2.2.2.2.2.1)))))))))), ((cell_far (p := ⟨gb490, _, none⟩) (by first | exact Nat.ne_of_lt (Nat.lt_of_lt_of_le (by have := World.block_lt_of_cell? _ _ hw483_1; first | rwa [add_block] at this | exact this) GW490.out) | (rw [add_block]; exact Nat.ne_of_lt (Nat.lt_of_lt_of_le (by have := World.block_lt_of_cell? _ _ hw483_1; first | rwa [add_block] at this | exact this) GW490.out)) | (show (Addr.add _ _).block ≠ _; rw [add_block]; exact Nat.ne_of_lt (Nat.lt_of_lt_of_le (by have := World.block_lt_of_cell? _ _ hw483_1; first | rwa [add_block] at this | exact this) GW490.out)) | (dsimp only; exact Nat.ne_of_lt (Nat.lt_of_lt_of_le (by have := World.block_lt_of_cell? _ _ hw483_1; first | rwa [add_block] at this | exact this) GW490.out))) _).trans (((cell_far (p := ⟨gb490, _, none⟩) (by first | exact Nat.ne_of_lt (Nat.lt_of_lt_of_le (by have := World.block_lt_of_cell? _ _ hw483_1; first | rwa [add_block] at this | exact this) GW490.out) | (rw [add_block]; exact Nat.ne_of_lt (Nat.lt_of_lt_of_le (by have := World.block_lt_of_cell? _ _ hw483_1; first | rwa [add_block] at this | exact this) GW490.out)) | (show (Addr.add _ _).block ≠ _; rw [add_block]; exact Nat.ne_of_lt (Nat.lt_of_lt_of_le (by have := World.block_lt_of_cell? _ _ hw483_1; first | rwa [add_block] at this | exact this) GW490.out)) | (dsimp only; exact Nat.ne_of_lt (Nat.lt_of_lt_of_le (by have := World.block_lt_of_cell? _ _ hw483_1; first | rwa [add_block] at this | exact this) GW490.out))) _).trans (((cell_far (p := ⟨gb490, _, none⟩) (by first | exact Nat.ne_of_lt (Nat.lt_of_lt_of_le (by have := World.block_lt_of_cell? _ _ hw483_1; first | rwa [add_block] at this | exact this) GW490.out) | (rw [add_block]; exact Nat.ne_of_lt (Nat.lt_of_lt_of_le (by have := World.block_lt_of_cell? _ _ hw483_1; first | rwa [add_block] at this | exact this) GW490.out)) | (show (Addr.add _ _).block ≠ _; rw [add_block]; exact Nat.ne_of_lt (Nat.lt_of_lt_of_le (by have := World.block_lt_of_cell? _ _ hw483_1; first | rwa [add_block] at this | exact this) GW490.out)) | (dsimp only; exact Nat.ne_of_lt (Nat.lt_of_lt_of_le (by have := World.block_lt_of_cell? _ _ hw483_1; first | rwa [add_block] at this | exact this) GW490.out))) _).trans (((cell_far (p := ⟨gb490, _, none⟩) (by first | exact Nat.ne_of_lt (Nat.lt_of_lt_of_le (by have := World.block_lt_of_cell? _ _ hw483_1; first | rwa [add_block] at this | exact this) GW490.out) | (rw [add_block]; exact Nat.ne_of_lt (Nat.lt_of_lt_of_le (by have := World.block_lt_of_cell? _ _ hw483_1; first | rwa [add_block] at this | exact this) GW490.out)) | (show (Addr.add _ _).block ≠ _; rw [add_block]; exact Nat.ne_of_lt (Nat.lt_of_lt_of_le (by have := World.block_lt_of_cell? _ _ hw483_1; first | rwa [add_block] at this | exact this) GW490.out)) | (dsimp only; exact Nat.ne_of_lt (Nat.lt_of_lt_of_le (by have := World.block_lt_of_cell? _ _ hw483_1; first | rwa [add_block] at this | exact this) GW490.out))) _).trans (((cell_far (p := ⟨gb490, _, none⟩) (by first | exact Nat.ne_of_lt (Nat.lt_of_lt_of_le (by have := World.block_lt_of_cell? _ _ hw483_1; first | rwa [add_block] at this | exact this) GW490.out) | (rw [add_block]; exact Nat.ne_of_lt (Nat.lt_of_lt_of_le (by have := World.block_lt_of_cell? _ _ hw483_1; first | rwa [add_block] at this | exact this) GW490.out)) | (show (Addr.add _ _).block ≠ _; rw [add_block]; exact Nat.ne_of_lt (Nat.lt_of_lt_of_le (by have := World.block_lt_of_cell? _ _ hw483_1; first | rwa [add_block] at this | exact this) GW490.out)) | (dsimp only; exact Nat.ne_of_lt (Nat.lt_of_lt_of_le (by have := World.block_lt_of_cell? _ _ hw483_1; first | rwa [add_block] at this | exact this) GW490.out))) _).trans (hHeld.2.2.2.2.2.2.2.2.2.2.2.2.1)))))))))), ((cell_far (p := ⟨gb490, _, none⟩) (by first | exact Nat.ne_of_lt (Nat.lt_of_lt_of_le (by have := World.block_lt_of_cell? _ _ hw483_2; first | rwa [add_block] at this | exact this) GW490.out) | (rw [add_block]; exact Nat.ne_of_lt (Nat.lt_of_lt_of_le (by have := World.block_lt_of_cell? _ _ hw483_2; first | rwa [add_block] at this | exact this) GW490.out)) | (show (Addr.add _ _).block ≠ _; rw [add_block]; exact Nat.ne_of_lt (Nat.lt_of_lt_of_le (by have := World.block_lt_of_cell? _ _ hw483_2; first | rwa [add_block] at this | exact this) GW490.out)) | (dsimp only; exact Nat.ne_of_lt (Nat.lt_of_lt_of_le (by have := World.block_lt_of_cell? _ _ hw483_2; first | rwa [add_block] at this | exact this) GW490.out))) _).trans (((cell_far (p := ⟨gb490, _, none⟩) (by first | exact Nat.ne_of_lt (Nat.lt_of_lt_of_le (by have := World.block_lt_of_cell? _ _ hw483_2; first | rwa [add_block] at this | exact this) GW490.out) | (rw [add_block]; exact Nat.ne_of_lt (Nat.lt_of_lt_of_le (by have := World.block_lt_of_cell? _ _ hw483_2; first | rwa [add_block] at this | exact this) GW490.out)) | (show (Addr.add _ _).block ≠ _; rw [add_block]; exact Nat.ne_of_lt (Nat.lt_of_lt_of_le (by have := World.block_lt_of_cell? _ _ hw483_2; first | rwa [add_block] at this | exact this) GW490.out)) | (dsimp only; exact Nat.ne_of_lt (Nat.lt_of_lt_of_le (by have := World.block_lt_of_cell? _ _ hw483_2; first | rwa [add_block] at this | exact this) GW490.out))) _).trans (((cell_far (p := ⟨gb490, _, none⟩) (by first | exact Nat.ne_of_lt (Nat.lt_of_lt_of_le (by have := World.block_lt_of_cell? _ _ hw483_2; first | rwa [add_block] at this | exact this) GW490.out) | (rw [add_block]; exact Nat.ne_of_lt (Nat.lt_of_lt_of_le (by have := World.block_lt_of_cell? _ _ hw483_2; first | rwa [add_block] at this | exact this) GW490.out)) | (show (Addr.add _ _).block ≠ _; rw [add_block]; exact Nat.ne_of_lt (Nat.lt_of_lt_of_le (by have := World.block_lt_of_cell? _ _ hw483_2; first | rwa [add_block] at this | exact this) GW490.out)) | (dsimp only; exact Nat.ne_of_lt (Nat.lt_of_lt_of_le (by have := World.block_lt_of_cell? _ _ hw483_2; first | rwa [add_block] at this | exact this) GW490.out))) _).trans (((cell_far (p := ⟨gb490, _, none⟩) (by first | exact Nat.ne_of_lt (Nat.lt_of_lt_of_le (by have := World.block_lt_of_cell? _ _ hw483_2; first | rwa [add_block] at this | exact this) GW490.out) | (rw [add_block]; exact Nat.ne_of_lt (Nat.lt_of_lt_of_le (by have := World.block_lt_of_cell? _ _ hw483_2; first | rwa [add_block] at this | exact this) GW490.out)) | (show (Addr.add _ _).block ≠ _; rw [add_block]; exact Nat.ne_of_lt (Nat.lt_of_lt_of_le (by have := World.block_lt_of_cell? _ _ hw483_2; first | rwa [add_block] at this | exact this) GW490.out)) | (dsimp only; exact Nat.ne_of_lt (Nat.lt_of_lt_of_le (by have := World.block_lt_of_cell? _ _ hw483_2; first | rwa [add_block] at this | exact this) GW490.out))) _).trans (((cell_far (p := ⟨gb490, _, none⟩) (by first | exact Nat.ne_of_lt (Nat.lt_of_lt_of_le (by have := World.block_lt_of_cell? _ _ hw483_2; first | rwa [add_block] at this | exact this) GW490.out) | (rw [add_block]; exact Nat.ne_of_lt (Nat.lt_of_lt_of_le (by have := World.block_lt_of_cell? _ _ hw483_2; first | rwa [add_block] at this | exact this) GW490.out)) | (show (Addr.add _ _).block ≠ _; rw [add_block]; exact Nat.ne_of_lt (Nat.lt_of_lt_of_le (by have := World.block_lt_of_cell? _ _ hw483_2; first | rwa [add_block] at this | exact this) GW490.out)) | (dsimp only; exact Nat.ne_of_lt (Nat.lt_of_lt_of_le (by have := World.block_lt_of_cell? _ _ hw483_2; first | rwa [add_block] at this | exact this) GW490.out))) _).trans (hHeld.2.2.2.2.2.2.2.2.2.2.2.2.2))))))))))⟩ (fun hHeld => ?_)
                  clear hK K
                  refine pure_ (i := 26) (N := some 12) (v := ?_) (a' := ?_) #[true, true, true, true, true, true, true, true, true, true, true, true, true, true, true, true, true, true, true, true, true, true, true, true, true, true, true] rfl rfl (any_of HT_.out (by kernel_rfl)) (fun _ _ _ h => h) (Or.inl ⟨by rfl, ?_⟩) ?_ ?_
                  rotate_left
                  · intro w'
                    go_simp
                    with_reducible rfl
                  rotate_left
                  · simp only [Act.put, List.setIfInBounds_toArray, List.set_cons_zero, List.set_cons_succ, i64_w, i32_w]
                    rfl
                  refine done_ (done_of HT_.out (by kernel_rfl)) ?_
                  try go_wp2
                  have n0_ : Aside0 ((((((w38.setCell ⟨gb490, 0, none⟩ (.int .i64 t484)).setCell ⟨gb490, 1, none⟩ (.int .i64 t485)).setCell ⟨gb490, 2, none⟩ (.int .i64 t486)).setCell ⟨gb490, 3, none⟩ (.int .i64 t487)).setCell ⟨gb490, 4, none⟩ (.bool t488)).heap[gb464]? = some (.cells #[.int .i64 x465000_1, .int .i64 x465001_1, .int .i64 x465002_1, .int .i64 x465003_1, .bool x465004_1] 49 (0, 0))) := ⟨by (with_reducible repeat (first | refine blk_drewN ?_ _ | refine blk_drew ?_ | refine blk_alloc ?_ _)); refine blk_far ?_ NB464_490.out _; (with_reducible repeat (first | refine blk_drewN ?_ _ | refine blk_drew ?_ | refine blk_alloc ?_ _)); refine blk_far ?_ NB464_490.out _; (with_reducible repeat (first | refine blk_drewN ?_ _ | refine blk_drew ?_ | refine blk_alloc ?_ _)); refine blk_far ?_ NB464_490.out _; (with_reducible repeat (first | refine blk_drewN ?_ _ | refine blk_drew ?_ | refine blk_alloc ?_ _)); refine blk_far ?_ NB464_490.out _; (with_reducible repeat (first | refine blk_drewN ?_ _ | refine blk_drew ?_ | refine blk_alloc ?_ _)); refine blk_far ?_ NB464_490.out _; (with_reducible repeat (first | refine blk_drewN ?_ _ | refine blk_drew ?_ | refine blk_alloc ?_ _)); exact BK464.out⟩
                  have n1_ : Aside0 ((((((w38.setCell ⟨gb490, 0, none⟩ (.int .i64 t484)).setCell ⟨gb490, 1, none⟩ (.int .i64 t485)).setCell ⟨gb490, 2, none⟩ (.int .i64 t486)).setCell ⟨gb490, 3, none⟩ (.int .i64 t487)).setCell ⟨gb490, 4, none⟩ (.bool t488)).heap[gb470]? = some (.cells #[.int .i64 x471000_1, .int .i64 x471001_1, .int .i64 x471002_1, .int .i64 x471003_1, .bool x471004_1] 49 (0, 0))) := ⟨by (with_reducible repeat (first | refine blk_drewN ?_ _ | refine blk_drew ?_ | refine blk_alloc ?_ _)); refine blk_far ?_ NB470_490.out _; (with_reducible repeat (first | refine blk_drewN ?_ _ | refine blk_drew ?_ | refine blk_alloc ?_ _)); refine blk_far ?_ NB470_490.out _; (with_reducible repeat (first | refine blk_drewN ?_ _ | refine blk_drew ?_ | refine blk_alloc ?_ _)); refine blk_far ?_ NB470_490.out _; (with_reducible repeat (first | refine blk_drewN ?_ _ | refine blk_drew ?_ | refine blk_alloc ?_ _)); refine blk_far ?_ NB470_490.out _; (with_reducible repeat (first | refine blk_drewN ?_ _ | refine blk_drew ?_ | refine blk_alloc ?_ _)); refine blk_far ?_ NB470_490.out _; (with_reducible repeat (first | refine blk_drewN ?_ _ | refine blk_drew ?_ | refine blk_alloc ?_ _)); exact BK470.out⟩
                  have n2_ : Aside0 ((((((w38.setCell ⟨gb490, 0, none⟩ (.int .i64 t484)).setCell ⟨gb490, 1, none⟩ (.int .i64 t485)).setCell ⟨gb490, 2, none⟩ (.int .i64 t486)).setCell ⟨gb490, 3, none⟩ (.int .i64 t487)).setCell ⟨gb490, 4, none⟩ (.bool t488)).heap[gb480]? = some (.cells #[.int .i64 t474, .int .i64 t475, .int .i64 t476, .int .i64 t477, .bool t478] 49 (0, 0))) := ⟨by (with_reducible repeat (first | refine blk_drewN ?_ _ | refine blk_drew ?_ | refine blk_alloc ?_ _)); refine blk_far ?_ NB480_490.out _; (with_reducible repeat (first | refine blk_drewN ?_ _ | refine blk_drew ?_ | refine blk_alloc ?_ _)); refine blk_far ?_ NB480_490.out _; (with_reducible repeat (first | refine blk_drewN ?_ _ | refine blk_drew ?_ | refine blk_alloc ?_ _)); refine blk_far ?_ NB480_490.out _; (with_reducible repeat (first | refine blk_drewN ?_ _ | refine blk_drew ?_ | refine blk_alloc ?_ _)); refine blk_far ?_ NB480_490.out _; (with_reducible repeat (first | refine blk_drewN ?_ _ | refine blk_drew ?_ | refine blk_alloc ?_ _)); refine blk_far ?_ NB480_490.out _; (with_reducible repeat (first | refine blk_drewN ?_ _ | refine blk_drew ?_ | refine blk_alloc ?_ _)); exact BK480.out⟩
                  have n3_ : Aside0 ((((((w38.setCell ⟨gb490, 0, none⟩ (.int .i64 t484)).setCell ⟨gb490, 1, none⟩ (.int .i64 t485)).setCell ⟨gb490, 2, none⟩ (.int .i64 t486)).setCell ⟨gb490, 3, none⟩ (.int .i64 t487)).setCell ⟨gb490, 4, none⟩ (.bool t488)).heap[gb490]? = some (.cells #[.int .i64 t484, .int .i64 t485, .int .i64 t486, .int .i64 t487, .bool t488] 49 (0, 0))) := ⟨by (with_reducible repeat (first | refine blk_drewN ?_ _ | refine blk_drew ?_ | refine blk_alloc ?_ _)); refine blk_put (cs := #[.int .i64 t484, .int .i64 t485, .int .i64 t486, .int .i64 t487, .bool false]) ?_ 4 _ rfl; (with_reducible repeat (first | refine blk_drewN ?_ _ | refine blk_drew ?_ | refine blk_alloc ?_ _)); refine blk_put (cs := #[.int .i64 t484, .int .i64 t485, .int .i64 t486, .int .i64 0, .bool false]) ?_ 3 _ rfl; (with_reducible repeat (first | refine blk_drewN ?_ _ | refine blk_drew ?_ | refine blk_alloc ?_ _)); refine blk_put (cs := #[.int .i64 t484, .int .i64 t485, .int .i64 0, .int .i64 0, .bool false]) ?_ 2 _ rfl; (with_reducible repeat (first | refine blk_drewN ?_ _ | refine blk_drew ?_ | refine blk_alloc ?_ _)); refine blk_put (cs := #[.int .i64 t484, .int .i64 0, .int .i64 0, .int .i64 0, .bool false]) ?_ 1 _ rfl; (with_reducible repeat (first | refine blk_drewN ?_ _ | refine blk_drew ?_ | refine blk_alloc ?_ _)); refine blk_put (cs := #[.int .i64 0, .int .i64 0, .int .i64 0, .int .i64 0, .bool false]) ?_ 0 _ rfl; (with_reducible repeat (first | refine blk_drewN ?_ _ | refine blk_drew ?_ | refine blk_alloc ?_ _)); exact BK490.out⟩
                  have n4_ : Aside0 (Below w.heap.size w (((((w38.setCell ⟨gb490, 0, none⟩ (.int .i64 t484)).setCell ⟨gb490, 1, none⟩ (.int .i64 t485)).setCell ⟨gb490, 2, none⟩ (.int .i64 t486)).setCell ⟨gb490, 3, none⟩ (.int .i64 t487)).setCell ⟨gb490, 4, none⟩ (.bool t488))) := ⟨by repeat (first | (with_reducible first | exact HB.out | apply below_alloc | apply pw_below_drewN | apply below_drew1 | refine below_set ?_ GE464.out | refine below_set ?_ GE470.out | refine below_set ?_ GE480.out | refine below_set ?_ GE490.out) | exact HB.out)⟩
                  (try clear BK464)
                  (try clear BK470)
                  (try clear BK480)
                  (try clear BK490)
                  (try clear HB)
                  generalize (((((w38.setCell ⟨gb490, 0, none⟩ (.int .i64 t484)).setCell ⟨gb490, 1, none⟩ (.int .i64 t485)).setCell ⟨gb490, 2, none⟩ (.int .i64 t486)).setCell ⟨gb490, 3, none⟩ (.int .i64 t487)).setCell ⟨gb490, 4, none⟩ (.bool t488)) = w44 at n0_ n1_ n2_ n3_ n4_ ⊢
                  have BK464 := n0_
                  have BK470 := n1_
                  have BK480 := n2_
                  have BK490 := n3_
                  have HB := n4_
                  clear n0_ n1_ n2_ n3_ n4_
                  have n0_ := Aside0.mk (blk_drew BK464.out)
                  have n1_ := Aside0.mk (blk_drew BK470.out)
                  have n2_ := Aside0.mk (blk_drew BK480.out)
                  have n3_ := Aside0.mk (blk_drew BK490.out)
                  have n4_ := Aside0.mk (below_drew1 HB.out)
                  clear BK464
                  clear BK470
                  clear BK480
                  clear BK490
                  clear HB
                  have BK464 := n0_
                  have BK470 := n1_
                  have BK480 := n2_
                  have BK490 := n3_
                  have HB := n4_
                  clear n0_ n1_ n2_ n3_ n4_
                  have p491 : 0 ≤ (x8_1 : Int) := of_decide_eq_true (by first | (with_reducible assumption) | assumption)
                  have q491 : x8_1 < (l1.length : Int) := of_decide_eq_true (by first | (with_reducible assumption) | assumption)
                  obtain ⟨ad491, e491, hx491_0, hx491_1, hx491_2⟩ := at_T54 HR1.out x8_1 p491 q491
                  have hw491_2 := hx491_2
                  have hw491_1 := hx491_1
                  have hw491_0 := hx491_0
                  obtain rfl : ad471 = ad491 := (by injection e491)
                  replace hx491_0 := (HB.out.cell (World.block_lt_of_cell? w _ hx491_0)).trans hx491_0
                  replace hx491_1 := (HB.out.cell (World.block_lt_of_cell? w _ hx491_1)).trans hx491_1
                  replace hx491_2 := (HB.out.cell (World.block_lt_of_cell? w _ hx491_2)).trans hx491_2
                  replace p491 := eq_true p491
                  replace q491 := eq_true q491
                  have p493 : 0 ≤ (x8_1 : Int) := of_decide_eq_true (by first | (with_reducible assumption) | assumption)
                  have q493 : x8_1 < (l1.length : Int) := of_decide_eq_true (by first | (with_reducible assumption) | assumption)
                  obtain ⟨ad493, e493, hx493_0, hx493_1, hx493_2⟩ := at_T54 HR1.out x8_1 p493 q493
                  have hw493_2 := hx493_2
                  have hw493_1 := hx493_1
                  have hw493_0 := hx493_0
                  obtain rfl : ad471 = ad493 := (by injection e493)
                  replace hx493_0 := (HB.out.cell (World.block_lt_of_cell? w _ hx493_0)).trans hx493_0
                  replace hx493_1 := (HB.out.cell (World.block_lt_of_cell? w _ hx493_1)).trans hx493_1
                  replace hx493_2 := (HB.out.cell (World.block_lt_of_cell? w _ hx493_2)).trans hx493_2
                  replace p493 := eq_true p493
                  replace q493 := eq_true q493
                  refine start_ (n := 27) (S := fun w' => w'.cell? ⟨gb480, 0, none⟩ = some (.int .i64 t474) ∧ w'.cell? ⟨gb480, 1, none⟩ = some (.int .i64 t475) ∧ w'.cell? ⟨gb480, 2, none⟩ = some (.int .i64 t476) ∧ w'.cell? ⟨gb480, 3, none⟩ = some (.int .i64 t477) ∧ w'.cell? ⟨gb480, 4, none⟩ = some (.bool t478) ∧ w'.cell? ⟨gb490, 0, none⟩ = some (.int .i64 t484) ∧ w'.cell? ⟨gb490, 1, none⟩ = some (.int .i64 t485) ∧ w'.cell? ⟨gb490, 2, none⟩ = some (.int .i64 t486) ∧ w'.cell? ⟨gb490, 3, none⟩ = some (.int .i64 t487) ∧ w'.cell? ⟨gb490, 4, none⟩ = some (.bool t488) ∧ w'.cell? (ad471.add ((x8_1).toNat * 3)) = some (.int .u8 ((rd_T54 l1 x8_1).f0)) ∧ w'.cell? ⟨(ad471.add ((x8_1).toNat * 3)).block, (ad471.add ((x8_1).toNat * 3)).off + 1, none⟩ = some (.int .i16 ((rd_T54 l1 x8_1).f1)) ∧ w'.cell? ⟨(ad471.add ((x8_1).toNat * 3)).block, (ad471.add ((x8_1).toNat * 3)).off + 2, none⟩ = some (.int .i16 ((rd_T54 l1 x8_1).f2)) ∧ w'.cell? (ad471.add ((x8_1).toNat * 3)) = some (.int .u8 ((rd_T54 l1 x8_1).f0)) ∧ w'.cell? ⟨(ad471.add ((x8_1).toNat * 3)).block, (ad471.add ((x8_1).toNat * 3)).off + 1, none⟩ = some (.int .i16 ((rd_T54 l1 x8_1).f1)) ∧ w'.cell? ⟨(ad471.add ((x8_1).toNat * 3)).block, (ad471.add ((x8_1).toNat * 3)).off + 2, none⟩ = some (.int .i16 ((rd_T54 l1 x8_1).f2))) (ds := []) #[false, false, false, false, false, false, false, false, false, false, false, false, false, false, false, false, false, false, false, false, false, false, false, false, false, false, false] (by kernel_rfl) rfl rfl ⟨(blk_cell BK480.out 0).trans rfl, (blk_cell BK480.out 1).trans rfl, (blk_cell BK480.out 2).trans rfl, (blk_cell BK480.out 3).trans rfl, (blk_cell BK480.out 4).trans rfl, (blk_cell BK490.out 0).trans rfl, (blk_cell BK490.out 1).trans rfl, (blk_cell BK490.out 2).trans rfl, (blk_cell BK490.out 3).trans rfl, (blk_cell BK490.out 4).trans rfl, ((HB.out.cell (World.block_lt_of_cell? w _ hw491_0)).trans hw491_0), ((HB.out.cell (World.block_lt_of_cell? w _ hw491_1)).trans hw491_1), ((HB.out.cell (World.block_lt_of_cell? w _ hw491_2)).trans hw491_2), ((HB.out.cell (World.block_lt_of_cell? w _ hw493_0)).trans hw493_0), ((HB.out.cell (World.block_lt_of_cell? w _ hw493_1)).trans hw493_1), ((HB.out.cell (World.block_lt_of_cell? w _ hw493_2)).trans hw493_2)⟩ (fun hHeld => ?_); refine with_tabW ambidexterlaw25_ServoMatchesReference.tab11 ambidexterlaw25_ServoMatchesReference.bits11 (fun HT_ HW_ => ?_)
                  generalize w44.drew = w45 at BK464 BK470 BK480 BK490 HB hx491_0 hx491_1 hx491_2 hx493_0 hx493_1 hx493_2 hHeld ⊢
                  refine take_ (i := 0) (N := some 78) (v := ?_) (a' := ?_) #[true, false, false, false, false, false, false, false, false, false, false, false, false, false, false, false, false, false, false, false, false, false, false, false, false, false, false] rfl rfl (take_ofW HT_.out HW_.out (by kernel_rfl)) (fun _ _ _ h => h) (Or.inl ⟨by rfl, ?_⟩) hHeld ?_ ?_
                  rotate_left
                  · rintro w' ⟨s0, s1, s2, s3, s4, s5, s6, s7, s8, s9, s10, s11, s12, s13, s14, s15⟩
                    go_simp
                    with_reducible rfl
                  rotate_left
                  · simp only [Act.put, List.setIfInBounds_toArray, List.set_cons_zero, List.set_cons_succ, i64_w, i32_w]
                    rfl
                  refine take_ (i := 1) (N := some 79) (v := ?_) (a' := ?_) #[true, true, false, false, false, false, false, false, false, false, false, false, false, false, false, false, false, false, false, false, false, false, false, false, false, false, false] rfl rfl (take_ofW HT_.out HW_.out (by kernel_rfl)) (fun _ _ _ h => h) (Or.inl ⟨by rfl, ?_⟩) hHeld ?_ ?_
                  rotate_left
                  · rintro w' ⟨s0, s1, s2, s3, s4, s5, s6, s7, s8, s9, s10, s11, s12, s13, s14, s15⟩
                    go_simp
                    with_reducible rfl
                  rotate_left
                  · simp only [Act.put, List.setIfInBounds_toArray, List.set_cons_zero, List.set_cons_succ, i64_w, i32_w]
                    rfl
                  refine pure_ (i := 2) (N := some 80) (v := ?_) (a' := ?_) #[true, true, true, false, false, false, false, false, false, false, false, false, false, false, false, false, false, false, false, false, false, false, false, false, false, false, false] rfl rfl (any_of HT_.out (by kernel_rfl)) (fun _ _ _ h => h) (Or.inl ⟨by rfl, ?_⟩) ?_ ?_
                  rotate_left
                  · intro w'
                    go_simp
                    with_reducible rfl
                  rotate_left
                  · simp only [Act.put, List.setIfInBounds_toArray, List.set_cons_zero, List.set_cons_succ, i64_w, i32_w]
                    rfl
                  refine pure_ (i := 3) (N := some 81) (v := ?_) (a' := ?_) #[true, true, true, true, false, false, false, false, false, false, false, false, false, false, false, false, false, false, false, false, false, false, false, false, false, false, false] rfl rfl (any_of HT_.out (by kernel_rfl)) (fun _ _ _ h => h) (Or.inl ⟨by rfl, ?_⟩) ?_ ?_
                  rotate_left
                  · intro w'
                    go_simp
                    with_reducible rfl
                  rotate_left
                  · simp only [Act.put, List.setIfInBounds_toArray, List.set_cons_zero, List.set_cons_succ, i64_w, i32_w]
                    rfl
                  refine pure_ (i := 4) (N := some 82) (v := ?_) (a' := ?_) #[true, true, true, true, true, false, false, false, false, false, false, false, false, false, false, false, false, false, false, false, false, false, false, false, false, false, false] rfl rfl (any_of HT_.out (by kernel_rfl)) (fun _ _ _ h => h) (Or.inl ⟨by rfl, ?_⟩) ?_ ?_
                  rotate_left
                  · intro w'
                    go_simp
                    with_reducible rfl
                  rotate_left
                  · simp only [Act.put, List.setIfInBounds_toArray, List.set_cons_zero, List.set_cons_succ, i64_w, i32_w]
                    rfl
                  refine pure_ (i := 5) (N := some 83) (v := ?_) (a' := ?_) #[true, true, true, true, true, true, false, false, false, false, false, false, false, false, false, false, false, false, false, false, false, false, false, false, false, false, false] rfl rfl (any_of HT_.out (by kernel_rfl)) (fun _ _ _ h => h) (Or.inl ⟨by rfl, ?_⟩) ?_ ?_
                  rotate_left
                  · intro w'
                    go_simp
                    with_reducible rfl
                  rotate_left
                  · simp only [Act.put, List.setIfInBounds_toArray, List.set_cons_zero, List.set_cons_succ, i64_w, i32_w]
                    rfl
                  refine pure_ (i := 6) (N := some 84) (v := ?_) (a' := ?_) #[true, true, true, true, true, true, true, false, false, false, false, false, false, false, false, false, false, false, false, false, false, false, false, false, false, false, false] rfl rfl (any_of HT_.out (by kernel_rfl)) (fun _ _ _ h => h) (Or.inl ⟨by rfl, ?_⟩) ?_ ?_
                  rotate_left
                  · intro w'
                    go_simp
                    with_reducible rfl
                  rotate_left
                  · simp only [Act.put, List.setIfInBounds_toArray, List.set_cons_zero, List.set_cons_succ, i64_w, i32_w]
                    rfl
                  refine pure_ (i := 7) (N := some 85) (v := ?_) (a' := ?_) #[true, true, true, true, true, true, true, true, false, false, false, false, false, false, false, false, false, false, false, false, false, false, false, false, false, false, false] rfl rfl (any_of HT_.out (by kernel_rfl)) (fun _ _ _ h => h) (Or.inl ⟨by rfl, ?_⟩) ?_ ?_
                  rotate_left
                  · intro w'
                    go_simp
                    with_reducible rfl
                  rotate_left
                  · simp only [Act.put, List.setIfInBounds_toArray, List.set_cons_zero, List.set_cons_succ, i64_w, i32_w]
                    rfl
                  refine pure_ (i := 8) (N := some 86) (v := ?_) (a' := ?_) #[true, true, true, true, true, true, true, true, true, false, false, false, false, false, false, false, false, false, false, false, false, false, false, false, false, false, false] rfl rfl (any_of HT_.out (by kernel_rfl)) (fun _ _ _ h => h) (Or.inl ⟨by rfl, ?_⟩) ?_ ?_
                  rotate_left
                  · intro w'
                    go_simp
                    with_reducible rfl
                  rotate_left
                  · simp only [Act.put, List.setIfInBounds_toArray, List.set_cons_zero, List.set_cons_succ, i64_w, i32_w]
                    rfl
                  refine pure_ (i := 10) (N := some 88) (v := ?_) (a' := ?_) #[true, true, true, true, true, true, true, true, true, false, true, false, false, false, false, false, false, false, false, false, false, false, false, false, false, false, false] rfl rfl (any_of HT_.out (by kernel_rfl)) (fun _ _ _ h => h) (Or.inl ⟨by rfl, ?_⟩) ?_ ?_
                  rotate_left
                  · intro w'
                    go_simp
                    with_reducible rfl
                  rotate_left
                  · simp only [Act.put, List.setIfInBounds_toArray, List.set_cons_zero, List.set_cons_succ, i64_w, i32_w]
                    rfl
                  refine pure_ (i := 11) (N := some 89) (v := ?_) (a' := ?_) #[true, true, true, true, true, true, true, true, true, false, true, true, false, false, false, false, false, false, false, false, false, false, false, false, false, false, false] rfl rfl (any_of HT_.out (by kernel_rfl)) (fun _ _ _ h => h) (Or.inl ⟨by rfl, ?_⟩) ?_ ?_
                  rotate_left
                  · intro w'
                    go_simp
                    with_reducible rfl
                  rotate_left
                  · simp only [Act.put, List.setIfInBounds_toArray, List.set_cons_zero, List.set_cons_succ, i64_w, i32_w]
                    rfl
                  refine pure_ (i := 12) (N := some 90) (v := ?_) (a' := ?_) #[true, true, true, true, true, true, true, true, true, false, true, true, true, false, false, false, false, false, false, false, false, false, false, false, false, false, false] rfl rfl (any_of HT_.out (by kernel_rfl)) (fun _ _ _ h => h) (Or.inl ⟨by rfl, ?_⟩) ?_ ?_
                  rotate_left
                  · intro w'
                    go_simp
                    with_reducible rfl
                  rotate_left
                  · simp only [Act.put, List.setIfInBounds_toArray, List.set_cons_zero, List.set_cons_succ, i64_w, i32_w]
                    rfl
                  refine pure_ (i := 13) (N := some 91) (v := ?_) (a' := ?_) #[true, true, true, true, true, true, true, true, true, false, true, true, true, true, false, false, false, false, false, false, false, false, false, false, false, false, false] rfl rfl (any_of HT_.out (by kernel_rfl)) (fun _ _ _ h => h) (Or.inl ⟨by rfl, ?_⟩) ?_ ?_
                  rotate_left
                  · intro w'
                    go_simp
                    with_reducible rfl
                  rotate_left
                  · simp only [Act.put, List.setIfInBounds_toArray, List.set_cons_zero, List.set_cons_succ, i64_w, i32_w]
                    rfl
                  refine pure_ (i := 18) (N := some 96) (v := ?_) (a' := ?_) #[true, true, true, true, true, true, true, true, true, false, true, true, true, true, false, false, false, false, true, false, false, false, false, false, false, false, false] rfl rfl (any_of HT_.out (by kernel_rfl)) (fun _ _ _ h => h) (Or.inl ⟨by rfl, ?_⟩) ?_ ?_
                  rotate_left
                  · intro w'
                    go_simp
                    with_reducible rfl
                  rotate_left
                  · simp only [Act.put, List.setIfInBounds_toArray, List.set_cons_zero, List.set_cons_succ, i64_w, i32_w]
                    rfl
                  refine pure_ (i := 19) (N := some 97) (v := ?_) (a' := ?_) #[true, true, true, true, true, true, true, true, true, false, true, true, true, true, false, false, false, false, true, true, false, false, false, false, false, false, false] rfl rfl (any_of HT_.out (by kernel_rfl)) (fun _ _ _ h => h) (Or.inl ⟨by rfl, ?_⟩) ?_ ?_
                  rotate_left
                  · intro w'
                    go_simp
                    with_reducible rfl
                  rotate_left
                  · simp only [Act.put, List.setIfInBounds_toArray, List.set_cons_zero, List.set_cons_succ, i64_w, i32_w]
                    rfl
                  refine pure_ (i := 20) (N := some 98) (v := ?_) (a' := ?_) #[true, true, true, true, true, true, true, true, true, false, true, true, true, true, false, false, false, false, true, true, true, false, false, false, false, false, false] rfl rfl (any_of HT_.out (by kernel_rfl)) (fun _ _ _ h => h) (Or.inl ⟨by rfl, ?_⟩) ?_ ?_
                  rotate_left
                  · intro w'
                    go_simp
                    with_reducible rfl
                  rotate_left
                  · simp only [Act.put, List.setIfInBounds_toArray, List.set_cons_zero, List.set_cons_succ, i64_w, i32_w]
                    rfl
                  refine pure_ (i := 21) (N := some 99) (v := ?_) (a' := ?_) #[true, true, true, true, true, true, true, true, true, false, true, true, true, true, false, false, false, false, true, true, true, true, false, false, false, false, false] rfl rfl (any_of HT_.out (by kernel_rfl)) (fun _ _ _ h => h) (Or.inl ⟨by rfl, ?_⟩) ?_ ?_
                  rotate_left
                  · intro w'
                    go_simp
                    with_reducible rfl
                  rotate_left
                  · simp only [Act.put, List.setIfInBounds_toArray, List.set_cons_zero, List.set_cons_succ, i64_w, i32_w]
                    rfl
                  refine take_ (i := 9) (N := some 87) (v := ?_) (a' := ?_) #[true, true, true, true, true, true, true, true, true, true, true, true, true, true, false, false, false, false, true, true, true, true, false, false, false, false, false] rfl rfl (take_ofW HT_.out HW_.out (by kernel_rfl)) (fun _ _ _ h => h) (Or.inl ⟨by rfl, ?_⟩) hHeld ?_ ?_
                  rotate_left
                  · rintro w' ⟨s0, s1, s2, s3, s4, s5, s6, s7, s8, s9, s10, s11, s12, s13, s14, s15⟩
                    go_simp
                    with_reducible rfl
                  rotate_left
                  · simp only [Act.put, List.setIfInBounds_toArray, List.set_cons_zero, List.set_cons_succ, i64_w, i32_w]
                    rfl
                  refine take_ (i := 14) (N := some 92) (v := ?_) (a' := ?_) #[true, true, true, true, true, true, true, true, true, true, true, true, true, true, true, false, false, false, true, true, true, true, false, false, false, false, false] rfl rfl (take_ofW HT_.out HW_.out (by kernel_rfl)) (fun _ _ _ h => h) (Or.inl ⟨by rfl, ?_⟩) hHeld ?_ ?_
                  rotate_left
                  · rintro w' ⟨s0, s1, s2, s3, s4, s5, s6, s7, s8, s9, s10, s11, s12, s13, s14, s15⟩
                    go_simp
                    with_reducible rfl
                  rotate_left
                  · simp only [Act.put, List.setIfInBounds_toArray, List.set_cons_zero, List.set_cons_succ, i64_w, i32_w]
                    rfl
                  refine pure_ (i := 15) (N := some 93) (v := ?_) (a' := ?_) #[true, true, true, true, true, true, true, true, true, true, true, true, true, true, true, true, false, false, true, true, true, true, false, false, false, false, false] rfl rfl (any_of HT_.out (by kernel_rfl)) (fun _ _ _ h => h) (Or.inl ⟨by rfl, ?_⟩) ?_ ?_
                  rotate_left
                  · intro w'
                    go_simp
                    with_reducible rfl
                  rotate_left
                  · simp only [Act.put, List.setIfInBounds_toArray, List.set_cons_zero, List.set_cons_succ, i64_w, i32_w]
                    rfl
                  refine take_ (i := 17) (N := some 95) (v := ?_) (a' := ?_) #[true, true, true, true, true, true, true, true, true, true, true, true, true, true, true, true, false, true, true, true, true, true, false, false, false, false, false] rfl rfl (take_ofW HT_.out HW_.out (by kernel_rfl)) (fun _ _ _ h => h) (Or.inl ⟨by rfl, ?_⟩) hHeld ?_ ?_
                  rotate_left
                  · rintro w' ⟨s0, s1, s2, s3, s4, s5, s6, s7, s8, s9, s10, s11, s12, s13, s14, s15⟩
                    go_simp
                    with_reducible rfl
                  rotate_left
                  · simp only [Act.put, List.setIfInBounds_toArray, List.set_cons_zero, List.set_cons_succ, i64_w, i32_w]
                    rfl
                  refine take_ (i := 22) (N := some 100) (v := ?_) (a' := ?_) #[true, true, true, true, true, true, true, true, true, true, true, true, true, true, true, true, false, true, true, true, true, true, true, false, false, false, false] rfl rfl (take_ofW HT_.out HW_.out (by kernel_rfl)) (fun _ _ _ h => h) (Or.inl ⟨by rfl, ?_⟩) hHeld ?_ ?_
                  rotate_left
                  · rintro w' ⟨s0, s1, s2, s3, s4, s5, s6, s7, s8, s9, s10, s11, s12, s13, s14, s15⟩
                    go_simp
                    with_reducible rfl
                  rotate_left
                  · simp only [Act.put, List.setIfInBounds_toArray, List.set_cons_zero, List.set_cons_succ, i64_w, i32_w]
                    rfl
                  refine pure_ (i := 23) (N := some 101) (v := ?_) (a' := ?_) #[true, true, true, true, true, true, true, true, true, true, true, true, true, true, true, true, false, true, true, true, true, true, true, true, false, false, false] rfl rfl (any_of HT_.out (by kernel_rfl)) (fun _ _ _ h => h) (Or.inl ⟨by rfl, ?_⟩) ?_ ?_
                  rotate_left
                  · intro w'
                    go_simp
                    with_reducible rfl
                  rotate_left
                  · simp only [Act.put, List.setIfInBounds_toArray, List.set_cons_zero, List.set_cons_succ, i64_w, i32_w]
                    rfl
                  refine one_ (i := 16) (N := some 94) #[true, true, true, true, true, true, true, true, true, true, true, true, true, true, true, true, true, true, true, true, true, true, true, true, false, false, false] rfl rfl (one_of HT_.out (by kernel_rfl)) (by decide) (fun K hK => ?_)
                  refine goes_ Try.func34 (by kernel_rfl) rfl #[.agg #[.int .i64 t474, .int .i64 t475, .int .i64 t476, .int .i64 t477, .bool t478], .int .i64 (wrap64 ((rd_T54 l1 x8_1).f1))] (by rfl) rfl rfl (by (try simp only [List.map_toArray, List.map_cons, List.map_nil]); first | done | rfl | (simp only [List.length_drop, List.length_take]; rfl)) ?_
                  with_reducible refine (servo_TrackingError.calls t474 t475 t476 t477 t478 (wrap64 ((rd_T54 l1 x8_1).f1)) t492 _ A22.out).mono ?_
                  rintro e w46 ⟨rfl, hb⟩
                  refine ⟨_, rfl, ?_⟩
                  have n0_ := Aside0.mk (blk_below (g := gb464) (o := .cells #[.int .i64 x465000_1, .int .i64 x465001_1, .int .i64 x465002_1, .int .i64 x465003_1, .bool x465004_1] 49 (0, 0)) (by (with_reducible repeat (first | refine blk_drewN ?_ _ | refine blk_drew ?_ | refine blk_alloc ?_ _)); exact BK464.out) hb)
                  have n1_ := Aside0.mk (blk_below (g := gb470) (o := .cells #[.int .i64 x471000_1, .int .i64 x471001_1, .int .i64 x471002_1, .int .i64 x471003_1, .bool x471004_1] 49 (0, 0)) (by (with_reducible repeat (first | refine blk_drewN ?_ _ | refine blk_drew ?_ | refine blk_alloc ?_ _)); exact BK470.out) hb)
                  have n2_ := Aside0.mk (blk_below (g := gb480) (o := .cells #[.int .i64 t474, .int .i64 t475, .int .i64 t476, .int .i64 t477, .bool t478] 49 (0, 0)) (by (with_reducible repeat (first | refine blk_drewN ?_ _ | refine blk_drew ?_ | refine blk_alloc ?_ _)); exact BK480.out) hb)
                  have n3_ := Aside0.mk (blk_below (g := gb490) (o := .cells #[.int .i64 t484, .int .i64 t485, .int .i64 t486, .int .i64 t487, .bool t488] 49 (0, 0)) (by (with_reducible repeat (first | refine blk_drewN ?_ _ | refine blk_drew ?_ | refine blk_alloc ?_ _)); exact BK490.out) hb)
                  have n4_ := Aside0.mk (below_step (by repeat (first | (with_reducible first | exact HB.out | apply below_alloc | apply pw_below_drewN | apply below_drew1 | refine below_set ?_ GE464.out | refine below_set ?_ GE470.out | refine below_set ?_ GE480.out | refine below_set ?_ GE490.out) | exact HB.out)) hb)
                  clear BK464
                  clear BK470
                  clear BK480
                  clear BK490
                  clear HB
                  have BK464 := n0_
                  have BK470 := n1_
                  have BK480 := n2_
                  have BK490 := n3_
                  have HB := n4_
                  clear n0_ n1_ n2_ n3_ n4_
                  (try clear hb)
                  (try clear hb2)
                  (try clear hk)
                  (try clear hi)
                  refine hK.out _ _ ⟨(blk_cell BK480.out 0).trans rfl, (blk_cell BK480.out 1).trans rfl, (blk_cell BK480.out 2).trans rfl, (blk_cell BK480.out 3).trans rfl, (blk_cell BK480.out 4).trans rfl, (blk_cell BK490.out 0).trans rfl, (blk_cell BK490.out 1).trans rfl, (blk_cell BK490.out 2).trans rfl, (blk_cell BK490.out 3).trans rfl, (blk_cell BK490.out 4).trans rfl, ((HB.out.cell (World.block_lt_of_cell? w _ hw491_0)).trans hw491_0), ((HB.out.cell (World.block_lt_of_cell? w _ hw491_1)).trans hw491_1), ((HB.out.cell (World.block_lt_of_cell? w _ hw491_2)).trans hw491_2), ((HB.out.cell (World.block_lt_of_cell? w _ hw493_0)).trans hw493_0), ((HB.out.cell (World.block_lt_of_cell? w _ hw493_1)).trans hw493_1), ((HB.out.cell (World.block_lt_of_cell? w _ hw493_2)).trans hw493_2)⟩ (fun hHeld => ?_)
                  clear hK K
                  refine norm_ (a' := ?_) ?_ ?_
                  rotate_left
                  · show Act.put _ (some 94) _ = _
                    simp only [Act.put, List.setIfInBounds_toArray, List.set_cons_zero, List.set_cons_succ, i64_w, i32_w]
                    rfl
                  refine one_ (i := 24) (N := some 102) #[true, true, true, true, true, true, true, true, true, true, true, true, true, true, true, true, true, true, true, true, true, true, true, true, true, false, false] rfl rfl (one_of HT_.out (by kernel_rfl)) (by decide) (fun K hK => ?_)
                  refine goes_ Try.func35 (by kernel_rfl) rfl #[.agg #[.int .i64 t484, .int .i64 t485, .int .i64 t486, .int .i64 t487, .bool t488], .int .i64 (wrap64 ((rd_T54 l1 x8_1).f1))] (by rfl) rfl rfl (by (try simp only [List.map_toArray, List.map_cons, List.map_nil]); first | done | rfl | (simp only [List.length_drop, List.length_take]; rfl)) ?_
                  with_reducible refine (ambidexterref25_Error.calls t484 t485 t486 t487 t488 (wrap64 ((rd_T54 l1 x8_1).f1)) t494 _ A23.out).mono ?_
                  rintro e w47 ⟨rfl, hb⟩
                  refine ⟨_, rfl, ?_⟩
                  have n0_ := Aside0.mk (blk_below (g := gb464) (o := .cells #[.int .i64 x465000_1, .int .i64 x465001_1, .int .i64 x465002_1, .int .i64 x465003_1, .bool x465004_1] 49 (0, 0)) (by (with_reducible repeat (first | refine blk_drewN ?_ _ | refine blk_drew ?_ | refine blk_alloc ?_ _)); exact BK464.out) hb)
                  have n1_ := Aside0.mk (blk_below (g := gb470) (o := .cells #[.int .i64 x471000_1, .int .i64 x471001_1, .int .i64 x471002_1, .int .i64 x471003_1, .bool x471004_1] 49 (0, 0)) (by (with_reducible repeat (first | refine blk_drewN ?_ _ | refine blk_drew ?_ | refine blk_alloc ?_ _)); exact BK470.out) hb)
                  have n2_ := Aside0.mk (blk_below (g := gb480) (o := .cells #[.int .i64 t474, .int .i64 t475, .int .i64 t476, .int .i64 t477, .bool t478] 49 (0, 0)) (by (with_reducible repeat (first | refine blk_drewN ?_ _ | refine blk_drew ?_ | refine blk_alloc ?_ _)); exact BK480.out) hb)
                  have n3_ := Aside0.mk (blk_below (g := gb490) (o := .cells #[.int .i64 t484, .int .i64 t485, .int .i64 t486, .int .i64 t487, .bool t488] 49 (0, 0)) (by (with_reducible repeat (first | refine blk_drewN ?_ _ | refine blk_drew ?_ | refine blk_alloc ?_ _)); exact BK490.out) hb)
                  have n4_ := Aside0.mk (below_step (by repeat (first | (with_reducible first | exact HB.out | apply below_alloc | apply pw_below_drewN | apply below_drew1 | refine below_set ?_ GE464.out | refine below_set ?_ GE470.out | refine below_set ?_ GE480.out | refine below_set ?_ GE490.out) | exact HB.out)) hb)
                  clear BK464
                  clear BK470
                  clear BK480
                  clear BK490
                  clear HB
                  have BK464 := n0_
                  have BK470 := n1_
                  have BK480 := n2_
                  have BK490 := n3_
                  have HB := n4_
                  clear n0_ n1_ n2_ n3_ n4_
                  (try clear hb)
                  (try clear hb2)
                  (try clear hk)
                  (try clear hi)
                  refine hK.out _ _ ⟨(blk_cell BK480.out 0).trans rfl, (blk_cell BK480.out 1).trans rfl, (blk_cell BK480.out 2).trans rfl, (blk_cell BK480.out 3).trans rfl, (blk_cell BK480.out 4).trans rfl, (blk_cell BK490.out 0).trans rfl, (blk_cell BK490.out 1).trans rfl, (blk_cell BK490.out 2).trans rfl, (blk_cell BK490.out 3).trans rfl, (blk_cell BK490.out 4).trans rfl, ((HB.out.cell (World.block_lt_of_cell? w _ hw491_0)).trans hw491_0), ((HB.out.cell (World.block_lt_of_cell? w _ hw491_1)).trans hw491_1), ((HB.out.cell (World.block_lt_of_cell? w _ hw491_2)).trans hw491_2), ((HB.out.cell (World.block_lt_of_cell? w _ hw493_0)).trans hw493_0), ((HB.out.cell (World.block_lt_of_cell? w _ hw493_1)).trans hw493_1), ((HB.out.cell (World.block_lt_of_cell? w _ hw493_2)).trans hw493_2)⟩ (fun hHeld => ?_)
                  clear hK K
                  refine norm_ (a' := ?_) ?_ ?_
                  rotate_left
                  · show Act.put _ (some 102) _ = _
                    simp only [Act.put, List.setIfInBounds_toArray, List.set_cons_zero, List.set_cons_succ, i64_w, i32_w]
                    rfl
                  refine pure_ (i := 25) (N := some 103) (v := ?_) (a' := ?_) #[true, true, true, true, true, true, true, true, true, true, true, true, true, true, true, true, true, true, true, true, true, true, true, true, true, true, false] rfl rfl (any_of HT_.out (by kernel_rfl)) (fun _ _ _ h => h) (Or.inl ⟨by rfl, ?_⟩) ?_ ?_
                  rotate_left
                  · intro w'
                    go_simp
                    with_reducible rfl
                  rotate_left
                  · simp only [Act.put, List.setIfInBounds_toArray, List.set_cons_zero, List.set_cons_succ, i64_w, i32_w]
                    rfl
                  refine pure_ (i := 26) (N := some 104) (v := ?_) (a' := ?_) #[true, true, true, true, true, true, true, true, true, true, true, true, true, true, true, true, true, true, true, true, true, true, true, true, true, true, true] rfl rfl (any_of HT_.out (by kernel_rfl)) (fun _ _ _ h => h) (Or.inl ⟨by rfl, ?_⟩) ?_ ?_
                  rotate_left
                  · intro w'
                    go_simp
                    with_reducible rfl
                  rotate_left
                  · simp only [Act.put, List.setIfInBounds_toArray, List.set_cons_zero, List.set_cons_succ, i64_w, i32_w]
                    rfl
                  refine done_ (done_of HT_.out (by kernel_rfl)) ?_
                  have hnb48 := NB480_464.out
                  have hnc48 := NB464_480.out
                  have hnb49 := NB480_470.out
                  have hnc49 := NB470_480.out
                  have hnb50 := NB480_490.out
                  have hnc50 := NB490_480.out
                  have hcz51_0 : w47.cell? ⟨gb480, 0, none⟩ = some (.int .i64 t474) := (blk_cell BK480.out 0).trans rfl
                  have hcz51_1 : w47.cell? ⟨gb480, 1, none⟩ = some (.int .i64 t475) := (blk_cell BK480.out 1).trans rfl
                  have hcz51_2 : w47.cell? ⟨gb480, 2, none⟩ = some (.int .i64 t476) := (blk_cell BK480.out 2).trans rfl
                  have hcz51_3 : w47.cell? ⟨gb480, 3, none⟩ = some (.int .i64 t477) := (blk_cell BK480.out 3).trans rfl
                  have hcz51_4 : w47.cell? ⟨gb480, 4, none⟩ = some (.bool t478) := (blk_cell BK480.out 4).trans rfl
                  have hfz51_0 := blk_frozen BK480.out 0
                  have hfz51_1 := blk_frozen BK480.out 1
                  have hfz51_2 := blk_frozen BK480.out 2
                  have hfz51_3 := blk_frozen BK480.out 3
                  have hfz51_4 := blk_frozen BK480.out 4
                  have hnb52 := NB464_470.out
                  have hnc52 := NB470_464.out
                  have hnb53 := NB464_490.out
                  have hnc53 := NB490_464.out
                  have hcz54_0 : w47.cell? ⟨gb464, 0, none⟩ = some (.int .i64 x465000_1) := (blk_cell BK464.out 0).trans rfl
                  have hcz54_1 : w47.cell? ⟨gb464, 1, none⟩ = some (.int .i64 x465001_1) := (blk_cell BK464.out 1).trans rfl
                  have hcz54_2 : w47.cell? ⟨gb464, 2, none⟩ = some (.int .i64 x465002_1) := (blk_cell BK464.out 2).trans rfl
                  have hcz54_3 : w47.cell? ⟨gb464, 3, none⟩ = some (.int .i64 x465003_1) := (blk_cell BK464.out 3).trans rfl
                  have hcz54_4 : w47.cell? ⟨gb464, 4, none⟩ = some (.bool x465004_1) := (blk_cell BK464.out 4).trans rfl
                  have hfz54_0 := blk_frozen BK464.out 0
                  have hfz54_1 := blk_frozen BK464.out 1
                  have hfz54_2 := blk_frozen BK464.out 2
                  have hfz54_3 := blk_frozen BK464.out 3
                  have hfz54_4 := blk_frozen BK464.out 4
                  have hnb55 := NB490_470.out
                  have hnc55 := NB470_490.out
                  have hcz56_0 : w47.cell? ⟨gb490, 0, none⟩ = some (.int .i64 t484) := (blk_cell BK490.out 0).trans rfl
                  have hcz56_1 : w47.cell? ⟨gb490, 1, none⟩ = some (.int .i64 t485) := (blk_cell BK490.out 1).trans rfl
                  have hcz56_2 : w47.cell? ⟨gb490, 2, none⟩ = some (.int .i64 t486) := (blk_cell BK490.out 2).trans rfl
                  have hcz56_3 : w47.cell? ⟨gb490, 3, none⟩ = some (.int .i64 t487) := (blk_cell BK490.out 3).trans rfl
                  have hcz56_4 : w47.cell? ⟨gb490, 4, none⟩ = some (.bool t488) := (blk_cell BK490.out 4).trans rfl
                  have hfz56_0 := blk_frozen BK490.out 0
                  have hfz56_1 := blk_frozen BK490.out 1
                  have hfz56_2 := blk_frozen BK490.out 2
                  have hfz56_3 := blk_frozen BK490.out 3
                  have hfz56_4 := blk_frozen BK490.out 4
                  have hcz57_0 : w47.cell? ⟨gb470, 0, none⟩ = some (.int .i64 x471000_1) := (blk_cell BK470.out 0).trans rfl
                  have hcz57_1 : w47.cell? ⟨gb470, 1, none⟩ = some (.int .i64 x471001_1) := (blk_cell BK470.out 1).trans rfl
                  have hcz57_2 : w47.cell? ⟨gb470, 2, none⟩ = some (.int .i64 x471002_1) := (blk_cell BK470.out 2).trans rfl
                  have hcz57_3 : w47.cell? ⟨gb470, 3, none⟩ = some (.int .i64 x471003_1) := (blk_cell BK470.out 3).trans rfl
                  have hcz57_4 : w47.cell? ⟨gb470, 4, none⟩ = some (.bool x471004_1) := (blk_cell BK470.out 4).trans rfl
                  have hfz57_0 := blk_frozen BK470.out 0
                  have hfz57_1 := blk_frozen BK470.out 1
                  have hfz57_2 := blk_frozen BK470.out 2
                  have hfz57_3 := blk_frozen BK470.out 3
                  have hfz57_4 := blk_frozen BK470.out 4
                  try go_wp2
                  go_roundg k1
                  case measure => have := HK1.out; omega
                  case rel => exact ⟨(wrap64 (x8_1 + 1)), (t474), (t475), (t476), (t477), (t478), (t484), (t485), (t486), (t487), (t488), (by first | rfl | (simp; done) | (simp [*]; done)), H', ⟨by have := HK1.out; omega⟩, ⟨by (with_reducible repeat (first | refine blk_drewN ?_ _ | refine blk_drew ?_ | refine blk_alloc ?_ _)); refine blk_far ?_ NB464_470.out _; (with_reducible repeat (first | refine blk_drewN ?_ _ | refine blk_drew ?_ | refine blk_alloc ?_ _)); refine blk_far ?_ NB464_470.out _; (with_reducible repeat (first | refine blk_drewN ?_ _ | refine blk_drew ?_ | refine blk_alloc ?_ _)); refine blk_far ?_ NB464_470.out _; (with_reducible repeat (first | refine blk_drewN ?_ _ | refine blk_drew ?_ | refine blk_alloc ?_ _)); refine blk_far ?_ NB464_470.out _; (with_reducible repeat (first | refine blk_drewN ?_ _ | refine blk_drew ?_ | refine blk_alloc ?_ _)); refine blk_far ?_ NB464_470.out _; (with_reducible repeat (first | refine blk_drewN ?_ _ | refine blk_drew ?_ | refine blk_alloc ?_ _)); refine blk_put (cs := #[.int .i64 t474, .int .i64 t475, .int .i64 t476, .int .i64 t477, .bool x465004_1]) ?_ 4 _ rfl; (with_reducible repeat (first | refine blk_drewN ?_ _ | refine blk_drew ?_ | refine blk_alloc ?_ _)); refine blk_put (cs := #[.int .i64 t474, .int .i64 t475, .int .i64 t476, .int .i64 x465003_1, .bool x465004_1]) ?_ 3 _ rfl; (with_reducible repeat (first | refine blk_drewN ?_ _ | refine blk_drew ?_ | refine blk_alloc ?_ _)); refine blk_put (cs := #[.int .i64 t474, .int .i64 t475, .int .i64 x465002_1, .int .i64 x465003_1, .bool x465004_1]) ?_ 2 _ rfl; (with_reducible repeat (first | refine blk_drewN ?_ _ | refine blk_drew ?_ | refine blk_alloc ?_ _)); refine blk_put (cs := #[.int .i64 t474, .int .i64 x465001_1, .int .i64 x465002_1, .int .i64 x465003_1, .bool x465004_1]) ?_ 1 _ rfl; (with_reducible repeat (first | refine blk_drewN ?_ _ | refine blk_drew ?_ | refine blk_alloc ?_ _)); refine blk_put (cs := #[.int .i64 x465000_1, .int .i64 x465001_1, .int .i64 x465002_1, .int .i64 x465003_1, .bool x465004_1]) ?_ 0 _ rfl; (with_reducible repeat (first | refine blk_drewN ?_ _ | refine blk_drew ?_ | refine blk_alloc ?_ _)); exact BK464.out⟩, ⟨by (with_reducible repeat (first | refine blk_drewN ?_ _ | refine blk_drew ?_ | refine blk_alloc ?_ _)); refine blk_put (cs := #[.int .i64 t484, .int .i64 t485, .int .i64 t486, .int .i64 t487, .bool x471004_1]) ?_ 4 _ rfl; (with_reducible repeat (first | refine blk_drewN ?_ _ | refine blk_drew ?_ | refine blk_alloc ?_ _)); refine blk_put (cs := #[.int .i64 t484, .int .i64 t485, .int .i64 t486, .int .i64 x471003_1, .bool x471004_1]) ?_ 3 _ rfl; (with_reducible repeat (first | refine blk_drewN ?_ _ | refine blk_drew ?_ | refine blk_alloc ?_ _)); refine blk_put (cs := #[.int .i64 t484, .int .i64 t485, .int .i64 x471002_1, .int .i64 x471003_1, .bool x471004_1]) ?_ 2 _ rfl; (with_reducible repeat (first | refine blk_drewN ?_ _ | refine blk_drew ?_ | refine blk_alloc ?_ _)); refine blk_put (cs := #[.int .i64 t484, .int .i64 x471001_1, .int .i64 x471002_1, .int .i64 x471003_1, .bool x471004_1]) ?_ 1 _ rfl; (with_reducible repeat (first | refine blk_drewN ?_ _ | refine blk_drew ?_ | refine blk_alloc ?_ _)); refine blk_put (cs := #[.int .i64 x471000_1, .int .i64 x471001_1, .int .i64 x471002_1, .int .i64 x471003_1, .bool x471004_1]) ?_ 0 _ rfl; (with_reducible repeat (first | refine blk_drewN ?_ _ | refine blk_drew ?_ | refine blk_alloc ?_ _)); refine blk_far ?_ NB470_464.out _; (with_reducible repeat (first | refine blk_drewN ?_ _ | refine blk_drew ?_ | refine blk_alloc ?_ _)); refine blk_far ?_ NB470_464.out _; (with_reducible repeat (first | refine blk_drewN ?_ _ | refine blk_drew ?_ | refine blk_alloc ?_ _)); refine blk_far ?_ NB470_464.out _; (with_reducible repeat (first | refine blk_drewN ?_ _ | refine blk_drew ?_ | refine blk_alloc ?_ _)); refine blk_far ?_ NB470_464.out _; (with_reducible repeat (first | refine blk_drewN ?_ _ | refine blk_drew ?_ | refine blk_alloc ?_ _)); refine blk_far ?_ NB470_464.out _; (with_reducible repeat (first | refine blk_drewN ?_ _ | refine blk_drew ?_ | refine blk_alloc ?_ _)); exact BK470.out⟩, ⟨by repeat (first | (with_reducible first | exact HB.out | apply below_alloc | apply pw_below_drewN | apply below_drew1 | refine below_set ?_ GE464.out | refine below_set ?_ GE470.out | refine below_set ?_ GE480.out | refine below_set ?_ GE490.out) | exact HB.out)⟩⟩
                · rw [if_neg c24] at H
                  have c24b0 : (t492 == t494) = false := beq_eq_false_iff_ne.mpr c24
                  have c24b1 : (t492 != t494) = true := bne_iff_ne.mpr c24
                  exact absurd HT.out (by rw [← Option.some.inj H]; decide)
              · rw [if_neg c21] at H
                have c21b0 : (t479 == t489) = false := beq_eq_false_iff_ne.mpr c21
                have c21b1 : (t479 != t489) = true := bne_iff_ne.mpr c21
                exact absurd HT.out (by rw [← Option.some.inj H]; decide)
          · rw [if_neg c17] at H
            exact absurd H (by simp)
        · rw [if_neg c16] at H
          have c16b0 : decide (x8_1 < (l1.length : Int)) = false := decide_eq_false c16
          clear c16
          have H1 : (some ((x465000_1 == x471000_1 && (x465001_1 == x471001_1 && (x465002_1 == x471002_1))) && (x465003_1 == x471003_1 && (x465004_1 == x471004_1)))) = some r := by first | (rw [if_pos rfl] at H; exact H) | (rw [if_pos True.intro] at H; exact H)
          clear H
          have H := H1
          clear H1
          obtain rfl := Option.some.inj H
          have hnb58 := NB464_470.out
          have hnc58 := NB470_464.out
          have hcz59_0 : wr.cell? ⟨gb464, 0, none⟩ = some (.int .i64 x465000_1) := (blk_cell BK464.out 0).trans rfl
          have hcz59_1 : wr.cell? ⟨gb464, 1, none⟩ = some (.int .i64 x465001_1) := (blk_cell BK464.out 1).trans rfl
          have hcz59_2 : wr.cell? ⟨gb464, 2, none⟩ = some (.int .i64 x465002_1) := (blk_cell BK464.out 2).trans rfl
          have hcz59_3 : wr.cell? ⟨gb464, 3, none⟩ = some (.int .i64 x465003_1) := (blk_cell BK464.out 3).trans rfl
          have hcz59_4 : wr.cell? ⟨gb464, 4, none⟩ = some (.bool x465004_1) := (blk_cell BK464.out 4).trans rfl
          have hfz59_0 := blk_frozen BK464.out 0
          have hfz59_1 := blk_frozen BK464.out 1
          have hfz59_2 := blk_frozen BK464.out 2
          have hfz59_3 := blk_frozen BK464.out 3
          have hfz59_4 := blk_frozen BK464.out 4
          have hcz60_0 : wr.cell? ⟨gb470, 0, none⟩ = some (.int .i64 x471000_1) := (blk_cell BK470.out 0).trans rfl
          have hcz60_1 : wr.cell? ⟨gb470, 1, none⟩ = some (.int .i64 x471001_1) := (blk_cell BK470.out 1).trans rfl
          have hcz60_2 : wr.cell? ⟨gb470, 2, none⟩ = some (.int .i64 x471002_1) := (blk_cell BK470.out 2).trans rfl
          have hcz60_3 : wr.cell? ⟨gb470, 3, none⟩ = some (.int .i64 x471003_1) := (blk_cell BK470.out 3).trans rfl
          have hcz60_4 : wr.cell? ⟨gb470, 4, none⟩ = some (.bool x471004_1) := (blk_cell BK470.out 4).trans rfl
          have hfz60_0 := blk_frozen BK470.out 0
          have hfz60_1 := blk_frozen BK470.out 1
          have hfz60_2 := blk_frozen BK470.out 2
          have hfz60_3 := blk_frozen BK470.out 3
          have hfz60_4 := blk_frozen BK470.out 4
          go_wp2
          go_ret
          exact ⟨by first | rfl | (simp [errW_none, errW_some] <;> rfl) | (simp [*, errW_none, errW_some] <;> rfl), by repeat (first | (with_reducible first | exact HB.out | apply below_alloc | apply pw_below_drewN | apply below_drew1 | refine below_set ?_ GE464.out | refine below_set ?_ GE470.out) | exact HB.out)⟩

end Go.Proofs.Ytehibiikdlgneaa.P
