-- Written by this session's own program, for this seat. Lean checks it.
import Derived.Test.YtehibiikdlgneaaP0
namespace Go.Proofs.Ytehibiikdlgneaa.P
open Go.RowKit Go.Proofs.YtehibiikdlgneaaW.PrintWords Go.Proofs.YtehibiikdlgneaaW.PrintLast Go.Proofs.YtehibiikdlgneaaW.PrintMore
attribute [local go_sem] max2_int min2_int max_two min_two max_three min_three max_four min_four   -- for this text's walks alone
set_option linter.unusedVariables false
set_option linter.unusedSimpArgs false

/-! ### encoder_Quantize: function 54 -/
def encoder_Quantize.f (a0 : Int) : Option (Int) := if (Int.tmod a0 16) < 0 then (some (wrap64 ((wrap64 (Int.tdiv a0 16)) - 1))) else (some (wrap64 (Int.tdiv a0 16)))
set_option maxHeartbeats 8000000 in
set_option maxRecDepth 100000 in
theorem encoder_Quantize.calls (a0 : Int) (r : Int) (w : World) (h : encoder_Quantize.f a0 = some r) :
  Calls Try.prog 54 #[.int .i64 a0] w fun e w' => e = .returned (.int .i64 r) ∧ Drawn0 w w' := by
 have H : (if (Int.tmod a0 16) < 0 then (some (wrap64 ((wrap64 (Int.tdiv a0 16)) - 1))) else (some (wrap64 (Int.tdiv a0 16)))) = some r := h
 clear h
 by_cases c2 : (Int.tmod a0 16) < 0
 ·
  rw [if_pos c2] at H
  have c2b0 : decide ((Int.tmod a0 16) < 0) = true := decide_eq_true c2
  clear c2
  obtain rfl := Option.some.inj H
  go_enter Try.func54, Try.ntmps54
  go_wp2
  go_ret
  exact ⟨by first | rfl | (simp; done) | (simp [*]; done), by repeat (first | exact Drawn0.refl _ | apply Drawn0.step)⟩
 ·
  rw [if_neg c2] at H
  have c2b0 : decide ((Int.tmod a0 16) < 0) = false := decide_eq_false c2
  clear c2
  obtain rfl := Option.some.inj H
  go_enter Try.func54, Try.ntmps54
  go_wp2
  go_ret
  exact ⟨by first | rfl | (simp; done) | (simp [*]; done), by repeat (first | exact Drawn0.refl _ | apply Drawn0.step)⟩

/-! ### encoder_New: function 43 -/
def encoder_New.f (a0 : Int) : Option (Int × Int × Int) := (encoder_Quantize.f a0).bind fun t102 => (some (t102, 0, 0))
set_option maxHeartbeats 8000000 in
set_option maxRecDepth 100000 in
theorem encoder_New.calls (a0 : Int) (r1 : Int) (r2 : Int) (r3 : Int) (w : World) (h : encoder_New.f a0 = some (r1, r2, r3)) :
  Calls Try.prog 43 #[.int .i64 a0] w fun e w' => e = .returned (.agg #[.int .i64 r1, .int .i64 r2, .int .i64 r3]) ∧ Below w.heap.size w w' := by
 have hu47 := Try.underlying47
 have HB := Aside0.mk (Below.refl w.heap.size w)
 have H : ((encoder_Quantize.f a0).bind fun t102 => (some (t102, 0, 0))) = some (r1, r2, r3) := h
 clear h
 replace H := Option.bind_eq_some_iff.mp H
 obtain ⟨t102, A20, H⟩ := H
 replace H : (some (t102, 0, 0)) = some (r1, r2, r3) := H
 have A2 := Aside0.mk A20
 clear A20
 simp only [Option.some.injEq, Prod.mk.injEq] at H
 obtain ⟨rfl, rfl, rfl⟩ := H
 go_enter Try.func43, Try.ntmps43
 go_wp2_with (first | ((with_reducible refine gate_dst (N := 2) rfl ?_); refine box_event ?hg (N := 2) ?hd (cs := #[.int .i64 0, .int .i64 0, .int .i64 0]) (t := 47) ?hr ?_; (case hd => rfl); (case hg => rfl); (case hr => first | (go_simp; done) | (go_simp; rfl)); intro gb101 hg w3 hbox hb; have n0_ := Aside0.mk (below_step (by repeat (first | (with_reducible first | exact HB.out | apply below_alloc | apply pw_below_drewN | apply below_drew1) | exact HB.out)) hb); have n1_ := Aside0.mk (hbox); have n2_ := Aside0.mk ((by rw [hg]; exact (below_size (by repeat (first | (with_reducible first | exact HB.out | apply below_alloc | apply pw_below_drewN | apply below_drew1) | exact HB.out))) : w.heap.size ≤ gb101)); have n3_ := Aside0.mk ((by rw [hg]; exact (below_size (by repeat (first | (with_reducible first | exact HB.out | apply below_alloc | apply pw_below_drewN | apply below_drew1) | exact HB.out))) : w.heap.size ≤ gb101)); clear HB; have HB := n0_; have BK101 := n1_; have GW101 := n2_; have GE101 := n3_; clear n0_ n1_ n2_ n3_; clear hb hbox hg) | ((with_reducible refine gate_callee (f := 54) rfl ?_); refine goesL_ (some 4) rfl rfl Try.func54 (by kernel_rfl) rfl #[.int .i64 a0] rfl (by (try simp only [List.map_toArray, List.map_cons, List.map_nil]); first | done | rfl | (simp only [List.length_drop, List.length_take]; rfl)) ?_; (with_reducible refine (encoder_Quantize.calls a0 t102 _ A2.out).mono ?_); rintro e w' ⟨rfl, ⟨nd, rfl⟩⟩; refine ⟨_, rfl, ?_⟩; (try (rw [drewN_self w3]; generalize hq_ : World.drewN w3 _ = w3; have n0_ : Aside0 (w3.heap[gb101]? = some (.cells #[.int .i64 0, .int .i64 0, .int .i64 0] 47 (0, 0))) := ⟨by rw [← hq_]; exact (by (with_reducible repeat (first | refine blk_drewN ?_ _ | refine blk_drew ?_ | refine blk_alloc ?_ _)); exact BK101.out)⟩; have n1_ : Aside0 (Below w.heap.size w w3) := ⟨by rw [← hq_]; exact (by repeat (first | (with_reducible first | exact HB.out | apply below_alloc | apply pw_below_drewN | apply below_drew1 | refine below_set ?_ GE101.out) | exact HB.out))⟩; clear BK101 HB hq_; have BK101 := n0_; have HB := n1_; clear n0_ n1_)); have hcz4_0 : w3.cell? ⟨gb101, 0, none⟩ = some (.int .i64 0) := (blk_cell BK101.out 0).trans rfl; have hcz4_1 : w3.cell? ⟨gb101, 1, none⟩ = some (.int .i64 0) := (blk_cell BK101.out 1).trans rfl; have hcz4_2 : w3.cell? ⟨gb101, 2, none⟩ = some (.int .i64 0) := (blk_cell BK101.out 2).trans rfl; have hfz4_0 := blk_frozen BK101.out 0; have hfz4_1 := blk_frozen BK101.out 1; have hfz4_2 := blk_frozen BK101.out 2))
 refine bodyPost_ret (results_cell_row rfl _ _ gb101 47 #[.int .i64 t102, .int .i64 0, .int .i64 0] (0, 0) _ rfl (by (with_reducible repeat (first | refine blk_drewN ?_ _ | refine blk_drew ?_ | refine blk_alloc ?_ _)); refine blk_put (cs := #[.int .i64 t102, .int .i64 0, .int .i64 0]) ?_ 2 _ rfl; (with_reducible repeat (first | refine blk_drewN ?_ _ | refine blk_drew ?_ | refine blk_alloc ?_ _)); refine blk_put (cs := #[.int .i64 t102, .int .i64 0, .int .i64 0]) ?_ 1 _ rfl; (with_reducible repeat (first | refine blk_drewN ?_ _ | refine blk_drew ?_ | refine blk_alloc ?_ _)); refine blk_put (cs := #[.int .i64 0, .int .i64 0, .int .i64 0]) ?_ 0 _ rfl; (with_reducible repeat (first | refine blk_drewN ?_ _ | refine blk_drew ?_ | refine blk_alloc ?_ _)); exact BK101.out) Try.underlying47 rfl (by kernel_rfl)) rfl ?_
 exact ⟨by first | rfl | (simp [errW_none, errW_some] <;> rfl) | (simp [*, errW_none, errW_some] <;> rfl), by repeat (first | (with_reducible first | exact HB.out | apply below_alloc | apply pw_below_drewN | apply below_drew1 | refine below_set ?_ GE101.out) | exact HB.out)⟩

/-! ### servo_New: function 30 -/
def servo_New.f (a0 : Int) : Option (Int × Int × Int × Int × Bool) := (encoder_New.f a0).bind fun bt104 => (some (bt104.1, bt104.2.1, bt104.2.2, 0, false))
set_option maxHeartbeats 8000000 in
set_option maxRecDepth 100000 in
theorem servo_New.calls (a0 : Int) (r1 : Int) (r2 : Int) (r3 : Int) (r4 : Int) (r5 : Bool) (w : World) (h : servo_New.f a0 = some (r1, r2, r3, r4, r5)) :
  Calls Try.prog 30 #[.int .i64 a0] w fun e w' => e = .returned (.agg #[.int .i64 r1, .int .i64 r2, .int .i64 r3, .int .i64 r4, .bool r5]) ∧ Below w.heap.size w w' := by
 have hu49 := Try.underlying49
 have HB := Aside0.mk (Below.refl w.heap.size w)
 have H : ((encoder_New.f a0).bind fun bt104 => (some (bt104.1, bt104.2.1, bt104.2.2, 0, false))) = some (r1, r2, r3, r4, r5) := h
 clear h
 replace H := Option.bind_eq_some_iff.mp H
 obtain ⟨⟨t104, t105, t106⟩, A20, H⟩ := H
 replace H : (some (t104, t105, t106, 0, false)) = some (r1, r2, r3, r4, r5) := H
 have A2 := Aside0.mk A20
 clear A20
 simp only [Option.some.injEq, Prod.mk.injEq] at H
 obtain ⟨rfl, rfl, rfl, rfl, rfl⟩ := H
 go_enter Try.func30, Try.ntmps30
 go_wp2_with (first | ((with_reducible refine gate_dst (N := 2) rfl ?_); refine box_event ?hg (N := 2) ?hd (cs := #[.int .i64 0, .int .i64 0, .int .i64 0, .int .i64 0, .bool false]) (t := 49) ?hr ?_; (case hd => rfl); (case hg => rfl); (case hr => first | (go_simp; done) | (go_simp; rfl)); intro gb103 hg w3 hbox hb; have n0_ := Aside0.mk (below_step (by repeat (first | (with_reducible first | exact HB.out | apply below_alloc | apply pw_below_drewN | apply below_drew1) | exact HB.out)) hb); have n1_ := Aside0.mk (hbox); have n2_ := Aside0.mk ((by rw [hg]; exact (below_size (by repeat (first | (with_reducible first | exact HB.out | apply below_alloc | apply pw_below_drewN | apply below_drew1) | exact HB.out))) : w.heap.size ≤ gb103)); have n3_ := Aside0.mk ((by rw [hg]; exact (below_size (by repeat (first | (with_reducible first | exact HB.out | apply below_alloc | apply pw_below_drewN | apply below_drew1) | exact HB.out))) : w.heap.size ≤ gb103)); clear HB; have HB := n0_; have BK103 := n1_; have GW103 := n2_; have GE103 := n3_; clear n0_ n1_ n2_ n3_; clear hb hbox hg) | ((with_reducible refine gate_callee (f := 43) rfl ?_); refine goesL_ (some 4) rfl rfl Try.func43 (by kernel_rfl) rfl #[.int .i64 a0] rfl (by (try simp only [List.map_toArray, List.map_cons, List.map_nil]); first | done | rfl | (simp only [List.length_drop, List.length_take]; rfl)) ?_; (with_reducible refine (encoder_New.calls a0 t104 t105 t106 _ A2.out).mono ?_); rintro e w4 ⟨rfl, hb⟩; refine ⟨_, rfl, ?_⟩; have n0_ := Aside0.mk (blk_below (g := gb103) (o := .cells #[.int .i64 0, .int .i64 0, .int .i64 0, .int .i64 0, .bool false] 49 (0, 0)) (by (with_reducible repeat (first | refine blk_drewN ?_ _ | refine blk_drew ?_ | refine blk_alloc ?_ _)); exact BK103.out) hb); have n1_ := Aside0.mk (below_step (by repeat (first | (with_reducible first | exact HB.out | apply below_alloc | apply pw_below_drewN | apply below_drew1 | refine below_set ?_ GE103.out) | exact HB.out)) hb); clear BK103; clear HB; have BK103 := n0_; have HB := n1_; clear n0_ n1_; (try clear hb); (try clear hb2); (try clear hk); (try clear hi); have hcz5_0 : w4.cell? ⟨gb103, 0, none⟩ = some (.int .i64 0) := (blk_cell BK103.out 0).trans rfl; have hcz5_1 : w4.cell? ⟨gb103, 1, none⟩ = some (.int .i64 0) := (blk_cell BK103.out 1).trans rfl; have hcz5_2 : w4.cell? ⟨gb103, 2, none⟩ = some (.int .i64 0) := (blk_cell BK103.out 2).trans rfl; have hcz5_3 : w4.cell? ⟨gb103, 3, none⟩ = some (.int .i64 0) := (blk_cell BK103.out 3).trans rfl; have hcz5_4 : w4.cell? ⟨gb103, 4, none⟩ = some (.bool false) := (blk_cell BK103.out 4).trans rfl; have hfz5_0 := blk_frozen BK103.out 0; have hfz5_1 := blk_frozen BK103.out 1; have hfz5_2 := blk_frozen BK103.out 2; have hfz5_3 := blk_frozen BK103.out 3; have hfz5_4 := blk_frozen BK103.out 4))
 refine bodyPost_ret (results_cell_row rfl _ _ gb103 49 #[.int .i64 t104, .int .i64 t105, .int .i64 t106, .int .i64 0, .bool false] (0, 0) _ rfl (by (with_reducible repeat (first | refine blk_drewN ?_ _ | refine blk_drew ?_ | refine blk_alloc ?_ _)); refine blk_put (cs := #[.int .i64 t104, .int .i64 t105, .int .i64 t106, .int .i64 0, .bool false]) ?_ 4 _ rfl; (with_reducible repeat (first | refine blk_drewN ?_ _ | refine blk_drew ?_ | refine blk_alloc ?_ _)); refine blk_put (cs := #[.int .i64 t104, .int .i64 t105, .int .i64 t106, .int .i64 0, .bool false]) ?_ 3 _ rfl; (with_reducible repeat (first | refine blk_drewN ?_ _ | refine blk_drew ?_ | refine blk_alloc ?_ _)); refine blk_put (cs := #[.int .i64 t104, .int .i64 t105, .int .i64 0, .int .i64 0, .bool false]) ?_ 2 _ rfl; (with_reducible repeat (first | refine blk_drewN ?_ _ | refine blk_drew ?_ | refine blk_alloc ?_ _)); refine blk_put (cs := #[.int .i64 t104, .int .i64 0, .int .i64 0, .int .i64 0, .bool false]) ?_ 1 _ rfl; (with_reducible repeat (first | refine blk_drewN ?_ _ | refine blk_drew ?_ | refine blk_alloc ?_ _)); refine blk_put (cs := #[.int .i64 0, .int .i64 0, .int .i64 0, .int .i64 0, .bool false]) ?_ 0 _ rfl; (with_reducible repeat (first | refine blk_drewN ?_ _ | refine blk_drew ?_ | refine blk_alloc ?_ _)); exact BK103.out) Try.underlying49 rfl (by kernel_rfl)) rfl ?_
 exact ⟨by first | rfl | (simp [errW_none, errW_some] <;> rfl) | (simp [*, errW_none, errW_some] <;> rfl), by repeat (first | (with_reducible first | exact HB.out | apply below_alloc | apply pw_below_drewN | apply below_drew1 | refine below_set ?_ GE103.out) | exact HB.out)⟩

/-! ### encoder_Estimate: function 50 -/
def encoder_Estimate.f (a0_0 : Int) (a0_1 : Int) (a0_2 : Int) : Option (Int) := some (wrap64 ((wrap64 ((wrap64 (a0_0 * 16)) + a0_1)) + 8))
set_option maxHeartbeats 8000000 in
set_option maxRecDepth 100000 in
theorem encoder_Estimate.calls (a0_0 : Int) (a0_1 : Int) (a0_2 : Int) (r : Int) (w : World) (h : encoder_Estimate.f a0_0 a0_1 a0_2 = some r) :
  Calls Try.prog 50 #[.agg #[.int .i64 a0_0, .int .i64 a0_1, .int .i64 a0_2]] w fun e w' => e = .returned (.int .i64 r) ∧ Below w.heap.size w w' := by
 have hu47 := Try.underlying47
 have HB := Aside0.mk (Below.refl w.heap.size w)
 have H : (some (wrap64 ((wrap64 ((wrap64 (a0_0 * 16)) + a0_1)) + 8))) = some r := h
 clear h
 obtain rfl := Option.some.inj H
 go_enter Try.func50, Try.ntmps50
 go_wp2_with (first | ((with_reducible refine gate_dst (N := 1) rfl ?_); refine box_event ?hg (N := 1) ?hd (cs := #[.int .i64 a0_0, .int .i64 a0_1, .int .i64 a0_2]) (t := 47) ?hr ?_; (case hd => rfl); (case hg => rfl); (case hr => first | (go_simp; done) | (go_simp; rfl)); intro gb107 hg w2 hbox hb; have n0_ := Aside0.mk (below_step (by repeat (first | (with_reducible first | exact HB.out | apply below_alloc | apply pw_below_drewN | apply below_drew1) | exact HB.out)) hb); have n1_ := Aside0.mk (hbox); have n2_ := Aside0.mk ((by rw [hg]; exact (below_size (by repeat (first | (with_reducible first | exact HB.out | apply below_alloc | apply pw_below_drewN | apply below_drew1) | exact HB.out))) : w.heap.size ≤ gb107)); have n3_ := Aside0.mk ((by rw [hg]; exact (below_size (by repeat (first | (with_reducible first | exact HB.out | apply below_alloc | apply pw_below_drewN | apply below_drew1) | exact HB.out))) : w.heap.size ≤ gb107)); clear HB; have HB := n0_; have BK107 := n1_; have GW107 := n2_; have GE107 := n3_; clear n0_ n1_ n2_ n3_; clear hb hbox hg; have hcz3_0 : w2.cell? ⟨gb107, 0, none⟩ = some (.int .i64 a0_0) := (blk_cell BK107.out 0).trans rfl; have hcz3_1 : w2.cell? ⟨gb107, 1, none⟩ = some (.int .i64 a0_1) := (blk_cell BK107.out 1).trans rfl; have hcz3_2 : w2.cell? ⟨gb107, 2, none⟩ = some (.int .i64 a0_2) := (blk_cell BK107.out 2).trans rfl; have hfz3_0 := blk_frozen BK107.out 0; have hfz3_1 := blk_frozen BK107.out 1; have hfz3_2 := blk_frozen BK107.out 2))
 go_ret
 exact ⟨by first | rfl | (simp [errW_none, errW_some] <;> rfl) | (simp [*, errW_none, errW_some] <;> rfl), by repeat (first | (with_reducible first | exact HB.out | apply below_alloc | apply pw_below_drewN | apply below_drew1 | refine below_set ?_ GE107.out) | exact HB.out)⟩

/-! ### servo_TrackingError: function 34 -/
def servo_TrackingError.f (a0_0 : Int) (a0_1 : Int) (a0_2 : Int) (a0_3 : Int) (a0_4 : Bool) (a1 : Int) : Option (Int) := (encoder_Estimate.f a0_0 a0_1 a0_2).bind fun t109 => (some (wrap64 ((wrap64 ((wrap64 (a1 * 16)) + 8)) - t109)))
set_option maxHeartbeats 8000000 in
set_option maxRecDepth 100000 in
theorem servo_TrackingError.calls (a0_0 : Int) (a0_1 : Int) (a0_2 : Int) (a0_3 : Int) (a0_4 : Bool) (a1 : Int) (r : Int) (w : World) (h : servo_TrackingError.f a0_0 a0_1 a0_2 a0_3 a0_4 a1 = some r) :
  Calls Try.prog 34 #[.agg #[.int .i64 a0_0, .int .i64 a0_1, .int .i64 a0_2, .int .i64 a0_3, .bool a0_4], .int .i64 a1] w fun e w' => e = .returned (.int .i64 r) ∧ Below w.heap.size w w' := by
 have hu49 := Try.underlying49
 have hu47 := Try.underlying47
 have HB := Aside0.mk (Below.refl w.heap.size w)
 have H : ((encoder_Estimate.f a0_0 a0_1 a0_2).bind fun t109 => (some (wrap64 ((wrap64 ((wrap64 (a1 * 16)) + 8)) - t109)))) = some r := h
 clear h
 replace H := Option.bind_eq_some_iff.mp H
 obtain ⟨t109, A30, H⟩ := H
 replace H : (some (wrap64 ((wrap64 ((wrap64 (a1 * 16)) + 8)) - t109))) = some r := H
 have A3 := Aside0.mk A30
 clear A30
 obtain rfl := Option.some.inj H
 go_enter Try.func34, Try.ntmps34
 go_wp2_with (first | ((with_reducible refine gate_dst (N := 2) rfl ?_); refine box_event ?hg (N := 2) ?hd (cs := #[.int .i64 a0_0, .int .i64 a0_1, .int .i64 a0_2, .int .i64 a0_3, .bool a0_4]) (t := 49) ?hr ?_; (case hd => rfl); (case hg => rfl); (case hr => first | (go_simp; done) | (go_simp; rfl)); intro gb108 hg w4 hbox hb; have n0_ := Aside0.mk (below_step (by repeat (first | (with_reducible first | exact HB.out | apply below_alloc | apply pw_below_drewN | apply below_drew1) | exact HB.out)) hb); have n1_ := Aside0.mk (hbox); have n2_ := Aside0.mk ((by rw [hg]; exact (below_size (by repeat (first | (with_reducible first | exact HB.out | apply below_alloc | apply pw_below_drewN | apply below_drew1) | exact HB.out))) : w.heap.size ≤ gb108)); have n3_ := Aside0.mk ((by rw [hg]; exact (below_size (by repeat (first | (with_reducible first | exact HB.out | apply below_alloc | apply pw_below_drewN | apply below_drew1) | exact HB.out))) : w.heap.size ≤ gb108)); clear HB; have HB := n0_; have BK108 := n1_; have GW108 := n2_; have GE108 := n3_; clear n0_ n1_ n2_ n3_; clear hb hbox hg; have hcz5_0 : w4.cell? ⟨gb108, 0, none⟩ = some (.int .i64 a0_0) := (blk_cell BK108.out 0).trans rfl; have hcz5_1 : w4.cell? ⟨gb108, 1, none⟩ = some (.int .i64 a0_1) := (blk_cell BK108.out 1).trans rfl; have hcz5_2 : w4.cell? ⟨gb108, 2, none⟩ = some (.int .i64 a0_2) := (blk_cell BK108.out 2).trans rfl; have hcz5_3 : w4.cell? ⟨gb108, 3, none⟩ = some (.int .i64 a0_3) := (blk_cell BK108.out 3).trans rfl; have hcz5_4 : w4.cell? ⟨gb108, 4, none⟩ = some (.bool a0_4) := (blk_cell BK108.out 4).trans rfl; have hfz5_0 := blk_frozen BK108.out 0; have hfz5_1 := blk_frozen BK108.out 1; have hfz5_2 := blk_frozen BK108.out 2; have hfz5_3 := blk_frozen BK108.out 3; have hfz5_4 := blk_frozen BK108.out 4) | ((with_reducible refine gate_callee (f := 50) rfl ?_); refine goesL_ (some 12) rfl rfl Try.func50 (by kernel_rfl) rfl #[.agg #[.int .i64 a0_0, .int .i64 a0_1, .int .i64 a0_2]] rfl (by (try simp only [List.map_toArray, List.map_cons, List.map_nil]); first | done | rfl | (simp only [List.length_drop, List.length_take]; rfl)) ?_; (with_reducible refine (encoder_Estimate.calls a0_0 a0_1 a0_2 t109 _ A3.out).mono ?_); rintro e w6 ⟨rfl, hb⟩; refine ⟨_, rfl, ?_⟩; have n0_ := Aside0.mk (blk_below (g := gb108) (o := .cells #[.int .i64 a0_0, .int .i64 a0_1, .int .i64 a0_2, .int .i64 a0_3, .bool a0_4] 49 (0, 0)) (by (with_reducible repeat (first | refine blk_drewN ?_ _ | refine blk_drew ?_ | refine blk_alloc ?_ _)); exact BK108.out) hb); have n1_ := Aside0.mk (below_step (by repeat (first | (with_reducible first | exact HB.out | apply below_alloc | apply pw_below_drewN | apply below_drew1 | refine below_set ?_ GE108.out) | exact HB.out)) hb); clear BK108; clear HB; have BK108 := n0_; have HB := n1_; clear n0_ n1_; (try clear hb); (try clear hb2); (try clear hk); (try clear hi)))
 go_ret
 exact ⟨by first | rfl | (simp [errW_none, errW_some] <;> rfl) | (simp [*, errW_none, errW_some] <;> rfl), by repeat (first | (with_reducible first | exact HB.out | apply below_alloc | apply pw_below_drewN | apply below_drew1 | refine below_set ?_ GE108.out) | exact HB.out)⟩

/-! ### encoder_Observe: function 55 -/
theorem encoder_Observe.zero (w : World) : (zeroValue 83).run Try.prog w = .ok .nilFunc w := by kernel_rfl
theorem encoder_Observe.one (a0_0 a0_1 a0_2 a2 : Int) (w : World) :
  Calls Try.prog 55 #[.agg #[.int .i64 a0_0, .int .i64 a0_1, .int .i64 a0_2], .int .i64 1, .int .i64 a2] w fun e w' => e = .returned (.agg #[.int .i64 a2, .int .i64 0, .int .i64 0]) ∧ Below w.heap.size w w' := by
 have hmm := @run_makeMap Try.prog
 have hins := fun (W : World) (n : Nat) (hn : W.heap.size = n) (v : Value) => MapOne.run_insert_new (P := Try.prog) (es := #[]) (clock := 0) (key := 1) Try.underlying84 Try.underlying3 rfl W n hn v
 have hlk := fun (W : World) (n : Nat) (hn : W.heap.size = n) (v : Value) => MapOne.run_lookup_known (P := Try.prog) (key := 1) Try.underlying84 Try.underlying3 (MapOne.heap_last W (.map #[{ key := .int .i64 1, val := v, born := 0 }] 1) n hn) (i := 0) (v := v) rfl
 go_enter Try.func55, Try.ntmps55
 go_wp2
 refine bodyPost_ret (v := .agg #[.int .i64 a2, .int .i64 0, .int .i64 0]) (by simp [results, Try.results57, go_sem]) rfl ?_
 go_wp2
 refine bodyPost_ret (v := .agg #[.int .i64 a2, .int .i64 0, .int .i64 0]) (by simp [results, Try.results55, go_sem]) rfl ⟨rfl, ?_⟩
 repeat (first | exact Below.refl _ _ | refine Below.setCell ?_ (by simp) _ | refine Below.alloc ?_ (by simp <;> omega) _ | refine Below.drew ?_)
theorem encoder_Observe.other (a0_0 a0_1 a0_2 a1 a2 : Int) (w : World) (h1 : a1 ≠ 1) :
  Calls Try.prog 55 #[.agg #[.int .i64 a0_0, .int .i64 a0_1, .int .i64 a0_2], .int .i64 a1, .int .i64 a2] w fun e w' => e = .returned (.agg #[.int .i64 a0_0, .int .i64 a0_1, .int .i64 (wrap64 (a0_2 + 1))]) ∧ Below w.heap.size w w' := by
 have hmm := @run_makeMap Try.prog
 have hins := fun (W : World) (n : Nat) (hn : W.heap.size = n) (v : Value) => MapOne.run_insert_new (P := Try.prog) (es := #[]) (clock := 0) (key := 1) Try.underlying84 Try.underlying3 rfl W n hn v
 have hlk := fun (W : World) (n : Nat) (hn : W.heap.size = n) (v : Value) => MapOne.run_lookup_lacks (P := Try.prog) (key := a1) Try.underlying84 Try.underlying3 (MapOne.heap_last W (.map #[{ key := .int .i64 1, val := v, born := 0 }] 1) n hn) (encoder_Observe.zero _) (by simp [Instr.findNow, Instr.sameNow, beq_eq_false_iff_ne.mpr h1])
 clear h1
 go_enter Try.func55, Try.ntmps55
 go_wp2
 refine bodyPost_ret (v := .agg #[.int .i64 a0_0, .int .i64 a0_1, .int .i64 (wrap64 (a0_2 + 1))]) (by simp [results, Try.results55, go_sem]) rfl ⟨rfl, ?_⟩
 repeat (first | exact Below.refl _ _ | refine Below.setCell ?_ (by simp) _ | refine Below.alloc ?_ (by simp <;> omega) _ | refine Below.drew ?_)
def encoder_Observe.f (a0_0 : Int) (a0_1 : Int) (a0_2 : Int) (a1 : Int) (a2 : Int) : Option (Int × Int × Int) := if a1 = 1 then some (a2, 0, 0) else some (a0_0, a0_1, wrap64 (a0_2 + 1))
theorem encoder_Observe.calls (a0_0 : Int) (a0_1 : Int) (a0_2 : Int) (a1 : Int) (a2 : Int) (r1 : Int) (r2 : Int) (r3 : Int) (w : World) (h : encoder_Observe.f a0_0 a0_1 a0_2 a1 a2 = some (r1, r2, r3)) :
  Calls Try.prog 55 #[.agg #[.int .i64 a0_0, .int .i64 a0_1, .int .i64 a0_2], .int .i64 a1, .int .i64 a2] w fun e w' => e = .returned (.agg #[.int .i64 r1, .int .i64 r2, .int .i64 r3]) ∧ Below w.heap.size w w' := by
 unfold encoder_Observe.f at h
 by_cases c : a1 = 1
 ·
  rw [if_pos c] at h
  simp only [Option.some.injEq, Prod.mk.injEq] at h
  obtain ⟨rfl, rfl, rfl⟩ := h
  subst c
  exact encoder_Observe.one _ _ _ _ w
 ·
  rw [if_neg c] at h
  simp only [Option.some.injEq, Prod.mk.injEq] at h
  obtain ⟨rfl, rfl, rfl⟩ := h
  exact encoder_Observe.other _ _ _ _ _ w c

/-- A state of type 72 at block g of W; what its slices lead to came in by w0. -/
def IsS72 (w0 W : World) (g : Nat) (f0 : Int) (f1 : Int) (f2 : Int) (f3 : Int) (f4 : Bool) : Prop := W.heap[g]? = some (.cells #[.int .i64 f0, .int .i64 f1, .int .i64 f2, .int .i64 f3, .bool f4] 72 (0, 0)) ∧ w0.heap.size ≤ g
theorem IsS72.grown {w0 W : World} {g : Nat} {f0 : Int} {f1 : Int} {f2 : Int} {f3 : Int} {f4 : Bool} {W1 : World} {row : Option Nat} (h : IsS72 w0 W g f0 f1 f2 f3 f4) (hw : W.grownBy W1 row) (hne : some g ≠ row) : IsS72 w0 W1 g f0 f1 f2 f3 f4 := by
 obtain ⟨hb, hg⟩ := h
 exact ⟨blk_grown hb hw hne, hg⟩
theorem IsS72.own_neN {w0 W : World} {g : Nat} {f0 : Int} {f1 : Int} {f2 : Int} {f3 : Int} {f4 : Bool} {α : Type} {d : Kd α} {e : Nat} {base : Nat} {ok : Nat → Prop} {v : Value} {xs : List α} (h : IsS72 w0 W g f0 f1 f2 f3 f4) (ho : Kd.N d e W base ok v xs) (ht : e ≠ 72) : some g ≠ v.ownBlock := by
 obtain ⟨hb, hg⟩ := h
 exact Kd.N_ne ho hb ht
theorem IsS72.fresh {w0 W : World} {g : Nat} {f0 : Int} {f1 : Int} {f2 : Int} {f3 : Int} {f4 : Bool} (h : IsS72 w0 W g f0 f1 f2 f3 f4) : ∀ k, W.heap.size ≤ k → k ≠ g := by
 obtain ⟨hb, hg⟩ := h
 exact Kd.freshB hb
theorem IsS72.kept {w0 W : World} {g : Nat} {f0 : Int} {f1 : Int} {f2 : Int} {f3 : Int} {f4 : Bool} {W1 : World} {S : Nat → Prop} (h : IsS72 w0 W g f0 f1 f2 f3 f4) (hk : Kept W W1 S) (hne : ¬ S g) : IsS72 w0 W1 g f0 f1 f2 f3 f4 := by
 obtain ⟨hb, hg⟩ := h
 exact ⟨blk_kept hb hk hne, hg⟩
theorem IsS72.below {w0 W : World} {g : Nat} {f0 : Int} {f1 : Int} {f2 : Int} {f3 : Int} {f4 : Bool} {W1 : World} (h : IsS72 w0 W g f0 f1 f2 f3 f4) (hw : Below W.heap.size W W1) : IsS72 w0 W1 g f0 f1 f2 f3 f4 := h.grown (grown_of_below hw none) (by simp)
theorem IsS72.alloc {w0 W : World} {g : Nat} {f0 : Int} {f1 : Int} {f2 : Int} {f3 : Int} {f4 : Bool} (h : IsS72 w0 W g f0 f1 f2 f3 f4) (o : Obj) : IsS72 w0 (W.alloc o) g f0 f1 f2 f3 f4 := h.below (below_alloc (Below.refl _ _) o)
theorem IsS72.drewN {w0 W : World} {g : Nat} {f0 : Int} {f1 : Int} {f2 : Int} {f3 : Int} {f4 : Bool} (h : IsS72 w0 W g f0 f1 f2 f3 f4) (m : Nat) : IsS72 w0 (W.drewN m) g f0 f1 f2 f3 f4 := h
theorem IsS72.drew {w0 W : World} {g : Nat} {f0 : Int} {f1 : Int} {f2 : Int} {f3 : Int} {f4 : Bool} (h : IsS72 w0 W g f0 f1 f2 f3 f4) : IsS72 w0 W.drew g f0 f1 f2 f3 f4 := h
theorem IsS72.at_ {w0 W : World} {g : Nat} {f0 : Int} {f1 : Int} {f2 : Int} {f3 : Int} {f4 : Bool} {w' : World} {m : Nat} (hq : W.drewN m = w') (h : IsS72 w0 W g f0 f1 f2 f3 f4) : IsS72 w0 w' g f0 f1 f2 f3 f4 := by subst hq; exact IsS72.drewN h m
theorem IsS72.apart {w0 W : World} {g : Nat} {f0 : Int} {f1 : Int} {f2 : Int} {f3 : Int} {f4 : Bool} {α : Type} {d : Kd α} {e : Nat} {base : Nat} {ok : Nat → Prop} {v : Value} {xs : List α} (h : IsS72 w0 W g f0 f1 f2 f3 f4) (ho : d.R e W base ok v xs) (ht : ∀ q, q ∈ e :: d.E → q ≠ 72) : d.R e W base (fun k => ok k ∧ k ≠ g) v xs := by
 obtain ⟨hb, hg⟩ := h
 exact Kd.R_types ho hb ht
theorem IsS72.own_ne {w0 W : World} {g : Nat} {f0 : Int} {f1 : Int} {f2 : Int} {f3 : Int} {f4 : Bool} {α : Type} {d : Kd α} {e : Nat} {base : Nat} {ok : Nat → Prop} {v : Value} {xs : List α} (h : IsS72 w0 W g f0 f1 f2 f3 f4) (ho : d.R e W base ok v xs) (ht : e ≠ 72) : some g ≠ v.ownBlock := by
 obtain ⟨hb, hg⟩ := h
 exact Kd.R_ne ho hb ht
theorem IsS72.apartQ {w0 W : World} {g : Nat} {f0 : Int} {f1 : Int} {f2 : Int} {f3 : Int} {f4 : Bool} {α : Type} {d : Kd α} {e : Nat} {base : Nat} {ok : Nat → Prop} {v : Value} {xs : List α} (h : IsS72 w0 W g f0 f1 f2 f3 f4) (ho : d.Q e W base ok v xs) (ht : ∀ q, q ∈ e :: d.E → q ≠ 72) : d.Q e W base (fun k => ok k ∧ k ≠ g) v xs := by
 obtain ⟨hb, hg⟩ := h
 exact Kd.Q_types ho hb ht
theorem IsS72.own_neQ {w0 W : World} {g : Nat} {f0 : Int} {f1 : Int} {f2 : Int} {f3 : Int} {f4 : Bool} {α : Type} {d : Kd α} {e : Nat} {base : Nat} {ok : Nat → Prop} {v : Value} {xs : List α} (h : IsS72 w0 W g f0 f1 f2 f3 f4) (ho : d.Q e W base ok v xs) (ht : e ≠ 72) : some g ≠ v.ownBlock := by
 obtain ⟨hb, hg⟩ := h
 exact Kd.Q_ne ho hb ht
theorem IsS72.apartS {w0 W : World} {g : Nat} {f0 : Int} {f1 : Int} {f2 : Int} {f3 : Int} {f4 : Bool} {α : Type} {d : Kd α} {e : Nat} {base : Nat} {ok : Nat → Prop} {v : Value} {xs : List α} (h : IsS72 w0 W g f0 f1 f2 f3 f4) (ho : d.S e W base ok v xs) (ht : ∀ q, q ∈ e :: d.E → q ≠ 72) : d.S e W base (fun k => ok k ∧ k ≠ g) v xs := by
 obtain ⟨hb, hg⟩ := h
 exact Kd.S_types ho hb ht
theorem IsS72.own_neS {w0 W : World} {g : Nat} {f0 : Int} {f1 : Int} {f2 : Int} {f3 : Int} {f4 : Bool} {α : Type} {d : Kd α} {e : Nat} {base : Nat} {ok : Nat → Prop} {v : Value} {xs : List α} (h : IsS72 w0 W g f0 f1 f2 f3 f4) (ho : d.S e W base ok v xs) (ht : e ≠ 72) : some g ≠ v.ownBlock := by
 obtain ⟨hb, hg⟩ := h
 exact Kd.S_ne ho hb ht
theorem IsS72.lt {w0 W : World} {g : Nat} {f0 : Int} {f1 : Int} {f2 : Int} {f3 : Int} {f4 : Bool} (h : IsS72 w0 W g f0 f1 f2 f3 f4) : g < W.heap.size := by
 obtain ⟨hb, hg⟩ := h
 exact blk_lt hb
theorem IsS72.ge {w0 W : World} {g : Nat} {f0 : Int} {f1 : Int} {f2 : Int} {f3 : Int} {f4 : Bool} (h : IsS72 w0 W g f0 f1 f2 f3 f4) : w0.heap.size ≤ g := by
 obtain ⟨hb, hg⟩ := h
 exact hg
theorem IsS72.ne_blk {w0 W : World} {g : Nat} {f0 : Int} {f1 : Int} {f2 : Int} {f3 : Int} {f4 : Bool} {a : Nat} {cs : Array Value} {t : TypeId} {fr : Nat × Nat} (h : IsS72 w0 W g f0 f1 f2 f3 f4) (hb2 : W.heap[a]? = some (.cells cs t fr)) (ht : t ≠ 72) : g ≠ a := by
 obtain ⟨hb, hg⟩ := h
 rintro rfl
 rw [hb] at hb2
 injection hb2 with hb2
 injection hb2 with _ ht2
 exact ht ht2.symm
theorem IsS72.far {w0 W : World} {g : Nat} {f0 : Int} {f1 : Int} {f2 : Int} {f3 : Int} {f4 : Bool} {p : Addr} (h : IsS72 w0 W g f0 f1 f2 f3 f4) (hne : g ≠ p.block) (u : Value) : IsS72 w0 (W.setCell p u) g f0 f1 f2 f3 f4 := by
 obtain ⟨hb, hg⟩ := h
 exact ⟨blk_far hb hne u, hg⟩
theorem cellS72_0 {W : World} {g : Nat} {f0 : Int} {f1 : Int} {f2 : Int} {f3 : Int} {f4 : Bool} (h : W.heap[g]? = some (.cells #[.int .i64 f0, .int .i64 f1, .int .i64 f2, .int .i64 f3, .bool f4] 72 (0, 0))) : W.cell? ⟨g, 0, none⟩ = some (.int .i64 f0) := (blk_cell h 0).trans rfl
theorem IsS72.set_0 {w0 W : World} {g : Nat} {f0 : Int} {f1 : Int} {f2 : Int} {f3 : Int} {f4 : Bool} (h : IsS72 w0 W g f0 f1 f2 f3 f4) (x : Int) : IsS72 w0 (W.setCell ⟨g, 0, none⟩ (.int .i64 x)) g x f1 f2 f3 f4 := by
 obtain ⟨hb, hg⟩ := h
 exact ⟨by simpa using blk_set hb 0 (.int .i64 x), hg⟩
theorem cellS72_1 {W : World} {g : Nat} {f0 : Int} {f1 : Int} {f2 : Int} {f3 : Int} {f4 : Bool} (h : W.heap[g]? = some (.cells #[.int .i64 f0, .int .i64 f1, .int .i64 f2, .int .i64 f3, .bool f4] 72 (0, 0))) : W.cell? ⟨g, 1, none⟩ = some (.int .i64 f1) := (blk_cell h 1).trans rfl
theorem IsS72.set_1 {w0 W : World} {g : Nat} {f0 : Int} {f1 : Int} {f2 : Int} {f3 : Int} {f4 : Bool} (h : IsS72 w0 W g f0 f1 f2 f3 f4) (x : Int) : IsS72 w0 (W.setCell ⟨g, 1, none⟩ (.int .i64 x)) g f0 x f2 f3 f4 := by
 obtain ⟨hb, hg⟩ := h
 exact ⟨by simpa using blk_set hb 1 (.int .i64 x), hg⟩
theorem cellS72_2 {W : World} {g : Nat} {f0 : Int} {f1 : Int} {f2 : Int} {f3 : Int} {f4 : Bool} (h : W.heap[g]? = some (.cells #[.int .i64 f0, .int .i64 f1, .int .i64 f2, .int .i64 f3, .bool f4] 72 (0, 0))) : W.cell? ⟨g, 2, none⟩ = some (.int .i64 f2) := (blk_cell h 2).trans rfl
theorem IsS72.set_2 {w0 W : World} {g : Nat} {f0 : Int} {f1 : Int} {f2 : Int} {f3 : Int} {f4 : Bool} (h : IsS72 w0 W g f0 f1 f2 f3 f4) (x : Int) : IsS72 w0 (W.setCell ⟨g, 2, none⟩ (.int .i64 x)) g f0 f1 x f3 f4 := by
 obtain ⟨hb, hg⟩ := h
 exact ⟨by simpa using blk_set hb 2 (.int .i64 x), hg⟩
theorem cellS72_3 {W : World} {g : Nat} {f0 : Int} {f1 : Int} {f2 : Int} {f3 : Int} {f4 : Bool} (h : W.heap[g]? = some (.cells #[.int .i64 f0, .int .i64 f1, .int .i64 f2, .int .i64 f3, .bool f4] 72 (0, 0))) : W.cell? ⟨g, 3, none⟩ = some (.int .i64 f3) := (blk_cell h 3).trans rfl
theorem IsS72.set_3 {w0 W : World} {g : Nat} {f0 : Int} {f1 : Int} {f2 : Int} {f3 : Int} {f4 : Bool} (h : IsS72 w0 W g f0 f1 f2 f3 f4) (x : Int) : IsS72 w0 (W.setCell ⟨g, 3, none⟩ (.int .i64 x)) g f0 f1 f2 x f4 := by
 obtain ⟨hb, hg⟩ := h
 exact ⟨by simpa using blk_set hb 3 (.int .i64 x), hg⟩
theorem cellS72_4 {W : World} {g : Nat} {f0 : Int} {f1 : Int} {f2 : Int} {f3 : Int} {f4 : Bool} (h : W.heap[g]? = some (.cells #[.int .i64 f0, .int .i64 f1, .int .i64 f2, .int .i64 f3, .bool f4] 72 (0, 0))) : W.cell? ⟨g, 4, none⟩ = some (.bool f4) := (blk_cell h 4).trans rfl
theorem IsS72.set_4 {w0 W : World} {g : Nat} {f0 : Int} {f1 : Int} {f2 : Int} {f3 : Int} {f4 : Bool} (h : IsS72 w0 W g f0 f1 f2 f3 f4) (x : Bool) : IsS72 w0 (W.setCell ⟨g, 4, none⟩ (.bool x)) g f0 f1 f2 f3 x := by
 obtain ⟨hb, hg⟩ := h
 exact ⟨by simpa using blk_set hb 4 (.bool x), hg⟩
theorem IsS72.new (w0 W : World) (f0 : Int) (f1 : Int) (f2 : Int) (f3 : Int) (f4 : Bool) (hB : Below w0.heap.size w0 W) : IsS72 w0 (W.alloc (.cells #[.int .i64 f0, .int .i64 f1, .int .i64 f2, .int .i64 f3, .bool f4] 72)) W.heap.size f0 f1 f2 f3 f4 := ⟨by simpa using heap_alloc_new W _, hB.size⟩

/-! ### servo_loop_hear: function 45 -/
def servo_loop_hear.f (s0_0 : Int) (s0_1 : Int) (s0_2 : Int) (s0_3 : Int) (s0_4 : Bool) (a1 : Int) (a2 : Int) : Option (Int × Int × Int × Int × Bool) := (encoder_Observe.f s0_0 s0_1 s0_2 a1 a2).bind fun bt110 => (if bt110.2.2 > 6 then (some (bt110.1, bt110.2.1, bt110.2.2, s0_3, true)) else (some (bt110.1, bt110.2.1, bt110.2.2, s0_3, s0_4)))
set_option maxHeartbeats 8000000 in
set_option maxRecDepth 100000 in
theorem servo_loop_hear.calls (g : Nat) (s0_0 : Int) (s0_1 : Int) (s0_2 : Int) (s0_3 : Int) (s0_4 : Bool) (a1 : Int) (a2 : Int) (r1 : Int) (r2 : Int) (r3 : Int) (r4 : Int) (r5 : Bool) (w0 w : World) (hI : IsS72 w0 w g s0_0 s0_1 s0_2 s0_3 s0_4) (hB : Below w0.heap.size w0 w) (h : servo_loop_hear.f s0_0 s0_1 s0_2 s0_3 s0_4 a1 a2 = some (r1, r2, r3, r4, r5)) :
  Calls Try.prog 45 #[.pointer (some ⟨g, 0, none⟩), .int .i64 a1, .int .i64 a2] w fun e w' => e = .returned (.tuple #[]) ∧ IsS72 w0 w' g r1 r2 r3 r4 r5 ∧ Below w0.heap.size w0 w' ∧ KeepBut w w' g none := by
 have hu47 := Try.underlying47
 have HI0 := Aside0.mk hI
 have HK := Aside0.mk (KeepBut.refl w g none)
 have HL := Aside0.mk hB.size
 clear hI
 have HW0 := Aside0.mk hB.size
 have HB := Aside0.mk hB
 clear hB
 have H : ((encoder_Observe.f s0_0 s0_1 s0_2 a1 a2).bind fun bt110 => (if bt110.2.2 > 6 then (some (bt110.1, bt110.2.1, bt110.2.2, s0_3, true)) else (some (bt110.1, bt110.2.1, bt110.2.2, s0_3, s0_4)))) = some (r1, r2, r3, r4, r5) := h
 clear h
 replace H := Option.bind_eq_some_iff.mp H
 obtain ⟨⟨t110, t111, t112⟩, A40, H⟩ := H
 replace H : (if t112 > 6 then (some (t110, t111, t112, s0_3, true)) else (some (t110, t111, t112, s0_3, s0_4))) = some (r1, r2, r3, r4, r5) := H
 have A4 := Aside0.mk A40
 clear A40
 by_cases c5 : t112 > 6
 ·
  rw [if_pos c5] at H
  have c5b0 : decide (6 < t112) = true := decide_eq_true c5
  clear c5
  simp only [Option.some.injEq, Prod.mk.injEq] at H
  obtain ⟨rfl, rfl, rfl, rfl, rfl⟩ := H
  obtain ⟨HGz6, hgz6⟩ := HI0.out
  have hcz6_0 := cellS72_0 HGz6
  have hcz6_1 := cellS72_1 HGz6
  have hcz6_2 := cellS72_2 HGz6
  have hcz6_3 := cellS72_3 HGz6
  have hcz6_4 := cellS72_4 HGz6
  have hfz6_0 := blk_frozen HGz6 0
  have hfz6_1 := blk_frozen HGz6 1
  have hfz6_2 := blk_frozen HGz6 2
  have hfz6_3 := blk_frozen HGz6 3
  have hfz6_4 := blk_frozen HGz6 4
  clear HGz6 hgz6
  go_enter Try.func45, Try.ntmps45
  go_wp2_with (first | ((with_reducible refine gate_callee (f := 55) rfl ?_); refine goesL_ (some 14) rfl rfl Try.func55 (by kernel_rfl) rfl #[.agg #[.int .i64 s0_0, .int .i64 s0_1, .int .i64 s0_2], .int .i64 a1, .int .i64 a2] rfl (by (try simp only [List.map_toArray, List.map_cons, List.map_nil]); first | done | rfl | (simp only [List.length_drop, List.length_take]; rfl)) ?_; (with_reducible refine (encoder_Observe.calls s0_0 s0_1 s0_2 a1 a2 t110 t111 t112 _ A4.out).mono ?_); rintro e w7 ⟨rfl, hb⟩; refine ⟨_, rfl, ?_⟩; have n0_ := Aside0.mk (IsS72.below (by repeat (first | (with_reducible first | exact HI0.out | apply IsS72.alloc | apply IsS72.drewN | apply IsS72.drew | apply IsS72.set_0 | apply IsS72.set_1 | apply IsS72.set_2 | apply IsS72.set_3 | apply IsS72.set_4) | exact HI0.out)) hb); have n1_ := Aside0.mk (KeepBut.trans (by repeat (first | (with_reducible first | exact HK.out | apply KeepBut.set_ | apply keep_drewN | apply keep_drew | apply keep_alloc) | exact HK.out)) (KeepBut.of_below hb g none) (.inl rfl)); have n2_ := Aside0.mk (below_step (by repeat (first | (with_reducible first | exact HB.out | apply below_alloc | apply pw_below_drewN | apply below_drew1 | refine below_set ?_ (IsS72.ge HI0.out)) | exact HB.out)) hb); clear HI0; clear HK; clear HB; have HI0 := n0_; have HK := n1_; have HB := n2_; clear n0_ n1_ n2_; (try clear hb); (try clear hb2); (try clear hk); (try clear hi); obtain ⟨HGz8, hgz8⟩ := HI0.out; have hcz8_0 := cellS72_0 HGz8; have hcz8_1 := cellS72_1 HGz8; have hcz8_2 := cellS72_2 HGz8; have hcz8_3 := cellS72_3 HGz8; have hcz8_4 := cellS72_4 HGz8; have hfz8_0 := blk_frozen HGz8 0; have hfz8_1 := blk_frozen HGz8 1; have hfz8_2 := blk_frozen HGz8 2; have hfz8_3 := blk_frozen HGz8 3; have hfz8_4 := blk_frozen HGz8 4; clear HGz8 hgz8))
  first | go_end0 | ((try simp only [Exit.inBlock, Exit.then]); refine bodyPost_ret (results_none rfl _ _ _) rfl ?_)
  exact ⟨by first | rfl | (simp [errW_none, errW_some] <;> rfl) | (simp [*, errW_none, errW_some] <;> rfl), by repeat (first | (with_reducible first | exact HI0.out | apply IsS72.alloc | apply IsS72.drewN | apply IsS72.drew | apply IsS72.set_0 | apply IsS72.set_1 | apply IsS72.set_2 | apply IsS72.set_3 | apply IsS72.set_4) | exact HI0.out), by repeat (first | (with_reducible first | exact HB.out | apply below_alloc | apply pw_below_drewN | apply below_drew1 | refine below_set ?_ (IsS72.ge HI0.out)) | exact HB.out), by repeat (first | (with_reducible first | exact HK.out | apply KeepBut.set_ | apply keep_drewN | apply keep_drew | apply keep_alloc) | exact HK.out)⟩
 ·
  rw [if_neg c5] at H
  have c5b0 : decide (6 < t112) = false := decide_eq_false c5
  clear c5
  simp only [Option.some.injEq, Prod.mk.injEq] at H
  obtain ⟨rfl, rfl, rfl, rfl, rfl⟩ := H
  obtain ⟨HGz9, hgz9⟩ := HI0.out
  have hcz9_0 := cellS72_0 HGz9
  have hcz9_1 := cellS72_1 HGz9
  have hcz9_2 := cellS72_2 HGz9
  have hcz9_3 := cellS72_3 HGz9
  have hcz9_4 := cellS72_4 HGz9
  have hfz9_0 := blk_frozen HGz9 0
  have hfz9_1 := blk_frozen HGz9 1
  have hfz9_2 := blk_frozen HGz9 2
  have hfz9_3 := blk_frozen HGz9 3
  have hfz9_4 := blk_frozen HGz9 4
  clear HGz9 hgz9
  go_enter Try.func45, Try.ntmps45
  go_wp2_with (first | ((with_reducible refine gate_callee (f := 55) rfl ?_); refine goesL_ (some 14) rfl rfl Try.func55 (by kernel_rfl) rfl #[.agg #[.int .i64 s0_0, .int .i64 s0_1, .int .i64 s0_2], .int .i64 a1, .int .i64 a2] rfl (by (try simp only [List.map_toArray, List.map_cons, List.map_nil]); first | done | rfl | (simp only [List.length_drop, List.length_take]; rfl)) ?_; (with_reducible refine (encoder_Observe.calls s0_0 s0_1 s0_2 a1 a2 t110 t111 t112 _ A4.out).mono ?_); rintro e w10 ⟨rfl, hb⟩; refine ⟨_, rfl, ?_⟩; have n0_ := Aside0.mk (IsS72.below (by repeat (first | (with_reducible first | exact HI0.out | apply IsS72.alloc | apply IsS72.drewN | apply IsS72.drew | apply IsS72.set_0 | apply IsS72.set_1 | apply IsS72.set_2 | apply IsS72.set_3 | apply IsS72.set_4) | exact HI0.out)) hb); have n1_ := Aside0.mk (KeepBut.trans (by repeat (first | (with_reducible first | exact HK.out | apply KeepBut.set_ | apply keep_drewN | apply keep_drew | apply keep_alloc) | exact HK.out)) (KeepBut.of_below hb g none) (.inl rfl)); have n2_ := Aside0.mk (below_step (by repeat (first | (with_reducible first | exact HB.out | apply below_alloc | apply pw_below_drewN | apply below_drew1 | refine below_set ?_ (IsS72.ge HI0.out)) | exact HB.out)) hb); clear HI0; clear HK; clear HB; have HI0 := n0_; have HK := n1_; have HB := n2_; clear n0_ n1_ n2_; (try clear hb); (try clear hb2); (try clear hk); (try clear hi); obtain ⟨HGz11, hgz11⟩ := HI0.out; have hcz11_0 := cellS72_0 HGz11; have hcz11_1 := cellS72_1 HGz11; have hcz11_2 := cellS72_2 HGz11; have hcz11_3 := cellS72_3 HGz11; have hcz11_4 := cellS72_4 HGz11; have hfz11_0 := blk_frozen HGz11 0; have hfz11_1 := blk_frozen HGz11 1; have hfz11_2 := blk_frozen HGz11 2; have hfz11_3 := blk_frozen HGz11 3; have hfz11_4 := blk_frozen HGz11 4; clear HGz11 hgz11))
  first | go_end0 | ((try simp only [Exit.inBlock, Exit.then]); refine bodyPost_ret (results_none rfl _ _ _) rfl ?_)
  exact ⟨by first | rfl | (simp [errW_none, errW_some] <;> rfl) | (simp [*, errW_none, errW_some] <;> rfl), by repeat (first | (with_reducible first | exact HI0.out | apply IsS72.alloc | apply IsS72.drewN | apply IsS72.drew | apply IsS72.set_0 | apply IsS72.set_1 | apply IsS72.set_2 | apply IsS72.set_3 | apply IsS72.set_4) | exact HI0.out), by repeat (first | (with_reducible first | exact HB.out | apply below_alloc | apply pw_below_drewN | apply below_drew1 | refine below_set ?_ (IsS72.ge HI0.out)) | exact HB.out), by repeat (first | (with_reducible first | exact HK.out | apply KeepBut.set_ | apply keep_drewN | apply keep_drew | apply keep_alloc) | exact HK.out)⟩

/-! ### encoder_Command: function 56 -/
def encoder_Command.f (a0_0 : Int) (a0_1 : Int) (a0_2 : Int) (a1 : Int) : Option (Int × Int × Int) := some (a0_0, wrap64 (a0_1 + a1), a0_2)
set_option maxHeartbeats 8000000 in
set_option maxRecDepth 100000 in
theorem encoder_Command.calls (a0_0 : Int) (a0_1 : Int) (a0_2 : Int) (a1 : Int) (r1 : Int) (r2 : Int) (r3 : Int) (w : World) (h : encoder_Command.f a0_0 a0_1 a0_2 a1 = some (r1, r2, r3)) :
  Calls Try.prog 56 #[.agg #[.int .i64 a0_0, .int .i64 a0_1, .int .i64 a0_2], .int .i64 a1] w fun e w' => e = .returned (.agg #[.int .i64 r1, .int .i64 r2, .int .i64 r3]) ∧ Below w.heap.size w w' := by
 have hu47 := Try.underlying47
 have HB := Aside0.mk (Below.refl w.heap.size w)
 have H : (some (a0_0, wrap64 (a0_1 + a1), a0_2)) = some (r1, r2, r3) := h
 clear h
 simp only [Option.some.injEq, Prod.mk.injEq] at H
 obtain ⟨rfl, rfl, rfl⟩ := H
 go_enter Try.func56, Try.ntmps56
 go_wp2_with (first | ((with_reducible refine gate_dst (N := 2) rfl ?_); refine box_event ?hg (N := 2) ?hd (cs := #[.int .i64 a0_0, .int .i64 a0_1, .int .i64 a0_2]) (t := 47) ?hr ?_; (case hd => rfl); (case hg => rfl); (case hr => first | (go_simp; done) | (go_simp; rfl)); intro gb113 hg w3 hbox hb; have n0_ := Aside0.mk (below_step (by repeat (first | (with_reducible first | exact HB.out | apply below_alloc | apply pw_below_drewN | apply below_drew1) | exact HB.out)) hb); have n1_ := Aside0.mk (hbox); have n2_ := Aside0.mk ((by rw [hg]; exact (below_size (by repeat (first | (with_reducible first | exact HB.out | apply below_alloc | apply pw_below_drewN | apply below_drew1) | exact HB.out))) : w.heap.size ≤ gb113)); have n3_ := Aside0.mk ((by rw [hg]; exact (below_size (by repeat (first | (with_reducible first | exact HB.out | apply below_alloc | apply pw_below_drewN | apply below_drew1) | exact HB.out))) : w.heap.size ≤ gb113)); clear HB; have HB := n0_; have BK113 := n1_; have GW113 := n2_; have GE113 := n3_; clear n0_ n1_ n2_ n3_; clear hb hbox hg) | ((with_reducible refine gate_dst (N := 4) rfl ?_); refine box_event ?hg (N := 4) ?hd (cs := #[.int .i64 0, .int .i64 0, .int .i64 0]) (t := 47) ?hr ?_; (case hd => rfl); (case hg => rfl); (case hr => first | (go_simp; done) | (go_simp; rfl)); intro gb114 hg w4 hbox hb; have n0_ := Aside0.mk (blk_below (g := gb113) (o := .cells #[.int .i64 a0_0, .int .i64 a0_1, .int .i64 a0_2] 47 (0, 0)) (by (with_reducible repeat (first | refine blk_drewN ?_ _ | refine blk_drew ?_ | refine blk_alloc ?_ _)); exact BK113.out) hb); have n1_ := Aside0.mk (below_step (by repeat (first | (with_reducible first | exact HB.out | apply below_alloc | apply pw_below_drewN | apply below_drew1 | refine below_set ?_ GE113.out) | exact HB.out)) hb); have n2_ := Aside0.mk (hbox); have n3_ := Aside0.mk ((by rw [hg]; exact (below_size (by repeat (first | (with_reducible first | exact HB.out | apply below_alloc | apply pw_below_drewN | apply below_drew1 | refine below_set ?_ GE113.out) | exact HB.out))) : w.heap.size ≤ gb114)); have n4_ := Aside0.mk ((by rw [hg]; exact (below_size (by repeat (first | (with_reducible first | exact HB.out | apply below_alloc | apply pw_below_drewN | apply below_drew1 | refine below_set ?_ GE113.out) | exact HB.out))) : w.heap.size ≤ gb114)); have n5_ := Aside0.mk ((by rw [hg]; exact Nat.ne_of_lt (blk_lt (g := gb113) (o := .cells #[.int .i64 a0_0, .int .i64 a0_1, .int .i64 a0_2] 47 (0, 0)) (by (with_reducible repeat (first | refine blk_drewN ?_ _ | refine blk_drew ?_ | refine blk_alloc ?_ _)); exact BK113.out)) : gb113 ≠ gb114)); have n6_ := Aside0.mk ((by rw [hg]; exact Nat.ne_of_gt (blk_lt (g := gb113) (o := .cells #[.int .i64 a0_0, .int .i64 a0_1, .int .i64 a0_2] 47 (0, 0)) (by (with_reducible repeat (first | refine blk_drewN ?_ _ | refine blk_drew ?_ | refine blk_alloc ?_ _)); exact BK113.out)) : gb114 ≠ gb113)); clear BK113; clear HB; have BK113 := n0_; have HB := n1_; have BK114 := n2_; have GW114 := n3_; have GE114 := n4_; have NB113_114 := n5_; have NB114_113 := n6_; clear n0_ n1_ n2_ n3_ n4_ n5_ n6_; clear hb hbox hg; have hnb5 := NB113_114.out; have hnc5 := NB114_113.out; have hcz6_0 : w4.cell? ⟨gb113, 0, none⟩ = some (.int .i64 a0_0) := (blk_cell BK113.out 0).trans rfl; have hcz6_1 : w4.cell? ⟨gb113, 1, none⟩ = some (.int .i64 a0_1) := (blk_cell BK113.out 1).trans rfl; have hcz6_2 : w4.cell? ⟨gb113, 2, none⟩ = some (.int .i64 a0_2) := (blk_cell BK113.out 2).trans rfl; have hfz6_0 := blk_frozen BK113.out 0; have hfz6_1 := blk_frozen BK113.out 1; have hfz6_2 := blk_frozen BK113.out 2; have hcz7_0 : w4.cell? ⟨gb114, 0, none⟩ = some (.int .i64 0) := (blk_cell BK114.out 0).trans rfl; have hcz7_1 : w4.cell? ⟨gb114, 1, none⟩ = some (.int .i64 0) := (blk_cell BK114.out 1).trans rfl; have hcz7_2 : w4.cell? ⟨gb114, 2, none⟩ = some (.int .i64 0) := (blk_cell BK114.out 2).trans rfl; have hfz7_0 := blk_frozen BK114.out 0; have hfz7_1 := blk_frozen BK114.out 1; have hfz7_2 := blk_frozen BK114.out 2))
 refine bodyPost_ret (results_cell_row rfl _ _ gb114 47 #[.int .i64 a0_0, .int .i64 (wrap64 (a0_1 + a1)), .int .i64 a0_2] (0, 0) _ rfl (by (with_reducible repeat (first | refine blk_drewN ?_ _ | refine blk_drew ?_ | refine blk_alloc ?_ _)); refine blk_put (cs := #[.int .i64 a0_0, .int .i64 (wrap64 (a0_1 + a1)), .int .i64 0]) ?_ 2 _ rfl; (with_reducible repeat (first | refine blk_drewN ?_ _ | refine blk_drew ?_ | refine blk_alloc ?_ _)); refine blk_put (cs := #[.int .i64 a0_0, .int .i64 0, .int .i64 0]) ?_ 1 _ rfl; (with_reducible repeat (first | refine blk_drewN ?_ _ | refine blk_drew ?_ | refine blk_alloc ?_ _)); refine blk_put (cs := #[.int .i64 0, .int .i64 0, .int .i64 0]) ?_ 0 _ rfl; (with_reducible repeat (first | refine blk_drewN ?_ _ | refine blk_drew ?_ | refine blk_alloc ?_ _)); refine blk_far ?_ NB114_113.out _; (with_reducible repeat (first | refine blk_drewN ?_ _ | refine blk_drew ?_ | refine blk_alloc ?_ _)); exact BK114.out) Try.underlying47 rfl (by kernel_rfl)) rfl ?_
 exact ⟨by first | rfl | (simp [errW_none, errW_some] <;> rfl) | (simp [*, errW_none, errW_some] <;> rfl), by repeat (first | (with_reducible first | exact HB.out | apply below_alloc | apply pw_below_drewN | apply below_drew1 | refine below_set ?_ GE113.out | refine below_set ?_ GE114.out) | exact HB.out)⟩

/-! ### servo_loop_order: function 46 -/
def servo_loop_order.f (s0_0 : Int) (s0_1 : Int) (s0_2 : Int) (s0_3 : Int) (s0_4 : Bool) (a1 : Int) : Option (Int × Int × Int × Int × Bool) := (encoder_Command.f s0_0 s0_1 s0_2 a1).bind fun bt115 => (some (bt115.1, bt115.2.1, bt115.2.2, a1, s0_4))
set_option maxHeartbeats 8000000 in
set_option maxRecDepth 100000 in
theorem servo_loop_order.calls (g : Nat) (s0_0 : Int) (s0_1 : Int) (s0_2 : Int) (s0_3 : Int) (s0_4 : Bool) (a1 : Int) (r1 : Int) (r2 : Int) (r3 : Int) (r4 : Int) (r5 : Bool) (w0 w : World) (hI : IsS72 w0 w g s0_0 s0_1 s0_2 s0_3 s0_4) (hB : Below w0.heap.size w0 w) (h : servo_loop_order.f s0_0 s0_1 s0_2 s0_3 s0_4 a1 = some (r1, r2, r3, r4, r5)) :
  Calls Try.prog 46 #[.pointer (some ⟨g, 0, none⟩), .int .i64 a1] w fun e w' => e = .returned (.tuple #[]) ∧ IsS72 w0 w' g r1 r2 r3 r4 r5 ∧ Below w0.heap.size w0 w' ∧ KeepBut w w' g none := by
 have hu47 := Try.underlying47
 have HI0 := Aside0.mk hI
 have HK := Aside0.mk (KeepBut.refl w g none)
 have HL := Aside0.mk hB.size
 clear hI
 have HW0 := Aside0.mk hB.size
 have HB := Aside0.mk hB
 clear hB
 have H : ((encoder_Command.f s0_0 s0_1 s0_2 a1).bind fun bt115 => (some (bt115.1, bt115.2.1, bt115.2.2, a1, s0_4))) = some (r1, r2, r3, r4, r5) := h
 clear h
 replace H := Option.bind_eq_some_iff.mp H
 obtain ⟨⟨t115, t116, t117⟩, A30, H⟩ := H
 replace H : (some (t115, t116, t117, a1, s0_4)) = some (r1, r2, r3, r4, r5) := H
 have A3 := Aside0.mk A30
 clear A30
 simp only [Option.some.injEq, Prod.mk.injEq] at H
 obtain ⟨rfl, rfl, rfl, rfl, rfl⟩ := H
 obtain ⟨HGz4, hgz4⟩ := HI0.out
 have hcz4_0 := cellS72_0 HGz4
 have hcz4_1 := cellS72_1 HGz4
 have hcz4_2 := cellS72_2 HGz4
 have hcz4_3 := cellS72_3 HGz4
 have hcz4_4 := cellS72_4 HGz4
 have hfz4_0 := blk_frozen HGz4 0
 have hfz4_1 := blk_frozen HGz4 1
 have hfz4_2 := blk_frozen HGz4 2
 have hfz4_3 := blk_frozen HGz4 3
 have hfz4_4 := blk_frozen HGz4 4
 clear HGz4 hgz4
 go_enter Try.func46, Try.ntmps46
 go_wp2_with (first | ((with_reducible refine gate_callee (f := 56) rfl ?_); refine goesL_ (some 16) rfl rfl Try.func56 (by kernel_rfl) rfl #[.agg #[.int .i64 s0_0, .int .i64 s0_1, .int .i64 s0_2], .int .i64 a1] rfl (by (try simp only [List.map_toArray, List.map_cons, List.map_nil]); first | done | rfl | (simp only [List.length_drop, List.length_take]; rfl)) ?_; (with_reducible refine (encoder_Command.calls s0_0 s0_1 s0_2 a1 t115 t116 t117 _ A3.out).mono ?_); rintro e w5 ⟨rfl, hb⟩; refine ⟨_, rfl, ?_⟩; have n0_ := Aside0.mk (IsS72.below (show IsS72 w0 (w.setCell ⟨g, 3, none⟩ (.int .i64 a1)) g s0_0 s0_1 s0_2 a1 s0_4 from by repeat (first | (with_reducible first | exact HI0.out | apply IsS72.alloc | apply IsS72.drewN | apply IsS72.drew | apply IsS72.set_0 | apply IsS72.set_1 | apply IsS72.set_2 | apply IsS72.set_3 | apply IsS72.set_4) | exact HI0.out)) hb); have n1_ := Aside0.mk (KeepBut.trans (by repeat (first | (with_reducible first | exact HK.out | apply KeepBut.set_ | apply keep_drewN | apply keep_drew | apply keep_alloc) | exact HK.out)) (KeepBut.of_below hb g none) (.inl rfl)); have n2_ := Aside0.mk (below_step (by repeat (first | (with_reducible first | exact HB.out | apply below_alloc | apply pw_below_drewN | apply below_drew1 | refine below_set ?_ (IsS72.ge HI0.out)) | exact HB.out)) hb); clear HI0; clear HK; clear HB; have HI0 := n0_; have HK := n1_; have HB := n2_; clear n0_ n1_ n2_; (try clear hb); (try clear hb2); (try clear hk); (try clear hi); obtain ⟨HGz6, hgz6⟩ := HI0.out; have hcz6_0 := cellS72_0 HGz6; have hcz6_1 := cellS72_1 HGz6; have hcz6_2 := cellS72_2 HGz6; have hcz6_3 := cellS72_3 HGz6; have hcz6_4 := cellS72_4 HGz6; have hfz6_0 := blk_frozen HGz6 0; have hfz6_1 := blk_frozen HGz6 1; have hfz6_2 := blk_frozen HGz6 2; have hfz6_3 := blk_frozen HGz6 3; have hfz6_4 := blk_frozen HGz6 4; clear HGz6 hgz6))
 first | go_end0 | ((try simp only [Exit.inBlock, Exit.then]); refine bodyPost_ret (results_none rfl _ _ _) rfl ?_)
 exact ⟨by first | rfl | (simp [errW_none, errW_some] <;> rfl) | (simp [*, errW_none, errW_some] <;> rfl), by repeat (first | (with_reducible first | exact HI0.out | apply IsS72.alloc | apply IsS72.drewN | apply IsS72.drew | apply IsS72.set_0 | apply IsS72.set_1 | apply IsS72.set_2 | apply IsS72.set_3 | apply IsS72.set_4) | exact HI0.out), by repeat (first | (with_reducible first | exact HB.out | apply below_alloc | apply pw_below_drewN | apply below_drew1 | refine below_set ?_ (IsS72.ge HI0.out)) | exact HB.out), by repeat (first | (with_reducible first | exact HK.out | apply KeepBut.set_ | apply keep_drewN | apply keep_drew | apply keep_alloc) | exact HK.out)⟩

/-! ### servo_within_int: function 47 -/
def servo_within_int.f (a0 : Int) (a1 : Int) (a2 : Int) : Option (Int) := some (mx a1 (mn a0 a2))
set_option maxHeartbeats 8000000 in
set_option maxRecDepth 100000 in
theorem servo_within_int.calls (a0 : Int) (a1 : Int) (a2 : Int) (r : Int) (w : World) (h : servo_within_int.f a0 a1 a2 = some r) :
  Calls Try.prog 47 #[.int .i64 a0, .int .i64 a1, .int .i64 a2] w fun e w' => e = .returned (.int .i64 r) ∧ Below w.heap.size w w' := by
 have HB := Aside0.mk (Below.refl w.heap.size w)
 have H : (some (mx a1 (mn a0 a2))) = some r := h
 clear h
 obtain ⟨ji4, hji4⟩ : ∃ j_ : Int, (mn a0 a2) = j_ := ⟨_, rfl⟩
 replace H : (some (mx a1 (ji4))) = some r := by first | (rw [hji4] at H; exact H) | (simp only [hji4] at H ⊢; exact H)
 have hji4_ : (if a2 < a0 then a2 else a0) = ji4 := hji4
 obtain ⟨ji5, hji5⟩ : ∃ j_ : Int, (mx a1 (ji4)) = j_ := ⟨_, rfl⟩
 replace H : (some ji5) = some r := by first | (rw [hji5] at H; exact H) | (simp only [hji5] at H ⊢; exact H)
 have hji5_ : (if a1 < (ji4) then (ji4) else a1) = ji5 := hji5
 obtain rfl := Option.some.inj H
 go_enter Try.func47, Try.ntmps47
 go_wp2
 go_ret
 exact ⟨by first | rfl | (simp [errW_none, errW_some] <;> rfl) | (simp only [← hji4, ← hji5]; first | rfl | (simp [errW_none, errW_some] <;> rfl)) | (simp [*, errW_none, errW_some] <;> rfl), by repeat (first | (with_reducible first | exact HB.out | apply below_alloc | apply pw_below_drewN | apply below_drew1) | exact HB.out)⟩

/-! ### servo_Step: function 32 -/
def servo_Step.f (a0_0 : Int) (a0_1 : Int) (a0_2 : Int) (a0_3 : Int) (a0_4 : Bool) (a1 : Int) (a2 : Int) (a3 : Int) : Option (Int × Int × Int × Int × Bool × Int) :=
 (servo_loop_hear.f a0_0 a0_1 a0_2 a0_3 a0_4 a1 a2).bind fun h =>
  (if h.2.2.2.2 = true then some 0 else (servo_TrackingError.f h.1 h.2.1 h.2.2.1 h.2.2.2.1 h.2.2.2.2 a3).bind fun te => servo_within_int.f te (-128) 128).bind fun o =>
   (servo_loop_order.f h.1 h.2.1 h.2.2.1 h.2.2.2.1 h.2.2.2.2 o).bind fun q => some (q.1, q.2.1, q.2.2.1, q.2.2.2.1, q.2.2.2.2, q.2.2.2.1)
theorem servo_Step.lies (w : World) (o1 o2 o3 : Obj) : (((w.alloc o1).alloc o2).alloc o3).heap[w.heap.size + 1]? = some o2 ∧ (((w.alloc o1).alloc o2).alloc o3).heap[w.heap.size + 2]? = some o3 ∧ Below w.heap.size w (((w.alloc o1).alloc o2).alloc o3) := by
 have h := Ticks.lies3 w o1 o2 o3 _ (Below.refl _ _)
 exact ⟨h.2.1, h.2.2.1, h.2.2.2.2⟩
theorem servo_Step.last {b : Nat} {w W : World} (f0 f1 f2 f3 : Int) (f4 : Bool) {x0 x1 x2 x3 x4 : Value} {t : Nat} (hb : W.heap[b]? = some (.cells #[x0, x1, x2, x3, x4] t (0, 0))) (hB : Below w.heap.size w W) (hw : w.heap.size ≤ b) :
  ∃ W', (((((W.setCell ⟨b, 0, none⟩ (.int .i64 f0)).setCell ⟨b, 1, none⟩ (.int .i64 f1)).setCell ⟨b, 2, none⟩ (.int .i64 f2)).setCell ⟨b, 3, none⟩ (.int .i64 f3)).setCell ⟨b, 4, none⟩ (.bool f4)) = W' ∧
   W'.heap[b]? = some (.cells #[.int .i64 f0, .int .i64 f1, .int .i64 f2, .int .i64 f3, .bool f4] t (0, 0)) ∧ Below w.heap.size w W' := by
 refine ⟨_, rfl, ?_, ?_⟩
 ·
  have h0 := blk_set hb 0 (.int .i64 f0)
  have h1 := blk_set h0 1 (.int .i64 f1)
  have h2 := blk_set h1 2 (.int .i64 f2)
  have h3 := blk_set h2 3 (.int .i64 f3)
  have h4 := blk_set h3 4 (.bool f4)
  simpa using h4
 ·
  exact ((((hB.setCell (p := ⟨b, 0, none⟩) hw _).setCell (p := ⟨b, 1, none⟩) hw _).setCell (p := ⟨b, 2, none⟩) hw _).setCell (p := ⟨b, 3, none⟩) hw _).setCell (p := ⟨b, 4, none⟩) hw _
set_option maxHeartbeats 8000000 in
set_option maxRecDepth 100000 in
theorem servo_Step.lost (a0_0 a0_1 a0_2 a0_3 : Int) (a0_4 : Bool) (a1 a2 a3 h1 h2 h3 h4 q1 q2 q3 q4 : Int) (q5 : Bool) (w : World) (hH : servo_loop_hear.f a0_0 a0_1 a0_2 a0_3 a0_4 a1 a2 = some (h1, h2, h3, h4, true)) (hO : servo_loop_order.f h1 h2 h3 h4 true 0 = some (q1, q2, q3, q4, q5)) :
  Calls Try.prog 32 #[.agg #[.int .i64 a0_0, .int .i64 a0_1, .int .i64 a0_2, .int .i64 a0_3, .bool a0_4], .int .i64 a1, .int .i64 a2, .int .i64 a3] w fun e w' => e = .returned (.tuple #[.agg #[.int .i64 q1, .int .i64 q2, .int .i64 q3, .int .i64 q4, .bool q5], .int .i64 q4]) ∧ Below w.heap.size w w' := by
 have HH := Aside0.mk hH
 clear hH
 have HO := Aside0.mk hO
 clear hO
 have HL := Aside0.mk (servo_Step.lies w)
 go_enter Try.func32, Try.ntmps32
 go_wp2_with (first
  | (go_at_call 45; refine (servo_loop_hear.calls (w.heap.size + 1 + 1) a0_0 a0_1 a0_2 a0_3 a0_4 a1 a2 h1 h2 h3 h4 true w _ ⟨(HL.out _ _ _).2.1, by omega⟩ (HL.out _ _ _).2.2 HH.out).mono ?_; rintro e w1 ⟨rfl, hI, hB, hK⟩; have hr := hK.blk (HL.out _ _ _).1 (by omega) (by simp); have hI' := Aside0.mk hI; have hB' := Aside0.mk hB; have hr' := Aside0.mk hr; have hc4 := cellS72_4 hI.1; clear hI hB hr hK)
  | (go_at_call 46; refine (servo_loop_order.calls (w.heap.size + 1 + 1) h1 h2 h3 h4 true 0 q1 q2 q3 q4 q5 w _ hI'.out hB'.out HO.out).mono ?_; rintro e w2 ⟨rfl, hI, hB, hK⟩; have hr := hK.blk hr'.out (by omega) (by simp); have hB2 := Aside0.mk hB; have hr2 := Aside0.mk hr; have hc0 := cellS72_0 hI.1; have hc1 := cellS72_1 hI.1; have hc2 := cellS72_2 hI.1; have hc3 := cellS72_3 hI.1; have hc4 := cellS72_4 hI.1; clear hI hB hr hK))
 have z0 := blk_cell hr2.out 0
 have z1 := blk_cell hr2.out 1
 have z2 := blk_cell hr2.out 2
 have z3 := blk_cell hr2.out 3
 have z4 := blk_cell hr2.out 4
 have zf0 := blk_frozen hr2.out 0
 have zf1 := blk_frozen hr2.out 1
 have zf2 := blk_frozen hr2.out 2
 have zf3 := blk_frozen hr2.out 3
 have zf4 := blk_frozen hr2.out 4
 go_region
 go_wp2
 obtain ⟨W', e', hb', hB'⟩ := servo_Step.last q1 q2 q3 q4 q5 hr2.out hB2.out (by omega)
 rw [e']
 have y0 : W'.drew.cell? ⟨w.heap.size + 1, 0, none⟩ = some (.int .i64 q1) := blk_cell hb' 0
 have y1 : W'.drew.cell? ⟨w.heap.size + 1, 1, none⟩ = some (.int .i64 q2) := blk_cell hb' 1
 have y2 : W'.drew.cell? ⟨w.heap.size + 1, 2, none⟩ = some (.int .i64 q3) := blk_cell hb' 2
 have y3 : W'.drew.cell? ⟨w.heap.size + 1, 3, none⟩ = some (.int .i64 q4) := blk_cell hb' 3
 have y4 : W'.drew.cell? ⟨w.heap.size + 1, 4, none⟩ = some (.bool q5) := blk_cell hb' 4
 refine bodyPost_ret (v := .tuple #[.agg #[.int .i64 q1, .int .i64 q2, .int .i64 q3, .int .i64 q4, .bool q5], .int .i64 q4]) (by simp [results, Try.results32, go_sem, y0, y1, y2, y3, y4]) rfl ⟨rfl, hB'.drew⟩
set_option maxHeartbeats 8000000 in
set_option maxRecDepth 100000 in
theorem servo_Step.on (a0_0 a0_1 a0_2 a0_3 : Int) (a0_4 : Bool) (a1 a2 a3 h1 h2 h3 h4 te o q1 q2 q3 q4 : Int) (q5 : Bool) (w : World) (hH : servo_loop_hear.f a0_0 a0_1 a0_2 a0_3 a0_4 a1 a2 = some (h1, h2, h3, h4, false)) (hT : servo_TrackingError.f h1 h2 h3 h4 false a3 = some te) (hW : servo_within_int.f te (-128) 128 = some o) (hO : servo_loop_order.f h1 h2 h3 h4 false o = some (q1, q2, q3, q4, q5)) :
  Calls Try.prog 32 #[.agg #[.int .i64 a0_0, .int .i64 a0_1, .int .i64 a0_2, .int .i64 a0_3, .bool a0_4], .int .i64 a1, .int .i64 a2, .int .i64 a3] w fun e w' => e = .returned (.tuple #[.agg #[.int .i64 q1, .int .i64 q2, .int .i64 q3, .int .i64 q4, .bool q5], .int .i64 q4]) ∧ Below w.heap.size w w' := by
 have HH := Aside0.mk hH
 clear hH
 have HO := Aside0.mk hO
 clear hO
 have HT := Aside0.mk hT
 clear hT
 have HW := Aside0.mk hW
 clear hW
 have HL := Aside0.mk (servo_Step.lies w)
 go_enter Try.func32, Try.ntmps32
 go_wp2_with (first
  | (go_at_call 45; refine (servo_loop_hear.calls (w.heap.size + 1 + 1) a0_0 a0_1 a0_2 a0_3 a0_4 a1 a2 h1 h2 h3 h4 false w _ ⟨(HL.out _ _ _).2.1, by omega⟩ (HL.out _ _ _).2.2 HH.out).mono ?_; rintro e w1 ⟨rfl, hI, hB, hK⟩; have hr := hK.blk (HL.out _ _ _).1 (by omega) (by simp); have hI' := Aside0.mk hI; have hB' := Aside0.mk hB; have hr' := Aside0.mk hr; have hc0 := cellS72_0 hI.1; have hc1 := cellS72_1 hI.1; have hc2 := cellS72_2 hI.1; have hc3 := cellS72_3 hI.1; have hc4 := cellS72_4 hI.1; clear hI hB hr hK)
  | (go_at_call 34; refine (servo_TrackingError.calls h1 h2 h3 h4 false a3 te _ HT.out).mono ?_; rintro e w3 ⟨rfl, hb⟩; have n1 := Aside0.mk (show IsS72 w w3 (w.heap.size + 1 + 1) h1 h2 h3 h4 false from ⟨(hb.block _ (blk_lt hI'.out.1)).trans hI'.out.1, hI'.out.2⟩); have n2 := Aside0.mk (hB'.out.trans (hb.mono hB'.out.size)); have n3 := Aside0.mk ((hb.block _ (blk_lt hr'.out)).trans hr'.out); clear hI' hB' hr'; have hI' := n1; have hB' := n2; have hr' := n3; clear n1 n2 n3 hb)
  | (go_at_call 47; refine (servo_within_int.calls te (-128) 128 o _ HW.out).mono ?_; rintro e w3 ⟨rfl, hb⟩; have n1 := Aside0.mk (show IsS72 w w3 (w.heap.size + 1 + 1) h1 h2 h3 h4 false from ⟨(hb.block _ (blk_lt hI'.out.1)).trans hI'.out.1, hI'.out.2⟩); have n2 := Aside0.mk (hB'.out.trans (hb.mono hB'.out.size)); have n3 := Aside0.mk ((hb.block _ (blk_lt hr'.out)).trans hr'.out); clear hI' hB' hr'; have hI' := n1; have hB' := n2; have hr' := n3; clear n1 n2 n3 hb)
  | (go_at_call 46; refine (servo_loop_order.calls (w.heap.size + 1 + 1) h1 h2 h3 h4 false o q1 q2 q3 q4 q5 w _ hI'.out hB'.out HO.out).mono ?_; rintro e w2 ⟨rfl, hI, hB, hK⟩; have hr := hK.blk hr'.out (by omega) (by simp); have hB2 := Aside0.mk hB; have hr2 := Aside0.mk hr; have hc0 := cellS72_0 hI.1; have hc1 := cellS72_1 hI.1; have hc2 := cellS72_2 hI.1; have hc3 := cellS72_3 hI.1; have hc4 := cellS72_4 hI.1; clear hI hB hr hK))
 have z0 := blk_cell hr2.out 0
 have z1 := blk_cell hr2.out 1
 have z2 := blk_cell hr2.out 2
 have z3 := blk_cell hr2.out 3
 have z4 := blk_cell hr2.out 4
 have zf0 := blk_frozen hr2.out 0
 have zf1 := blk_frozen hr2.out 1
 have zf2 := blk_frozen hr2.out 2
 have zf3 := blk_frozen hr2.out 3
 have zf4 := blk_frozen hr2.out 4
 go_region
 go_wp2
 obtain ⟨W', e', hb', hB'⟩ := servo_Step.last q1 q2 q3 q4 q5 hr2.out hB2.out (by omega)
 rw [e']
 have y0 : W'.drew.cell? ⟨w.heap.size + 1, 0, none⟩ = some (.int .i64 q1) := blk_cell hb' 0
 have y1 : W'.drew.cell? ⟨w.heap.size + 1, 1, none⟩ = some (.int .i64 q2) := blk_cell hb' 1
 have y2 : W'.drew.cell? ⟨w.heap.size + 1, 2, none⟩ = some (.int .i64 q3) := blk_cell hb' 2
 have y3 : W'.drew.cell? ⟨w.heap.size + 1, 3, none⟩ = some (.int .i64 q4) := blk_cell hb' 3
 have y4 : W'.drew.cell? ⟨w.heap.size + 1, 4, none⟩ = some (.bool q5) := blk_cell hb' 4
 refine bodyPost_ret (v := .tuple #[.agg #[.int .i64 q1, .int .i64 q2, .int .i64 q3, .int .i64 q4, .bool q5], .int .i64 q4]) (by simp [results, Try.results32, go_sem, y0, y1, y2, y3, y4]) rfl ⟨rfl, hB'.drew⟩
theorem servo_Step.calls (a0_0 : Int) (a0_1 : Int) (a0_2 : Int) (a0_3 : Int) (a0_4 : Bool) (a1 : Int) (a2 : Int) (a3 : Int) (r1 : Int) (r2 : Int) (r3 : Int) (r4 : Int) (r5 : Bool) (r6 : Int) (w : World) (h : servo_Step.f a0_0 a0_1 a0_2 a0_3 a0_4 a1 a2 a3 = some (r1, r2, r3, r4, r5, r6)) :
  Calls Try.prog 32 #[.agg #[.int .i64 a0_0, .int .i64 a0_1, .int .i64 a0_2, .int .i64 a0_3, .bool a0_4], .int .i64 a1, .int .i64 a2, .int .i64 a3] w fun e w' => e = .returned (.tuple #[.agg #[.int .i64 r1, .int .i64 r2, .int .i64 r3, .int .i64 r4, .bool r5], .int .i64 r6]) ∧ Below w.heap.size w w' := by
 unfold servo_Step.f at h
 obtain ⟨⟨h1, h2, h3, h4, h5⟩, hH, h⟩ := Option.bind_eq_some_iff.1 h
 obtain ⟨o, ho, h⟩ := Option.bind_eq_some_iff.1 h
 obtain ⟨⟨q1, q2, q3, q4, q5⟩, hO, h⟩ := Option.bind_eq_some_iff.1 h
 simp only [Option.some.injEq, Prod.mk.injEq] at h
 obtain ⟨rfl, rfl, rfl, rfl, rfl, rfl⟩ := h
 dsimp only at ho hO
 cases h5 with
 | true =>
  rw [if_pos rfl] at ho
  obtain rfl := Option.some.inj ho
  exact servo_Step.lost _ _ _ _ _ _ _ a3 _ _ _ _ _ _ _ _ _ w hH hO
 | false =>
  rw [if_neg (by decide)] at ho
  obtain ⟨te, hT, hW⟩ := Option.bind_eq_some_iff.1 ho
  exact servo_Step.on _ _ _ _ _ _ _ a3 _ _ _ _ te o _ _ _ _ _ w hH hT hW hO

/-! ### ambidexterlaw25_head: function 29 -/
def ambidexterlaw25_head.f  : Option (Bool) := (servo_New.f 0).bind fun bt118 => ((servo_Step.f bt118.1 bt118.2.1 bt118.2.2.1 bt118.2.2.2.1 bt118.2.2.2.2 1 0 3).bind fun bt123 => ((servo_Step.f bt123.1 bt123.2.1 bt123.2.2.1 bt123.2.2.2.1 bt123.2.2.2.2.1 2 0 100).bind fun bt130 => ((servo_New.f 40).bind fun bt137 => ((servo_Step.f bt137.1 bt137.2.1 bt137.2.2.1 bt137.2.2.2.1 bt137.2.2.2.2 3 9 2).bind fun bt142 => (if bt123.2.2.2.2.2 = 48 then (if bt123.2.2.2.1 = 48 then (if bt130.2.2.2.2.2 = 128 then (if bt130.2.2.1 = 1 then ((servo_TrackingError.f bt130.1 bt130.2.1 bt130.2.2.1 bt130.2.2.2.1 bt130.2.2.2.2.1 100).bind fun t149 => (if t149 = 1424 then (if bt142.2.2.2.2.2 = 0 then (if bt142.2.2.2.2.1 = true then (some false) else ((servo_New.f (-1)).bind fun bt150 => ((servo_TrackingError.f bt150.1 bt150.2.1 bt150.2.2.1 bt150.2.2.2.1 bt150.2.2.2.2 0).bind fun t155 => (some (t155 == 16))))) else (some false)) else (some false))) else (some false)) else (some false)) else (some false)) else (some false))))))
set_option maxHeartbeats 8000000 in
set_option maxRecDepth 100000 in
theorem ambidexterlaw25_head.calls0  (r : Bool) (w : World) (h : ambidexterlaw25_head.f  = some r) (hT : r = true) :
  Calls Try.prog 29 #[] w fun e w' => e = .returned (.bool r) ∧ Below w.heap.size w w' := by
 have hu49 := Try.underlying49
 have HB := Aside0.mk (Below.refl w.heap.size w)
 have H : ((servo_New.f 0).bind fun bt118 => ((servo_Step.f bt118.1 bt118.2.1 bt118.2.2.1 bt118.2.2.2.1 bt118.2.2.2.2 1 0 3).bind fun bt123 => ((servo_Step.f bt123.1 bt123.2.1 bt123.2.2.1 bt123.2.2.2.1 bt123.2.2.2.2.1 2 0 100).bind fun bt130 => ((servo_New.f 40).bind fun bt137 => ((servo_Step.f bt137.1 bt137.2.1 bt137.2.2.1 bt137.2.2.2.1 bt137.2.2.2.2 3 9 2).bind fun bt142 => (if bt123.2.2.2.2.2 = 48 then (if bt123.2.2.2.1 = 48 then (if bt130.2.2.2.2.2 = 128 then (if bt130.2.2.1 = 1 then ((servo_TrackingError.f bt130.1 bt130.2.1 bt130.2.2.1 bt130.2.2.2.1 bt130.2.2.2.2.1 100).bind fun t149 => (if t149 = 1424 then (if bt142.2.2.2.2.2 = 0 then (if bt142.2.2.2.2.1 = true then (some false) else ((servo_New.f (-1)).bind fun bt150 => ((servo_TrackingError.f bt150.1 bt150.2.1 bt150.2.2.1 bt150.2.2.2.1 bt150.2.2.2.2 0).bind fun t155 => (some (t155 == 16))))) else (some false)) else (some false))) else (some false)) else (some false)) else (some false)) else (some false))))))) = some r := h
 clear h
 have HT := Aside0.mk hT
 clear hT
 replace H := Option.bind_eq_some_iff.mp H
 obtain ⟨⟨t118, t119, t120, t121, t122⟩, A10, H⟩ := H
 replace H : ((servo_Step.f t118 t119 t120 t121 t122 1 0 3).bind fun bt123 => ((servo_Step.f bt123.1 bt123.2.1 bt123.2.2.1 bt123.2.2.2.1 bt123.2.2.2.2.1 2 0 100).bind fun bt130 => ((servo_New.f 40).bind fun bt137 => ((servo_Step.f bt137.1 bt137.2.1 bt137.2.2.1 bt137.2.2.2.1 bt137.2.2.2.2 3 9 2).bind fun bt142 => (if bt123.2.2.2.2.2 = 48 then (if bt123.2.2.2.1 = 48 then (if bt130.2.2.2.2.2 = 128 then (if bt130.2.2.1 = 1 then ((servo_TrackingError.f bt130.1 bt130.2.1 bt130.2.2.1 bt130.2.2.2.1 bt130.2.2.2.2.1 100).bind fun t149 => (if t149 = 1424 then (if bt142.2.2.2.2.2 = 0 then (if bt142.2.2.2.2.1 = true then (some false) else ((servo_New.f (-1)).bind fun bt150 => ((servo_TrackingError.f bt150.1 bt150.2.1 bt150.2.2.1 bt150.2.2.2.1 bt150.2.2.2.2 0).bind fun t155 => (some (t155 == 16))))) else (some false)) else (some false))) else (some false)) else (some false)) else (some false)) else (some false)))))) = some r := H
 have A1 := Aside0.mk A10
 clear A10
 replace H := Option.bind_eq_some_iff.mp H
 obtain ⟨⟨t123, t124, t125, t126, t127, t128⟩, A20, H⟩ := H
 replace H : ((servo_Step.f t123 t124 t125 t126 t127 2 0 100).bind fun bt130 => ((servo_New.f 40).bind fun bt137 => ((servo_Step.f bt137.1 bt137.2.1 bt137.2.2.1 bt137.2.2.2.1 bt137.2.2.2.2 3 9 2).bind fun bt142 => (if t128 = 48 then (if t126 = 48 then (if bt130.2.2.2.2.2 = 128 then (if bt130.2.2.1 = 1 then ((servo_TrackingError.f bt130.1 bt130.2.1 bt130.2.2.1 bt130.2.2.2.1 bt130.2.2.2.2.1 100).bind fun t149 => (if t149 = 1424 then (if bt142.2.2.2.2.2 = 0 then (if bt142.2.2.2.2.1 = true then (some false) else ((servo_New.f (-1)).bind fun bt150 => ((servo_TrackingError.f bt150.1 bt150.2.1 bt150.2.2.1 bt150.2.2.2.1 bt150.2.2.2.2 0).bind fun t155 => (some (t155 == 16))))) else (some false)) else (some false))) else (some false)) else (some false)) else (some false)) else (some false))))) = some r := H
 have A2 := Aside0.mk A20
 clear A20
 replace H := Option.bind_eq_some_iff.mp H
 obtain ⟨⟨t130, t131, t132, t133, t134, t135⟩, A30, H⟩ := H
 replace H : ((servo_New.f 40).bind fun bt137 => ((servo_Step.f bt137.1 bt137.2.1 bt137.2.2.1 bt137.2.2.2.1 bt137.2.2.2.2 3 9 2).bind fun bt142 => (if t128 = 48 then (if t126 = 48 then (if t135 = 128 then (if t132 = 1 then ((servo_TrackingError.f t130 t131 t132 t133 t134 100).bind fun t149 => (if t149 = 1424 then (if bt142.2.2.2.2.2 = 0 then (if bt142.2.2.2.2.1 = true then (some false) else ((servo_New.f (-1)).bind fun bt150 => ((servo_TrackingError.f bt150.1 bt150.2.1 bt150.2.2.1 bt150.2.2.2.1 bt150.2.2.2.2 0).bind fun t155 => (some (t155 == 16))))) else (some false)) else (some false))) else (some false)) else (some false)) else (some false)) else (some false)))) = some r := H
 have A3 := Aside0.mk A30
 clear A30
 replace H := Option.bind_eq_some_iff.mp H
 obtain ⟨⟨t137, t138, t139, t140, t141⟩, A40, H⟩ := H
 replace H : ((servo_Step.f t137 t138 t139 t140 t141 3 9 2).bind fun bt142 => (if t128 = 48 then (if t126 = 48 then (if t135 = 128 then (if t132 = 1 then ((servo_TrackingError.f t130 t131 t132 t133 t134 100).bind fun t149 => (if t149 = 1424 then (if bt142.2.2.2.2.2 = 0 then (if bt142.2.2.2.2.1 = true then (some false) else ((servo_New.f (-1)).bind fun bt150 => ((servo_TrackingError.f bt150.1 bt150.2.1 bt150.2.2.1 bt150.2.2.2.1 bt150.2.2.2.2 0).bind fun t155 => (some (t155 == 16))))) else (some false)) else (some false))) else (some false)) else (some false)) else (some false)) else (some false))) = some r := H
 have A4 := Aside0.mk A40
 clear A40
 replace H := Option.bind_eq_some_iff.mp H
 obtain ⟨⟨t142, t143, t144, t145, t146, t147⟩, A50, H⟩ := H
 replace H : (if t128 = 48 then (if t126 = 48 then (if t135 = 128 then (if t132 = 1 then ((servo_TrackingError.f t130 t131 t132 t133 t134 100).bind fun t149 => (if t149 = 1424 then (if t147 = 0 then (if t146 = true then (some false) else ((servo_New.f (-1)).bind fun bt150 => ((servo_TrackingError.f bt150.1 bt150.2.1 bt150.2.2.1 bt150.2.2.2.1 bt150.2.2.2.2 0).bind fun t155 => (some (t155 == 16))))) else (some false)) else (some false))) else (some false)) else (some false)) else (some false)) else (some false)) = some r := H
 have A5 := Aside0.mk A50
 clear A50
 by_cases c6 : t128 = 48
 ·
  rw [if_pos c6] at H
  have c6b0 : (t128 == 48) = true := beq_iff_eq.mpr c6
  have c6b1 : (t128 != 48) = false := bne_eq_false_iff_eq.mpr c6
  clear c6
  by_cases c7 : t126 = 48
  ·
   rw [if_pos c7] at H
   have c7b0 : (t126 == 48) = true := beq_iff_eq.mpr c7
   have c7b1 : (t126 != 48) = false := bne_eq_false_iff_eq.mpr c7
   clear c7
   by_cases c8 : t135 = 128
   ·
    rw [if_pos c8] at H
    have c8b0 : (t135 == 128) = true := beq_iff_eq.mpr c8
    have c8b1 : (t135 != 128) = false := bne_eq_false_iff_eq.mpr c8
    clear c8
    by_cases c9 : t132 = 1
    ·
     rw [if_pos c9] at H
     have c9b0 : (t132 == 1) = true := beq_iff_eq.mpr c9
     have c9b1 : (t132 != 1) = false := bne_eq_false_iff_eq.mpr c9
     clear c9
     replace H := Option.bind_eq_some_iff.mp H
     obtain ⟨t149, A100, H⟩ := H
     replace H : (if t149 = 1424 then (if t147 = 0 then (if t146 = true then (some false) else ((servo_New.f (-1)).bind fun bt150 => ((servo_TrackingError.f bt150.1 bt150.2.1 bt150.2.2.1 bt150.2.2.2.1 bt150.2.2.2.2 0).bind fun t155 => (some (t155 == 16))))) else (some false)) else (some false)) = some r := H
     have A10 := Aside0.mk A100
     clear A100
     by_cases c11 : t149 = 1424
     ·
      rw [if_pos c11] at H
      have c11b0 : (t149 == 1424) = true := beq_iff_eq.mpr c11
      have c11b1 : (t149 != 1424) = false := bne_eq_false_iff_eq.mpr c11
      clear c11
      by_cases c12 : t147 = 0
      ·
       rw [if_pos c12] at H
       have c12b0 : (t147 == 0) = true := beq_iff_eq.mpr c12
       have c12b1 : (t147 != 0) = false := bne_eq_false_iff_eq.mpr c12
       clear c12
       by_cases c13 : t146 = true
       ·
        subst c13
        have H1 : (some false) = some r := by rw [if_pos rfl] at H; exact H
        clear H
        have H := H1
        clear H1
        exact absurd HT.out (by rw [← Option.some.inj H]; decide)
       ·
        replace c13 := Bool.eq_false_iff.mpr c13
        subst c13
        have H1 : ((servo_New.f (-1)).bind fun bt150 => ((servo_TrackingError.f bt150.1 bt150.2.1 bt150.2.2.1 bt150.2.2.2.1 bt150.2.2.2.2 0).bind fun t155 => (some (t155 == 16)))) = some r := by rw [if_neg (show ¬ (false = true) by decide)] at H; exact H
        clear H
        have H := H1
        clear H1
        replace H := Option.bind_eq_some_iff.mp H
        obtain ⟨⟨t150, t151, t152, t153, t154⟩, A140, H⟩ := H
        replace H : ((servo_TrackingError.f t150 t151 t152 t153 t154 0).bind fun t155 => (some (t155 == 16))) = some r := H
        have A14 := Aside0.mk A140
        clear A140
        replace H := Option.bind_eq_some_iff.mp H
        obtain ⟨t155, A150, H⟩ := H
        replace H : (some (t155 == 16)) = some r := H
        have A15 := Aside0.mk A150
        clear A150
        obtain rfl := Option.some.inj H
        go_enter Try.func29, Try.ntmps29
        go_wp2_with (first | ((with_reducible refine gate_callee (f := 30) rfl ?_); refine goesL_ (some 8) rfl rfl Try.func30 (by kernel_rfl) rfl #[.int .i64 0] rfl (by (try simp only [List.map_toArray, List.map_cons, List.map_nil]); first | done | rfl | (simp only [List.length_drop, List.length_take]; rfl)) ?_; (with_reducible refine (servo_New.calls 0 t118 t119 t120 t121 t122 _ A1.out).mono ?_); rintro e w16 ⟨rfl, hb⟩; refine ⟨_, rfl, ?_⟩; have n0_ := Aside0.mk (below_step (by repeat (first | (with_reducible first | exact HB.out | apply below_alloc | apply pw_below_drewN | apply below_drew1) | exact HB.out)) hb); clear HB; have HB := n0_; clear n0_; (try clear hb); (try clear hb2); (try clear hk); (try clear hi)) | ((with_reducible refine gate_callee (f := 32) rfl ?_); refine goesL_ (some 9) rfl rfl Try.func32 (by kernel_rfl) rfl #[.agg #[.int .i64 t118, .int .i64 t119, .int .i64 t120, .int .i64 t121, .bool t122], .int .i64 1, .int .i64 0, .int .i64 3] rfl (by (try simp only [List.map_toArray, List.map_cons, List.map_nil]); first | done | rfl | (simp only [List.length_drop, List.length_take]; rfl)) ?_; (with_reducible refine (servo_Step.calls t118 t119 t120 t121 t122 1 0 3 t123 t124 t125 t126 t127 t128 _ A2.out).mono ?_); rintro e w17 ⟨rfl, hb⟩; refine ⟨_, rfl, ?_⟩; have n0_ := Aside0.mk (below_step (by repeat (first | (with_reducible first | exact HB.out | apply below_alloc | apply pw_below_drewN | apply below_drew1) | exact HB.out)) hb); clear HB; have HB := n0_; clear n0_; (try clear hb); (try clear hb2); (try clear hk); (try clear hi)) | ((with_reducible refine gate_dst (N := 1) rfl ?_); refine box_event ?hg (N := 1) ?hd (cs := #[.int .i64 0, .int .i64 0, .int .i64 0, .int .i64 0, .bool false]) (t := 49) ?hr ?_; (case hd => rfl); (case hg => rfl); (case hr => first | (go_simp; done) | (go_simp; rfl)); intro gb129 hg w18 hbox hb; have n0_ := Aside0.mk (below_step (by repeat (first | (with_reducible first | exact HB.out | apply below_alloc | apply pw_below_drewN | apply below_drew1) | exact HB.out)) hb); have n1_ := Aside0.mk (hbox); have n2_ := Aside0.mk ((by rw [hg]; exact (below_size (by repeat (first | (with_reducible first | exact HB.out | apply below_alloc | apply pw_below_drewN | apply below_drew1) | exact HB.out))) : w.heap.size ≤ gb129)); have n3_ := Aside0.mk ((by rw [hg]; exact (below_size (by repeat (first | (with_reducible first | exact HB.out | apply below_alloc | apply pw_below_drewN | apply below_drew1) | exact HB.out))) : w.heap.size ≤ gb129)); clear HB; have HB := n0_; have BK129 := n1_; have GW129 := n2_; have GE129 := n3_; clear n0_ n1_ n2_ n3_; clear hb hbox hg; have hcz19_0 : w18.cell? ⟨gb129, 0, none⟩ = some (.int .i64 0) := (blk_cell BK129.out 0).trans rfl; have hcz19_1 : w18.cell? ⟨gb129, 1, none⟩ = some (.int .i64 0) := (blk_cell BK129.out 1).trans rfl; have hcz19_2 : w18.cell? ⟨gb129, 2, none⟩ = some (.int .i64 0) := (blk_cell BK129.out 2).trans rfl; have hcz19_3 : w18.cell? ⟨gb129, 3, none⟩ = some (.int .i64 0) := (blk_cell BK129.out 3).trans rfl; have hcz19_4 : w18.cell? ⟨gb129, 4, none⟩ = some (.bool false) := (blk_cell BK129.out 4).trans rfl; have hfz19_0 := blk_frozen BK129.out 0; have hfz19_1 := blk_frozen BK129.out 1; have hfz19_2 := blk_frozen BK129.out 2; have hfz19_3 := blk_frozen BK129.out 3; have hfz19_4 := blk_frozen BK129.out 4) | ((with_reducible refine gate_callee (f := 32) rfl ?_); refine goesL_ (some 14) rfl rfl Try.func32 (by kernel_rfl) rfl #[.agg #[.int .i64 t123, .int .i64 t124, .int .i64 t125, .int .i64 t126, .bool t127], .int .i64 2, .int .i64 0, .int .i64 100] rfl (by (try simp only [List.map_toArray, List.map_cons, List.map_nil]); first | done | rfl | (simp only [List.length_drop, List.length_take]; rfl)) ?_; (with_reducible refine (servo_Step.calls t123 t124 t125 t126 t127 2 0 100 t130 t131 t132 t133 t134 t135 _ A3.out).mono ?_); rintro e w20 ⟨rfl, hb⟩; refine ⟨_, rfl, ?_⟩; have n0_ := Aside0.mk (blk_below (g := gb129) (o := .cells #[.int .i64 t123, .int .i64 t124, .int .i64 t125, .int .i64 t126, .bool t127] 49 (0, 0)) (by (with_reducible repeat (first | refine blk_drewN ?_ _ | refine blk_drew ?_ | refine blk_alloc ?_ _)); refine blk_put (cs := #[.int .i64 t123, .int .i64 t124, .int .i64 t125, .int .i64 t126, .bool false]) ?_ 4 _ rfl; (with_reducible repeat (first | refine blk_drewN ?_ _ | refine blk_drew ?_ | refine blk_alloc ?_ _)); refine blk_put (cs := #[.int .i64 t123, .int .i64 t124, .int .i64 t125, .int .i64 0, .bool false]) ?_ 3 _ rfl; (with_reducible repeat (first | refine blk_drewN ?_ _ | refine blk_drew ?_ | refine blk_alloc ?_ _)); refine blk_put (cs := #[.int .i64 t123, .int .i64 t124, .int .i64 0, .int .i64 0, .bool false]) ?_ 2 _ rfl; (with_reducible repeat (first | refine blk_drewN ?_ _ | refine blk_drew ?_ | refine blk_alloc ?_ _)); refine blk_put (cs := #[.int .i64 t123, .int .i64 0, .int .i64 0, .int .i64 0, .bool false]) ?_ 1 _ rfl; (with_reducible repeat (first | refine blk_drewN ?_ _ | refine blk_drew ?_ | refine blk_alloc ?_ _)); refine blk_put (cs := #[.int .i64 0, .int .i64 0, .int .i64 0, .int .i64 0, .bool false]) ?_ 0 _ rfl; (with_reducible repeat (first | refine blk_drewN ?_ _ | refine blk_drew ?_ | refine blk_alloc ?_ _)); exact BK129.out) hb); have n1_ := Aside0.mk (below_step (by repeat (first | (with_reducible first | exact HB.out | apply below_alloc | apply pw_below_drewN | apply below_drew1 | refine below_set ?_ GE129.out) | exact HB.out)) hb); clear BK129; clear HB; have BK129 := n0_; have HB := n1_; clear n0_ n1_; (try clear hb); (try clear hb2); (try clear hk); (try clear hi)) | ((with_reducible refine gate_dst (N := 3) rfl ?_); refine box_event ?hg (N := 3) ?hd (cs := #[.int .i64 0, .int .i64 0, .int .i64 0, .int .i64 0, .bool false]) (t := 49) ?hr ?_; (case hd => rfl); (case hg => rfl); (case hr => first | (go_simp; done) | (go_simp; rfl)); intro gb136 hg w21 hbox hb; have n0_ := Aside0.mk (blk_below (g := gb129) (o := .cells #[.int .i64 t123, .int .i64 t124, .int .i64 t125, .int .i64 t126, .bool t127] 49 (0, 0)) (by (with_reducible repeat (first | refine blk_drewN ?_ _ | refine blk_drew ?_ | refine blk_alloc ?_ _)); exact BK129.out) hb); have n1_ := Aside0.mk (below_step (by repeat (first | (with_reducible first | exact HB.out | apply below_alloc | apply pw_below_drewN | apply below_drew1 | refine below_set ?_ GE129.out) | exact HB.out)) hb); have n2_ := Aside0.mk (hbox); have n3_ := Aside0.mk ((by rw [hg]; exact (below_size (by repeat (first | (with_reducible first | exact HB.out | apply below_alloc | apply pw_below_drewN | apply below_drew1 | refine below_set ?_ GE129.out) | exact HB.out))) : w.heap.size ≤ gb136)); have n4_ := Aside0.mk ((by rw [hg]; exact (below_size (by repeat (first | (with_reducible first | exact HB.out | apply below_alloc | apply pw_below_drewN | apply below_drew1 | refine below_set ?_ GE129.out) | exact HB.out))) : w.heap.size ≤ gb136)); have n5_ := Aside0.mk ((by rw [hg]; exact Nat.ne_of_lt (blk_lt (g := gb129) (o := .cells #[.int .i64 t123, .int .i64 t124, .int .i64 t125, .int .i64 t126, .bool t127] 49 (0, 0)) (by (with_reducible repeat (first | refine blk_drewN ?_ _ | refine blk_drew ?_ | refine blk_alloc ?_ _)); exact BK129.out)) : gb129 ≠ gb136)); have n6_ := Aside0.mk ((by rw [hg]; exact Nat.ne_of_gt (blk_lt (g := gb129) (o := .cells #[.int .i64 t123, .int .i64 t124, .int .i64 t125, .int .i64 t126, .bool t127] 49 (0, 0)) (by (with_reducible repeat (first | refine blk_drewN ?_ _ | refine blk_drew ?_ | refine blk_alloc ?_ _)); exact BK129.out)) : gb136 ≠ gb129)); clear BK129; clear HB; have BK129 := n0_; have HB := n1_; have BK136 := n2_; have GW136 := n3_; have GE136 := n4_; have NB129_136 := n5_; have NB136_129 := n6_; clear n0_ n1_ n2_ n3_ n4_ n5_ n6_; clear hb hbox hg; have hnb22 := NB136_129.out; have hnc22 := NB129_136.out; have hcz23_0 : w21.cell? ⟨gb136, 0, none⟩ = some (.int .i64 0) := (blk_cell BK136.out 0).trans rfl; have hcz23_1 : w21.cell? ⟨gb136, 1, none⟩ = some (.int .i64 0) := (blk_cell BK136.out 1).trans rfl; have hcz23_2 : w21.cell? ⟨gb136, 2, none⟩ = some (.int .i64 0) := (blk_cell BK136.out 2).trans rfl; have hcz23_3 : w21.cell? ⟨gb136, 3, none⟩ = some (.int .i64 0) := (blk_cell BK136.out 3).trans rfl; have hcz23_4 : w21.cell? ⟨gb136, 4, none⟩ = some (.bool false) := (blk_cell BK136.out 4).trans rfl; have hfz23_0 := blk_frozen BK136.out 0; have hfz23_1 := blk_frozen BK136.out 1; have hfz23_2 := blk_frozen BK136.out 2; have hfz23_3 := blk_frozen BK136.out 3; have hfz23_4 := blk_frozen BK136.out 4) | ((with_reducible refine gate_callee (f := 30) rfl ?_); refine goesL_ (some 18) rfl rfl Try.func30 (by kernel_rfl) rfl #[.int .i64 40] rfl (by (try simp only [List.map_toArray, List.map_cons, List.map_nil]); first | done | rfl | (simp only [List.length_drop, List.length_take]; rfl)) ?_; (with_reducible refine (servo_New.calls 40 t137 t138 t139 t140 t141 _ A4.out).mono ?_); rintro e w24 ⟨rfl, hb⟩; refine ⟨_, rfl, ?_⟩; have n0_ := Aside0.mk (blk_below (g := gb129) (o := .cells #[.int .i64 t123, .int .i64 t124, .int .i64 t125, .int .i64 t126, .bool t127] 49 (0, 0)) (by (with_reducible repeat (first | refine blk_drewN ?_ _ | refine blk_drew ?_ | refine blk_alloc ?_ _)); refine blk_far ?_ NB129_136.out _; (with_reducible repeat (first | refine blk_drewN ?_ _ | refine blk_drew ?_ | refine blk_alloc ?_ _)); refine blk_far ?_ NB129_136.out _; (with_reducible repeat (first | refine blk_drewN ?_ _ | refine blk_drew ?_ | refine blk_alloc ?_ _)); refine blk_far ?_ NB129_136.out _; (with_reducible repeat (first | refine blk_drewN ?_ _ | refine blk_drew ?_ | refine blk_alloc ?_ _)); refine blk_far ?_ NB129_136.out _; (with_reducible repeat (first | refine blk_drewN ?_ _ | refine blk_drew ?_ | refine blk_alloc ?_ _)); refine blk_far ?_ NB129_136.out _; (with_reducible repeat (first | refine blk_drewN ?_ _ | refine blk_drew ?_ | refine blk_alloc ?_ _)); exact BK129.out) hb); have n1_ := Aside0.mk (blk_below (g := gb136) (o := .cells #[.int .i64 t130, .int .i64 t131, .int .i64 t132, .int .i64 t133, .bool t134] 49 (0, 0)) (by (with_reducible repeat (first | refine blk_drewN ?_ _ | refine blk_drew ?_ | refine blk_alloc ?_ _)); refine blk_put (cs := #[.int .i64 t130, .int .i64 t131, .int .i64 t132, .int .i64 t133, .bool false]) ?_ 4 _ rfl; (with_reducible repeat (first | refine blk_drewN ?_ _ | refine blk_drew ?_ | refine blk_alloc ?_ _)); refine blk_put (cs := #[.int .i64 t130, .int .i64 t131, .int .i64 t132, .int .i64 0, .bool false]) ?_ 3 _ rfl; (with_reducible repeat (first | refine blk_drewN ?_ _ | refine blk_drew ?_ | refine blk_alloc ?_ _)); refine blk_put (cs := #[.int .i64 t130, .int .i64 t131, .int .i64 0, .int .i64 0, .bool false]) ?_ 2 _ rfl; (with_reducible repeat (first | refine blk_drewN ?_ _ | refine blk_drew ?_ | refine blk_alloc ?_ _)); refine blk_put (cs := #[.int .i64 t130, .int .i64 0, .int .i64 0, .int .i64 0, .bool false]) ?_ 1 _ rfl; (with_reducible repeat (first | refine blk_drewN ?_ _ | refine blk_drew ?_ | refine blk_alloc ?_ _)); refine blk_put (cs := #[.int .i64 0, .int .i64 0, .int .i64 0, .int .i64 0, .bool false]) ?_ 0 _ rfl; (with_reducible repeat (first | refine blk_drewN ?_ _ | refine blk_drew ?_ | refine blk_alloc ?_ _)); exact BK136.out) hb); have n2_ := Aside0.mk (below_step (by repeat (first | (with_reducible first | exact HB.out | apply below_alloc | apply pw_below_drewN | apply below_drew1 | refine below_set ?_ GE129.out | refine below_set ?_ GE136.out) | exact HB.out)) hb); clear BK129; clear BK136; clear HB; have BK129 := n0_; have BK136 := n1_; have HB := n2_; clear n0_ n1_ n2_; (try clear hb); (try clear hb2); (try clear hk); (try clear hi)) | ((with_reducible refine gate_callee (f := 32) rfl ?_); refine goesL_ (some 19) rfl rfl Try.func32 (by kernel_rfl) rfl #[.agg #[.int .i64 t137, .int .i64 t138, .int .i64 t139, .int .i64 t140, .bool t141], .int .i64 3, .int .i64 9, .int .i64 2] rfl (by (try simp only [List.map_toArray, List.map_cons, List.map_nil]); first | done | rfl | (simp only [List.length_drop, List.length_take]; rfl)) ?_; (with_reducible refine (servo_Step.calls t137 t138 t139 t140 t141 3 9 2 t142 t143 t144 t145 false t147 _ A5.out).mono ?_); rintro e w25 ⟨rfl, hb⟩; refine ⟨_, rfl, ?_⟩; have n0_ := Aside0.mk (blk_below (g := gb129) (o := .cells #[.int .i64 t123, .int .i64 t124, .int .i64 t125, .int .i64 t126, .bool t127] 49 (0, 0)) (by (with_reducible repeat (first | refine blk_drewN ?_ _ | refine blk_drew ?_ | refine blk_alloc ?_ _)); exact BK129.out) hb); have n1_ := Aside0.mk (blk_below (g := gb136) (o := .cells #[.int .i64 t130, .int .i64 t131, .int .i64 t132, .int .i64 t133, .bool t134] 49 (0, 0)) (by (with_reducible repeat (first | refine blk_drewN ?_ _ | refine blk_drew ?_ | refine blk_alloc ?_ _)); exact BK136.out) hb); have n2_ := Aside0.mk (below_step (by repeat (first | (with_reducible first | exact HB.out | apply below_alloc | apply pw_below_drewN | apply below_drew1 | refine below_set ?_ GE129.out | refine below_set ?_ GE136.out) | exact HB.out)) hb); clear BK129; clear BK136; clear HB; have BK129 := n0_; have BK136 := n1_; have HB := n2_; clear n0_ n1_ n2_; (try clear hb); (try clear hb2); (try clear hk); (try clear hi)) | ((with_reducible refine gate_dst (N := 5) rfl ?_); refine box_event ?hg (N := 5) ?hd (cs := #[.int .i64 0, .int .i64 0, .int .i64 0, .int .i64 0, .bool false]) (t := 49) ?hr ?_; (case hd => rfl); (case hg => rfl); (case hr => first | (go_simp; done) | (go_simp; rfl)); intro gb148 hg w26 hbox hb; have n0_ := Aside0.mk (blk_below (g := gb129) (o := .cells #[.int .i64 t123, .int .i64 t124, .int .i64 t125, .int .i64 t126, .bool t127] 49 (0, 0)) (by (with_reducible repeat (first | refine blk_drewN ?_ _ | refine blk_drew ?_ | refine blk_alloc ?_ _)); exact BK129.out) hb); have n1_ := Aside0.mk (blk_below (g := gb136) (o := .cells #[.int .i64 t130, .int .i64 t131, .int .i64 t132, .int .i64 t133, .bool t134] 49 (0, 0)) (by (with_reducible repeat (first | refine blk_drewN ?_ _ | refine blk_drew ?_ | refine blk_alloc ?_ _)); exact BK136.out) hb); have n2_ := Aside0.mk (below_step (by repeat (first | (with_reducible first | exact HB.out | apply below_alloc | apply pw_below_drewN | apply below_drew1 | refine below_set ?_ GE129.out | refine below_set ?_ GE136.out) | exact HB.out)) hb); have n3_ := Aside0.mk (hbox); have n4_ := Aside0.mk ((by rw [hg]; exact (below_size (by repeat (first | (with_reducible first | exact HB.out | apply below_alloc | apply pw_below_drewN | apply below_drew1 | refine below_set ?_ GE129.out | refine below_set ?_ GE136.out) | exact HB.out))) : w.heap.size ≤ gb148)); have n5_ := Aside0.mk ((by rw [hg]; exact (below_size (by repeat (first | (with_reducible first | exact HB.out | apply below_alloc | apply pw_below_drewN | apply below_drew1 | refine below_set ?_ GE129.out | refine below_set ?_ GE136.out) | exact HB.out))) : w.heap.size ≤ gb148)); have n6_ := Aside0.mk ((by rw [hg]; exact Nat.ne_of_lt (blk_lt (g := gb129) (o := .cells #[.int .i64 t123, .int .i64 t124, .int .i64 t125, .int .i64 t126, .bool t127] 49 (0, 0)) (by (with_reducible repeat (first | refine blk_drewN ?_ _ | refine blk_drew ?_ | refine blk_alloc ?_ _)); exact BK129.out)) : gb129 ≠ gb148)); have n7_ := Aside0.mk ((by rw [hg]; exact Nat.ne_of_gt (blk_lt (g := gb129) (o := .cells #[.int .i64 t123, .int .i64 t124, .int .i64 t125, .int .i64 t126, .bool t127] 49 (0, 0)) (by (with_reducible repeat (first | refine blk_drewN ?_ _ | refine blk_drew ?_ | refine blk_alloc ?_ _)); exact BK129.out)) : gb148 ≠ gb129)); have n8_ := Aside0.mk ((by rw [hg]; exact Nat.ne_of_lt (blk_lt (g := gb136) (o := .cells #[.int .i64 t130, .int .i64 t131, .int .i64 t132, .int .i64 t133, .bool t134] 49 (0, 0)) (by (with_reducible repeat (first | refine blk_drewN ?_ _ | refine blk_drew ?_ | refine blk_alloc ?_ _)); exact BK136.out)) : gb136 ≠ gb148)); have n9_ := Aside0.mk ((by rw [hg]; exact Nat.ne_of_gt (blk_lt (g := gb136) (o := .cells #[.int .i64 t130, .int .i64 t131, .int .i64 t132, .int .i64 t133, .bool t134] 49 (0, 0)) (by (with_reducible repeat (first | refine blk_drewN ?_ _ | refine blk_drew ?_ | refine blk_alloc ?_ _)); exact BK136.out)) : gb148 ≠ gb136)); clear BK129; clear BK136; clear HB; have BK129 := n0_; have BK136 := n1_; have HB := n2_; have BK148 := n3_; have GW148 := n4_; have GE148 := n5_; have NB129_148 := n6_; have NB148_129 := n7_; have NB136_148 := n8_; have NB148_136 := n9_; clear n0_ n1_ n2_ n3_ n4_ n5_ n6_ n7_ n8_ n9_; clear hb hbox hg; have hnb27 := NB148_129.out; have hnc27 := NB129_148.out; have hnb28 := NB148_136.out; have hnc28 := NB136_148.out; have hcz29_0 : w26.cell? ⟨gb148, 0, none⟩ = some (.int .i64 0) := (blk_cell BK148.out 0).trans rfl; have hcz29_1 : w26.cell? ⟨gb148, 1, none⟩ = some (.int .i64 0) := (blk_cell BK148.out 1).trans rfl; have hcz29_2 : w26.cell? ⟨gb148, 2, none⟩ = some (.int .i64 0) := (blk_cell BK148.out 2).trans rfl; have hcz29_3 : w26.cell? ⟨gb148, 3, none⟩ = some (.int .i64 0) := (blk_cell BK148.out 3).trans rfl; have hcz29_4 : w26.cell? ⟨gb148, 4, none⟩ = some (.bool false) := (blk_cell BK148.out 4).trans rfl; have hfz29_0 := blk_frozen BK148.out 0; have hfz29_1 := blk_frozen BK148.out 1; have hfz29_2 := blk_frozen BK148.out 2; have hfz29_3 := blk_frozen BK148.out 3; have hfz29_4 := blk_frozen BK148.out 4; have hcz30_0 : w26.cell? ⟨gb129, 0, none⟩ = some (.int .i64 t123) := (blk_cell BK129.out 0).trans rfl; have hcz30_1 : w26.cell? ⟨gb129, 1, none⟩ = some (.int .i64 t124) := (blk_cell BK129.out 1).trans rfl; have hcz30_2 : w26.cell? ⟨gb129, 2, none⟩ = some (.int .i64 t125) := (blk_cell BK129.out 2).trans rfl; have hcz30_3 : w26.cell? ⟨gb129, 3, none⟩ = some (.int .i64 t126) := (blk_cell BK129.out 3).trans rfl; have hcz30_4 : w26.cell? ⟨gb129, 4, none⟩ = some (.bool t127) := (blk_cell BK129.out 4).trans rfl; have hfz30_0 := blk_frozen BK129.out 0; have hfz30_1 := blk_frozen BK129.out 1; have hfz30_2 := blk_frozen BK129.out 2; have hfz30_3 := blk_frozen BK129.out 3; have hfz30_4 := blk_frozen BK129.out 4; have hcz31_0 : w26.cell? ⟨gb136, 0, none⟩ = some (.int .i64 t130) := (blk_cell BK136.out 0).trans rfl; have hcz31_1 : w26.cell? ⟨gb136, 1, none⟩ = some (.int .i64 t131) := (blk_cell BK136.out 1).trans rfl; have hcz31_2 : w26.cell? ⟨gb136, 2, none⟩ = some (.int .i64 t132) := (blk_cell BK136.out 2).trans rfl; have hcz31_3 : w26.cell? ⟨gb136, 3, none⟩ = some (.int .i64 t133) := (blk_cell BK136.out 3).trans rfl; have hcz31_4 : w26.cell? ⟨gb136, 4, none⟩ = some (.bool t134) := (blk_cell BK136.out 4).trans rfl; have hfz31_0 := blk_frozen BK136.out 0; have hfz31_1 := blk_frozen BK136.out 1; have hfz31_2 := blk_frozen BK136.out 2; have hfz31_3 := blk_frozen BK136.out 3; have hfz31_4 := blk_frozen BK136.out 4) | (go_at_call 34; (with_reducible refine (servo_TrackingError.calls t130 t131 t132 t133 t134 100 t149 _ A10.out).mono ?_); rintro e w32 ⟨rfl, hb⟩; have n0_ := Aside0.mk (blk_below (g := gb129) (o := .cells #[.int .i64 t123, .int .i64 t124, .int .i64 t125, .int .i64 t126, .bool t127] 49 (0, 0)) (by (with_reducible repeat (first | refine blk_drewN ?_ _ | refine blk_drew ?_ | refine blk_alloc ?_ _)); refine blk_far ?_ NB129_148.out _; (with_reducible repeat (first | refine blk_drewN ?_ _ | refine blk_drew ?_ | refine blk_alloc ?_ _)); refine blk_far ?_ NB129_148.out _; (with_reducible repeat (first | refine blk_drewN ?_ _ | refine blk_drew ?_ | refine blk_alloc ?_ _)); refine blk_far ?_ NB129_148.out _; (with_reducible repeat (first | refine blk_drewN ?_ _ | refine blk_drew ?_ | refine blk_alloc ?_ _)); refine blk_far ?_ NB129_148.out _; (with_reducible repeat (first | refine blk_drewN ?_ _ | refine blk_drew ?_ | refine blk_alloc ?_ _)); refine blk_far ?_ NB129_148.out _; (with_reducible repeat (first | refine blk_drewN ?_ _ | refine blk_drew ?_ | refine blk_alloc ?_ _)); exact BK129.out) hb); have n1_ := Aside0.mk (blk_below (g := gb136) (o := .cells #[.int .i64 t130, .int .i64 t131, .int .i64 t132, .int .i64 t133, .bool t134] 49 (0, 0)) (by (with_reducible repeat (first | refine blk_drewN ?_ _ | refine blk_drew ?_ | refine blk_alloc ?_ _)); refine blk_far ?_ NB136_148.out _; (with_reducible repeat (first | refine blk_drewN ?_ _ | refine blk_drew ?_ | refine blk_alloc ?_ _)); refine blk_far ?_ NB136_148.out _; (with_reducible repeat (first | refine blk_drewN ?_ _ | refine blk_drew ?_ | refine blk_alloc ?_ _)); refine blk_far ?_ NB136_148.out _; (with_reducible repeat (first | refine blk_drewN ?_ _ | refine blk_drew ?_ | refine blk_alloc ?_ _)); refine blk_far ?_ NB136_148.out _; (with_reducible repeat (first | refine blk_drewN ?_ _ | refine blk_drew ?_ | refine blk_alloc ?_ _)); refine blk_far ?_ NB136_148.out _; (with_reducible repeat (first | refine blk_drewN ?_ _ | refine blk_drew ?_ | refine blk_alloc ?_ _)); exact BK136.out) hb); have n2_ := Aside0.mk (blk_below (g := gb148) (o := .cells #[.int .i64 t142, .int .i64 t143, .int .i64 t144, .int .i64 t145, .bool false] 49 (0, 0)) (by (with_reducible repeat (first | refine blk_drewN ?_ _ | refine blk_drew ?_ | refine blk_alloc ?_ _)); refine blk_put (cs := #[.int .i64 t142, .int .i64 t143, .int .i64 t144, .int .i64 t145, .bool false]) ?_ 4 _ rfl; (with_reducible repeat (first | refine blk_drewN ?_ _ | refine blk_drew ?_ | refine blk_alloc ?_ _)); refine blk_put (cs := #[.int .i64 t142, .int .i64 t143, .int .i64 t144, .int .i64 0, .bool false]) ?_ 3 _ rfl; (with_reducible repeat (first | refine blk_drewN ?_ _ | refine blk_drew ?_ | refine blk_alloc ?_ _)); refine blk_put (cs := #[.int .i64 t142, .int .i64 t143, .int .i64 0, .int .i64 0, .bool false]) ?_ 2 _ rfl; (with_reducible repeat (first | refine blk_drewN ?_ _ | refine blk_drew ?_ | refine blk_alloc ?_ _)); refine blk_put (cs := #[.int .i64 t142, .int .i64 0, .int .i64 0, .int .i64 0, .bool false]) ?_ 1 _ rfl; (with_reducible repeat (first | refine blk_drewN ?_ _ | refine blk_drew ?_ | refine blk_alloc ?_ _)); refine blk_put (cs := #[.int .i64 0, .int .i64 0, .int .i64 0, .int .i64 0, .bool false]) ?_ 0 _ rfl; (with_reducible repeat (first | refine blk_drewN ?_ _ | refine blk_drew ?_ | refine blk_alloc ?_ _)); exact BK148.out) hb); have n3_ := Aside0.mk (below_step (by repeat (first | (with_reducible first | exact HB.out | apply below_alloc | apply pw_below_drewN | apply below_drew1 | refine below_set ?_ GE129.out | refine below_set ?_ GE136.out | refine below_set ?_ GE148.out) | exact HB.out)) hb); clear BK129; clear BK136; clear BK148; clear HB; have BK129 := n0_; have BK136 := n1_; have BK148 := n2_; have HB := n3_; clear n0_ n1_ n2_ n3_; (try clear hb); (try clear hb2); (try clear hk); (try clear hi); have hcz33_0 : w32.cell? ⟨gb148, 0, none⟩ = some (.int .i64 t142) := (blk_cell BK148.out 0).trans rfl; have hcz33_1 : w32.cell? ⟨gb148, 1, none⟩ = some (.int .i64 t143) := (blk_cell BK148.out 1).trans rfl; have hcz33_2 : w32.cell? ⟨gb148, 2, none⟩ = some (.int .i64 t144) := (blk_cell BK148.out 2).trans rfl; have hcz33_3 : w32.cell? ⟨gb148, 3, none⟩ = some (.int .i64 t145) := (blk_cell BK148.out 3).trans rfl; have hcz33_4 : w32.cell? ⟨gb148, 4, none⟩ = some (.bool false) := (blk_cell BK148.out 4).trans rfl; have hfz33_0 := blk_frozen BK148.out 0; have hfz33_1 := blk_frozen BK148.out 1; have hfz33_2 := blk_frozen BK148.out 2; have hfz33_3 := blk_frozen BK148.out 3; have hfz33_4 := blk_frozen BK148.out 4) | (go_at_call 30; (with_reducible refine (servo_New.calls (-1) t150 t151 t152 t153 t154 _ A14.out).mono ?_); rintro e w34 ⟨rfl, hb⟩; have n0_ := Aside0.mk (blk_below (g := gb129) (o := .cells #[.int .i64 t123, .int .i64 t124, .int .i64 t125, .int .i64 t126, .bool t127] 49 (0, 0)) (by (with_reducible repeat (first | refine blk_drewN ?_ _ | refine blk_drew ?_ | refine blk_alloc ?_ _)); exact BK129.out) hb); have n1_ := Aside0.mk (blk_below (g := gb136) (o := .cells #[.int .i64 t130, .int .i64 t131, .int .i64 t132, .int .i64 t133, .bool t134] 49 (0, 0)) (by (with_reducible repeat (first | refine blk_drewN ?_ _ | refine blk_drew ?_ | refine blk_alloc ?_ _)); exact BK136.out) hb); have n2_ := Aside0.mk (blk_below (g := gb148) (o := .cells #[.int .i64 t142, .int .i64 t143, .int .i64 t144, .int .i64 t145, .bool false] 49 (0, 0)) (by (with_reducible repeat (first | refine blk_drewN ?_ _ | refine blk_drew ?_ | refine blk_alloc ?_ _)); exact BK148.out) hb); have n3_ := Aside0.mk (below_step (by repeat (first | (with_reducible first | exact HB.out | apply below_alloc | apply pw_below_drewN | apply below_drew1 | refine below_set ?_ GE129.out | refine below_set ?_ GE136.out | refine below_set ?_ GE148.out) | exact HB.out)) hb); clear BK129; clear BK136; clear BK148; clear HB; have BK129 := n0_; have BK136 := n1_; have BK148 := n2_; have HB := n3_; clear n0_ n1_ n2_ n3_; (try clear hb); (try clear hb2); (try clear hk); (try clear hi)) | (go_at_call 34; (with_reducible refine (servo_TrackingError.calls t150 t151 t152 t153 t154 0 t155 _ A15.out).mono ?_); rintro e w35 ⟨rfl, hb⟩; have n0_ := Aside0.mk (blk_below (g := gb129) (o := .cells #[.int .i64 t123, .int .i64 t124, .int .i64 t125, .int .i64 t126, .bool t127] 49 (0, 0)) (by (with_reducible repeat (first | refine blk_drewN ?_ _ | refine blk_drew ?_ | refine blk_alloc ?_ _)); exact BK129.out) hb); have n1_ := Aside0.mk (blk_below (g := gb136) (o := .cells #[.int .i64 t130, .int .i64 t131, .int .i64 t132, .int .i64 t133, .bool t134] 49 (0, 0)) (by (with_reducible repeat (first | refine blk_drewN ?_ _ | refine blk_drew ?_ | refine blk_alloc ?_ _)); exact BK136.out) hb); have n2_ := Aside0.mk (blk_below (g := gb148) (o := .cells #[.int .i64 t142, .int .i64 t143, .int .i64 t144, .int .i64 t145, .bool false] 49 (0, 0)) (by (with_reducible repeat (first | refine blk_drewN ?_ _ | refine blk_drew ?_ | refine blk_alloc ?_ _)); exact BK148.out) hb); have n3_ := Aside0.mk (below_step (by repeat (first | (with_reducible first | exact HB.out | apply below_alloc | apply pw_below_drewN | apply below_drew1 | refine below_set ?_ GE129.out | refine below_set ?_ GE136.out | refine below_set ?_ GE148.out) | exact HB.out)) hb); clear BK129; clear BK136; clear BK148; clear HB; have BK129 := n0_; have BK136 := n1_; have BK148 := n2_; have HB := n3_; clear n0_ n1_ n2_ n3_; (try clear hb); (try clear hb2); (try clear hk); (try clear hi)))
        go_ret
        exact ⟨by first | rfl | (simp [errW_none, errW_some] <;> rfl) | (simp [*, errW_none, errW_some] <;> rfl), by repeat (first | (with_reducible first | exact HB.out | apply below_alloc | apply pw_below_drewN | apply below_drew1 | refine below_set ?_ GE129.out | refine below_set ?_ GE136.out | refine below_set ?_ GE148.out) | exact HB.out)⟩
      ·
       rw [if_neg c12] at H
       have c12b0 : (t147 == 0) = false := beq_eq_false_iff_ne.mpr c12
       have c12b1 : (t147 != 0) = true := bne_iff_ne.mpr c12
       exact absurd HT.out (by rw [← Option.some.inj H]; decide)
     ·
      rw [if_neg c11] at H
      have c11b0 : (t149 == 1424) = false := beq_eq_false_iff_ne.mpr c11
      have c11b1 : (t149 != 1424) = true := bne_iff_ne.mpr c11
      exact absurd HT.out (by rw [← Option.some.inj H]; decide)
    ·
     rw [if_neg c9] at H
     have c9b0 : (t132 == 1) = false := beq_eq_false_iff_ne.mpr c9
     have c9b1 : (t132 != 1) = true := bne_iff_ne.mpr c9
     exact absurd HT.out (by rw [← Option.some.inj H]; decide)
   ·
    rw [if_neg c8] at H
    have c8b0 : (t135 == 128) = false := beq_eq_false_iff_ne.mpr c8
    have c8b1 : (t135 != 128) = true := bne_iff_ne.mpr c8
    exact absurd HT.out (by rw [← Option.some.inj H]; decide)
  ·
   rw [if_neg c7] at H
   have c7b0 : (t126 == 48) = false := beq_eq_false_iff_ne.mpr c7
   have c7b1 : (t126 != 48) = true := bne_iff_ne.mpr c7
   exact absurd HT.out (by rw [← Option.some.inj H]; decide)
 ·
  rw [if_neg c6] at H
  have c6b0 : (t128 == 48) = false := beq_eq_false_iff_ne.mpr c6
  have c6b1 : (t128 != 48) = true := bne_iff_ne.mpr c6
  exact absurd HT.out (by rw [← Option.some.inj H]; decide)

theorem ambidexterlaw25_head.is_true {r : Bool} (h : ambidexterlaw25_head.f = some r) : r = true := by
 have e : ambidexterlaw25_head.f = some true := by kernel_rfl
 rw [e] at h
 exact (Option.some.inj h).symm
theorem ambidexterlaw25_head.calls  (r : Bool) (w : World) (h : ambidexterlaw25_head.f  = some r) :
  Calls Try.prog 29 #[] w fun e w' => e = .returned (.bool r) ∧ Below w.heap.size w w' := ambidexterlaw25_head.calls0 r w h (ambidexterlaw25_head.is_true h)

end Go.Proofs.Ytehibiikdlgneaa.P
