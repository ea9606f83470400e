-- Written by this session's own program, for this seat. Lean checks it.
import Derived.Test.YtmmaodlngnjmlaaP0
import Derived.Test.YtmmaodlngnjmlaaP1
import Derived.Test.YtmmaodlngnjmlaaP3
import Derived.Test.YtmmaodlngnjmlaaP4
import Derived.Test.YtmmaodlngnjmlaaP5
import Derived.Test.YtmmaodlngnjmlaaP8
import Derived.Test.YtmmaodlngnjmlaaP23
import Derived.Test.YtmmaodlngnjmlaaXShort2
namespace Go.Proofs.Ytmmaodlngnjmlaa.P
open Go.RowKit Go.Proofs.YtmmaodlngnjmlaaW.PrintWords Go.Proofs.YtmmaodlngnjmlaaW.PrintLast Go.Proofs.YtmmaodlngnjmlaaW.PrintMore
attribute [local go_sem] max2_int min2_int max_two min_two max_three min_three max_four min_four   -- for this text's walks alone
set_option linter.unusedVariables false
set_option linter.unusedSimpArgs false

attribute [local go_sem high] eqA33

set_option maxHeartbeats 8000000 in
set_option maxRecDepth 100000 in
theorem ambidextertop_TopSegments.calls0 (k : Nat) (a0 : Int) (a1 : Int) (a2 : Int) (A3 : Option Addr) (c3 : Nat) (l3 : List (S63)) (r : Bool) (w : World) (hr3 : Kd.C k63 w A3 l3.length l3) (hc3 : l3.length ≤ c3) (h : ambidextertop_TopSegments.f k a0 a1 a2 l3 = some r) (hT : r = true) :
  Calls Try.prog 13 #[.int .u8 a0, .int .u8 a1, .int .u8 a2, .slice A3 l3.length c3] w fun e w' => e = .returned (.bool r) ∧ Below w.heap.size w w' := by
 have hu25 := Try.underlying25
 have hu59 := Try.underlying59
 have hu69 := Try.underlying69
 have hu33 := Try.underlying33
 have HR3 := Aside0.mk hr3
 have HC3 := Aside0.mk hc3
 clear hr3 hc3
 have HB := Aside0.mk (Below.refl w.heap.size w)
 have H : ((ambidextertop_head23.f k).bind fun t304 => ((ambidextertop_limR14.f a0 a1 a2).bind fun bt305 => (if (l3.length : Int) > 30 then (some t304) else ((timetable_Sequential.f k bt305.1 bt305.2.1 bt305.2.2 l3).bind fun bt309 => (if bt309.2 = 0 then (ambidextertop_TopSegments.l0 k t304 bt309.1 0 bt305.1 bt305.2.1 bt305.2.2) else (some t304)))))) = some r := h
 clear h
 have HT := Aside0.mk hT
 clear hT
 replace H := Option.bind_eq_some_iff.mp H
 obtain ⟨t304, A50, H⟩ := H
 obtain rfl := ambidextertop_head23.is_true k A50
 replace H : ((ambidextertop_limR14.f a0 a1 a2).bind fun bt305 => (if (l3.length : Int) > 30 then (some true) else ((timetable_Sequential.f k bt305.1 bt305.2.1 bt305.2.2 l3).bind fun bt309 => (if bt309.2 = 0 then (ambidextertop_TopSegments.l0 k true bt309.1 0 bt305.1 bt305.2.1 bt305.2.2) else (some true))))) = some r := H
 have A5 := Aside0.mk A50
 clear A50
 replace H := Option.bind_eq_some_iff.mp H
 obtain ⟨⟨t305, t306, t307⟩, A60, H⟩ := H
 replace H : (if (l3.length : Int) > 30 then (some true) else ((timetable_Sequential.f k t305 t306 t307 l3).bind fun bt309 => (if bt309.2 = 0 then (ambidextertop_TopSegments.l0 k true bt309.1 0 t305 t306 t307) else (some true)))) = some r := H
 have A6 := Aside0.mk A60
 clear A60
 by_cases c7 : (l3.length : Int) > 30
 ·
  rw [if_pos c7] at H
  have c7b0 : decide (30 < (l3.length : Int)) = true := decide_eq_true c7
  have c7b1 : decide (30 < l3.length) = true := decide_eq_true (by omega)
  clear c7
  obtain rfl := Option.some.inj H
  go_enter Try.func13, Try.ntmps13
  go_wp2_with (first | ((with_reducible refine gate_callee (f := 26) rfl ?_); refine goesL_ (some 17) rfl rfl Try.func26 (by kernel_rfl) rfl #[] rfl (by (try simp only [List.map_toArray, List.map_cons, List.map_nil]); first | done | rfl | (simp only [List.length_drop, List.length_take]; rfl)) ?_; (with_reducible refine (ambidextertop_head23.calls k  true _ A5.out).mono ?_); rintro e w8 ⟨rfl, hb⟩; refine ⟨_, rfl, ?_⟩; have n0_ := Aside0.mk (below_step (by repeat (first | (with_reducible first | exact HB.out | apply below_alloc | apply pw_below_drewN | apply below_drew1) | exact HB.out)) hb); clear HB; have HB := n0_; clear n0_; (try clear hb); (try clear hb2); (try clear hk); (try clear hi)) | ((with_reducible refine gate_callee (f := 15) rfl ?_); refine goesL_ (some 21) rfl rfl Try.func15 (by kernel_rfl) rfl #[.int .u8 a0, .int .u8 a1, .int .u8 a2] rfl (by (try simp only [List.map_toArray, List.map_cons, List.map_nil]); first | done | rfl | (simp only [List.length_drop, List.length_take]; rfl)) ?_; (with_reducible refine (ambidextertop_limR14.calls a0 a1 a2 t305 t306 t307 _ A6.out).mono ?_); rintro e w9 ⟨rfl, hb⟩; refine ⟨_, rfl, ?_⟩; have n0_ := Aside0.mk (below_step (by repeat (first | (with_reducible first | exact HB.out | apply below_alloc | apply pw_below_drewN | apply below_drew1) | exact HB.out)) hb); clear HB; have HB := n0_; clear n0_; (try clear hb); (try clear hb2); (try clear hk); (try clear hi)) | ((with_reducible refine gate_dst (N := 10) rfl ?_); refine box_event ?hg (N := 10) ?hd (cs := #[.int .i64 0, .int .i64 0, .int .i64 0]) (t := 25) ?hr ?_; (case hd => rfl); (case hg => rfl); (case hr => first | (go_simp; done) | (go_simp; rfl)); intro gb308 hg w10 hbox hb; have n0_ := Aside0.mk (below_step (by repeat (first | (with_reducible first | exact HB.out | apply below_alloc | apply pw_below_drewN | apply below_drew1) | exact HB.out)) hb); have n1_ := Aside0.mk (hbox); have n2_ := Aside0.mk ((by rw [hg]; exact (below_size (by repeat (first | (with_reducible first | exact HB.out | apply below_alloc | apply pw_below_drewN | apply below_drew1) | exact HB.out))) : w.heap.size ≤ gb308)); have n3_ := Aside0.mk ((by rw [hg]; exact (below_size (by repeat (first | (with_reducible first | exact HB.out | apply below_alloc | apply pw_below_drewN | apply below_drew1) | exact HB.out))) : w.heap.size ≤ gb308)); clear HB; have HB := n0_; have BK308 := n1_; have GW308 := n2_; have GE308 := n3_; clear n0_ n1_ n2_ n3_; clear hb hbox hg; have hcz11_0 : w10.cell? ⟨gb308, 0, none⟩ = some (.int .i64 0) := (blk_cell BK308.out 0).trans rfl; have hcz11_1 : w10.cell? ⟨gb308, 1, none⟩ = some (.int .i64 0) := (blk_cell BK308.out 1).trans rfl; have hcz11_2 : w10.cell? ⟨gb308, 2, none⟩ = some (.int .i64 0) := (blk_cell BK308.out 2).trans rfl; have hfz11_0 := blk_frozen BK308.out 0; have hfz11_1 := blk_frozen BK308.out 1; have hfz11_2 := blk_frozen BK308.out 2))
  go_ret
  exact ⟨by first | rfl | (simp [errW_none, errW_some] <;> rfl) | (simp [*, errW_none, errW_some] <;> rfl), by repeat (first | (with_reducible first | exact HB.out | apply below_alloc | apply pw_below_drewN | apply below_drew1 | refine below_set ?_ GE308.out) | exact HB.out)⟩
 rw [if_neg c7] at H
 have c7b0 : decide (30 < (l3.length : Int)) = false := decide_eq_false c7
 have c7b1 : decide (30 < l3.length) = false := decide_eq_false (by omega)
 clear c7
 replace H := Option.bind_eq_some_iff.mp H
 obtain ⟨⟨t309, t312⟩, A120, H⟩ := H
 replace H : (if t312 = 0 then (ambidextertop_TopSegments.l0 k true t309 0 t305 t306 t307) else (some true)) = some r := H
 have A12 := Aside0.mk A120
 clear A120
 by_cases c13 : t312 = 0
 case neg =>
  rw [if_neg c13] at H
  have c13b0 : (t312 == 0) = false := beq_eq_false_iff_ne.mpr c13
  have c13b1 : (t312 != 0) = true := bne_iff_ne.mpr c13
  obtain rfl := Option.some.inj H
  go_enter Try.func13, Try.ntmps13
  go_wp2_with (first | ((with_reducible refine gate_callee (f := 26) rfl ?_); refine goesL_ (some 17) rfl rfl Try.func26 (by kernel_rfl) rfl #[] rfl (by (try simp only [List.map_toArray, List.map_cons, List.map_nil]); first | done | rfl | (simp only [List.length_drop, List.length_take]; rfl)) ?_; (with_reducible refine (ambidextertop_head23.calls k  true _ A5.out).mono ?_); rintro e w70 ⟨rfl, hb⟩; refine ⟨_, rfl, ?_⟩; have n0_ := Aside0.mk (below_step (by repeat (first | (with_reducible first | exact HB.out | apply below_alloc | apply pw_below_drewN | apply below_drew1) | exact HB.out)) hb); clear HB; have HB := n0_; clear n0_; (try clear hb); (try clear hb2); (try clear hk); (try clear hi)) | ((with_reducible refine gate_callee (f := 15) rfl ?_); refine goesL_ (some 21) rfl rfl Try.func15 (by kernel_rfl) rfl #[.int .u8 a0, .int .u8 a1, .int .u8 a2] rfl (by (try simp only [List.map_toArray, List.map_cons, List.map_nil]); first | done | rfl | (simp only [List.length_drop, List.length_take]; rfl)) ?_; (with_reducible refine (ambidextertop_limR14.calls a0 a1 a2 t305 t306 t307 _ A6.out).mono ?_); rintro e w71 ⟨rfl, hb⟩; refine ⟨_, rfl, ?_⟩; have n0_ := Aside0.mk (below_step (by repeat (first | (with_reducible first | exact HB.out | apply below_alloc | apply pw_below_drewN | apply below_drew1) | exact HB.out)) hb); clear HB; have HB := n0_; clear n0_; (try clear hb); (try clear hb2); (try clear hk); (try clear hi)) | ((with_reducible refine gate_dst (N := 10) rfl ?_); refine box_event ?hg (N := 10) ?hd (cs := #[.int .i64 0, .int .i64 0, .int .i64 0]) (t := 25) ?hr ?_; (case hd => rfl); (case hg => rfl); (case hr => first | (go_simp; done) | (go_simp; rfl)); intro gb308 hg w72 hbox hb; have n0_ := Aside0.mk (below_step (by repeat (first | (with_reducible first | exact HB.out | apply below_alloc | apply pw_below_drewN | apply below_drew1) | exact HB.out)) hb); have n1_ := Aside0.mk (hbox); have n2_ := Aside0.mk ((by rw [hg]; exact (below_size (by repeat (first | (with_reducible first | exact HB.out | apply below_alloc | apply pw_below_drewN | apply below_drew1) | exact HB.out))) : w.heap.size ≤ gb308)); have n3_ := Aside0.mk ((by rw [hg]; exact (below_size (by repeat (first | (with_reducible first | exact HB.out | apply below_alloc | apply pw_below_drewN | apply below_drew1) | exact HB.out))) : w.heap.size ≤ gb308)); clear HB; have HB := n0_; have BK308 := n1_; have GW308 := n2_; have GE308 := n3_; clear n0_ n1_ n2_ n3_; clear hb hbox hg; have hcz73_0 : w72.cell? ⟨gb308, 0, none⟩ = some (.int .i64 0) := (blk_cell BK308.out 0).trans rfl; have hcz73_1 : w72.cell? ⟨gb308, 1, none⟩ = some (.int .i64 0) := (blk_cell BK308.out 1).trans rfl; have hcz73_2 : w72.cell? ⟨gb308, 2, none⟩ = some (.int .i64 0) := (blk_cell BK308.out 2).trans rfl; have hfz73_0 := blk_frozen BK308.out 0; have hfz73_1 := blk_frozen BK308.out 1; have hfz73_2 := blk_frozen BK308.out 2) | ((with_reducible refine gate_callee (f := 27) rfl ?_); refine goesL_ (some 29) rfl rfl Try.func27 (by kernel_rfl) rfl #[.agg #[.int .i64 t305, .int .i64 t306, .int .i64 t307], .slice A3 l3.length c3] rfl (by (try simp only [List.map_toArray, List.map_cons, List.map_nil]); first | done | rfl | (simp only [List.length_drop, List.length_take]; rfl)) ?_; (with_reducible refine (timetable_Sequential.calls k t305 t306 t307 _ _ l3 t309 t312 _ ?side1 ?side2 A12.out).mono ?_); (case side1 => exact Kd.C_below HR3.out (by repeat (first | (with_reducible first | exact HB.out | apply below_alloc | apply pw_below_drewN | apply below_drew1 | refine below_set ?_ GE308.out) | exact HB.out))); (case side2 => exact HC3.out); rintro e w74 ⟨v310, rfl, ho0, hb⟩; refine ⟨_, rfl, ?_⟩; have n0_ := Aside0.mk (Kd.S_lower ho0 (below_size (by repeat (first | (with_reducible first | exact HB.out | apply below_alloc | apply pw_below_drewN | apply below_drew1 | refine below_set ?_ GE308.out) | exact HB.out)))); have n1_ := Aside0.mk (blk_below (g := gb308) (o := .cells #[.int .i64 t305, .int .i64 t306, .int .i64 t307] 25 (0, 0)) (by (with_reducible repeat (first | refine blk_drewN ?_ _ | refine blk_drew ?_ | refine blk_alloc ?_ _)); refine blk_put (cs := #[.int .i64 t305, .int .i64 t306, .int .i64 0]) ?_ 2 _ rfl; (with_reducible repeat (first | refine blk_drewN ?_ _ | refine blk_drew ?_ | refine blk_alloc ?_ _)); refine blk_put (cs := #[.int .i64 t305, .int .i64 0, .int .i64 0]) ?_ 1 _ rfl; (with_reducible repeat (first | refine blk_drewN ?_ _ | refine blk_drew ?_ | refine blk_alloc ?_ _)); refine blk_put (cs := #[.int .i64 0, .int .i64 0, .int .i64 0]) ?_ 0 _ rfl; (with_reducible repeat (first | refine blk_drewN ?_ _ | refine blk_drew ?_ | refine blk_alloc ?_ _)); exact BK308.out) hb); have n2_ := Aside0.mk (below_step (by repeat (first | (with_reducible first | exact HB.out | apply below_alloc | apply pw_below_drewN | apply below_drew1 | refine below_set ?_ GE308.out) | exact HB.out)) hb); clear BK308; clear HB; have HO311 := n0_; have BK308 := n1_; have HB := n2_; clear n0_ n1_ n2_; (try clear hb); (try clear hb2); (try clear hk); (try clear hi); (try clear ho0)))
  go_ret
  exact ⟨by first | rfl | (simp [errW_none, errW_some] <;> rfl) | (simp [*, errW_none, errW_some] <;> rfl), by repeat (first | (with_reducible first | exact HB.out | apply below_alloc | apply pw_below_drewN | apply below_drew1 | refine below_set ?_ GE308.out) | exact HB.out)⟩

 rw [if_pos c13] at H
 have c13b0 : (t312 == 0) = true := beq_iff_eq.mpr c13
 have c13b1 : (t312 != 0) = false := bne_eq_false_iff_eq.mpr c13
 clear c13
 have H' := Aside0.mk H
 clear H
 go_enter Try.func13, Try.ntmps13
 go_wp2_with (first | ((with_reducible refine gate_callee (f := 26) rfl ?_); refine goesL_ (some 17) rfl rfl Try.func26 (by kernel_rfl) rfl #[] rfl (by (try simp only [List.map_toArray, List.map_cons, List.map_nil]); first | done | rfl | (simp only [List.length_drop, List.length_take]; rfl)) ?_; (with_reducible refine (ambidextertop_head23.calls k  true _ A5.out).mono ?_); rintro e w14 ⟨rfl, hb⟩; refine ⟨_, rfl, ?_⟩; have n0_ := Aside0.mk (below_step (by repeat (first | (with_reducible first | exact HB.out | apply below_alloc | apply pw_below_drewN | apply below_drew1) | exact HB.out)) hb); clear HB; have HB := n0_; clear n0_; (try clear hb); (try clear hb2); (try clear hk); (try clear hi)) | ((with_reducible refine gate_callee (f := 15) rfl ?_); refine goesL_ (some 21) rfl rfl Try.func15 (by kernel_rfl) rfl #[.int .u8 a0, .int .u8 a1, .int .u8 a2] rfl (by (try simp only [List.map_toArray, List.map_cons, List.map_nil]); first | done | rfl | (simp only [List.length_drop, List.length_take]; rfl)) ?_; (with_reducible refine (ambidextertop_limR14.calls a0 a1 a2 t305 t306 t307 _ A6.out).mono ?_); rintro e w15 ⟨rfl, hb⟩; refine ⟨_, rfl, ?_⟩; have n0_ := Aside0.mk (below_step (by repeat (first | (with_reducible first | exact HB.out | apply below_alloc | apply pw_below_drewN | apply below_drew1) | exact HB.out)) hb); clear HB; have HB := n0_; clear n0_; (try clear hb); (try clear hb2); (try clear hk); (try clear hi)) | ((with_reducible refine gate_dst (N := 10) rfl ?_); refine box_event ?hg (N := 10) ?hd (cs := #[.int .i64 0, .int .i64 0, .int .i64 0]) (t := 25) ?hr ?_; (case hd => rfl); (case hg => rfl); (case hr => first | (go_simp; done) | (go_simp; rfl)); intro gb308 hg w16 hbox hb; have n0_ := Aside0.mk (below_step (by repeat (first | (with_reducible first | exact HB.out | apply below_alloc | apply pw_below_drewN | apply below_drew1) | exact HB.out)) hb); have n1_ := Aside0.mk (hbox); have n2_ := Aside0.mk ((by rw [hg]; exact (below_size (by repeat (first | (with_reducible first | exact HB.out | apply below_alloc | apply pw_below_drewN | apply below_drew1) | exact HB.out))) : w.heap.size ≤ gb308)); have n3_ := Aside0.mk ((by rw [hg]; exact (below_size (by repeat (first | (with_reducible first | exact HB.out | apply below_alloc | apply pw_below_drewN | apply below_drew1) | exact HB.out))) : w.heap.size ≤ gb308)); clear HB; have HB := n0_; have BK308 := n1_; have GW308 := n2_; have GE308 := n3_; clear n0_ n1_ n2_ n3_; clear hb hbox hg; have hcz17_0 : w16.cell? ⟨gb308, 0, none⟩ = some (.int .i64 0) := (blk_cell BK308.out 0).trans rfl; have hcz17_1 : w16.cell? ⟨gb308, 1, none⟩ = some (.int .i64 0) := (blk_cell BK308.out 1).trans rfl; have hcz17_2 : w16.cell? ⟨gb308, 2, none⟩ = some (.int .i64 0) := (blk_cell BK308.out 2).trans rfl; have hfz17_0 := blk_frozen BK308.out 0; have hfz17_1 := blk_frozen BK308.out 1; have hfz17_2 := blk_frozen BK308.out 2) | ((with_reducible refine gate_callee (f := 27) rfl ?_); refine goesL_ (some 29) rfl rfl Try.func27 (by kernel_rfl) rfl #[.agg #[.int .i64 t305, .int .i64 t306, .int .i64 t307], .slice A3 l3.length c3] rfl (by (try simp only [List.map_toArray, List.map_cons, List.map_nil]); first | done | rfl | (simp only [List.length_drop, List.length_take]; rfl)) ?_; (with_reducible refine (timetable_Sequential.calls k t305 t306 t307 _ _ l3 t309 t312 _ ?side1 ?side2 A12.out).mono ?_); (case side1 => exact Kd.C_below HR3.out (by repeat (first | (with_reducible first | exact HB.out | apply below_alloc | apply pw_below_drewN | apply below_drew1 | refine below_set ?_ GE308.out) | exact HB.out))); (case side2 => exact HC3.out); rintro e w18 ⟨v310, rfl, ho0, hb⟩; refine ⟨_, rfl, ?_⟩; have n0_ := Aside0.mk (Kd.S_lower ho0 (below_size (by repeat (first | (with_reducible first | exact HB.out | apply below_alloc | apply pw_below_drewN | apply below_drew1 | refine below_set ?_ GE308.out) | exact HB.out)))); have n1_ := Aside0.mk (blk_below (g := gb308) (o := .cells #[.int .i64 t305, .int .i64 t306, .int .i64 t307] 25 (0, 0)) (by (with_reducible repeat (first | refine blk_drewN ?_ _ | refine blk_drew ?_ | refine blk_alloc ?_ _)); refine blk_put (cs := #[.int .i64 t305, .int .i64 t306, .int .i64 0]) ?_ 2 _ rfl; (with_reducible repeat (first | refine blk_drewN ?_ _ | refine blk_drew ?_ | refine blk_alloc ?_ _)); refine blk_put (cs := #[.int .i64 t305, .int .i64 0, .int .i64 0]) ?_ 1 _ rfl; (with_reducible repeat (first | refine blk_drewN ?_ _ | refine blk_drew ?_ | refine blk_alloc ?_ _)); refine blk_put (cs := #[.int .i64 0, .int .i64 0, .int .i64 0]) ?_ 0 _ rfl; (with_reducible repeat (first | refine blk_drewN ?_ _ | refine blk_drew ?_ | refine blk_alloc ?_ _)); exact BK308.out) hb); have n2_ := Aside0.mk (below_step (by repeat (first | (with_reducible first | exact HB.out | apply below_alloc | apply pw_below_drewN | apply below_drew1 | refine below_set ?_ GE308.out) | exact HB.out)) hb); clear BK308; clear HB; have HO311 := n0_; have BK308 := n1_; have HB := n2_; clear n0_ n1_ n2_; (try clear hb); (try clear hb2); (try clear hk); (try clear hi); (try clear ho0)))
 go_loopg [13] k (fun kq v13 w' => ∃ (x13_1 : Int), v13 = .int .i64 x13_1 ∧ Aside0 (ambidextertop_TopSegments.l0 kq true t309 x13_1 t305 t306 t307 = some r) ∧ Aside0 (kq ≤ k) ∧ Aside0 (Kd.S k67 67 w' w.heap.size (fun _ => True) v310 t309) ∧ Aside0 (w'.heap[gb308]? = some (.cells #[.int .i64 t305, .int .i64 t306, .int .i64 t307] 25 (0, 0))) ∧ Aside0 (Below w.heap.size w w'))
 case atStart => exact ⟨(0), (by first | rfl | (simp; done) | (simp [*]; done)), H', ⟨Nat.le_refl _⟩, ⟨by (with_reducible repeat (first | apply Kd.S_alloc | apply Kd.S_drewN | apply Kd.S_drew)); exact HO311.out⟩, ⟨by (with_reducible repeat (first | refine blk_drewN ?_ _ | refine blk_drew ?_ | refine blk_alloc ?_ _)); exact BK308.out⟩, ⟨by repeat (first | (with_reducible first | exact HB.out | apply below_alloc | apply pw_below_drewN | apply below_drew1 | refine below_set ?_ GE308.out) | exact HB.out)⟩⟩
 case round =>
  clear H'
  (try clear c1); (try clear c2); (try clear p2); (try clear c3); (try clear c7); (try clear c7b0); (try clear c7b1); (try clear c13); (try clear c13b0); (try clear c13b1); (try clear c15); (try clear hcz11_0); (try clear hcz11_1); (try clear hcz11_2); (try clear hcz17_0); (try clear hcz17_1); (try clear hcz17_2); (try clear hfz11_0); (try clear hfz11_1); (try clear hfz11_2); (try clear hfz17_0); (try clear hfz17_1)
  try clear hfz17_2
  obtain ⟨x13_1, rfl, HA, HK1, HO_11, BK308, HB⟩ := hrel
  cases gk with
  | zero => exact absurd HA.out (by simp [ambidextertop_TopSegments.l0])
  | succ k1 =>
   have H := HA.out
   clear HA
   simp only [ambidextertop_TopSegments.l0] at H
   by_cases c19 : x13_1 < (t309.length : Int)
   case neg =>
    rw [if_neg c19] at H
    have c19b0 : decide (x13_1 < (t309.length : Int)) = false := decide_eq_false c19
    clear c19
    obtain rfl := Option.some.inj H
    obtain ⟨Ao69, co69, eo69⟩ := Kd.S_slice HO_11.out
    subst eo69
    go_wp2
    go_ret
    exact ⟨by first | rfl | (simp [errW_none, errW_some] <;> rfl) | (simp [*, errW_none, errW_some] <;> rfl), by repeat (first | (with_reducible first | exact HB.out | apply below_alloc | apply pw_below_drewN | apply below_drew1 | refine below_set ?_ GE308.out) | exact HB.out)⟩
   rw [if_pos c19] at H
   have c19b0 : decide (x13_1 < (t309.length : Int)) = true := decide_eq_true c19
   clear c19
   by_cases c20 : 0 ≤ x13_1
   case neg =>
    rw [if_neg c20] at H
    exact absurd H (by simp)
   rw [if_pos c20] at H
   have c20b0 : decide (0 ≤ x13_1) = true := decide_eq_true c20
   clear c20
   replace H := Option.bind_eq_some_iff.mp H
   obtain ⟨⟨t314, t315, t316, t317, t318, t319⟩, A210, H⟩ := H
   replace H : ((timetable_PositionsAt.f 0 0 0 0 0 0 t309 (wrap64 (((rd_T67 t309 x13_1).f1) + (((rd_T67 t309 x13_1).f2).length : Int)))).bind fun bt323 => (ambidextertop_TopSegments.l1 k1 true t309 x13_1 0 t305 t306 t307 t314 t315 t316 t317 t318 t319 bt323.1 bt323.2.1 bt323.2.2.1 bt323.2.2.2.1 bt323.2.2.2.2.1 bt323.2.2.2.2.2)) = some r := H
   have A21 := Aside0.mk A210
   clear A210
   replace H := Option.bind_eq_some_iff.mp H
   obtain ⟨⟨t323, t324, t325, t326, t327, t328⟩, A220, H⟩ := H
   replace H : (ambidextertop_TopSegments.l1 k1 true t309 x13_1 0 t305 t306 t307 t314 t315 t316 t317 t318 t319 t323 t324 t325 t326 t327 t328) = some r := H
   have A22 := Aside0.mk A220
   clear A220
   have H' := Aside0.mk H
   clear H
   obtain ⟨Ao23, co23, eo23⟩ := Kd.S_slice HO_11.out
   subst eo23
   have p313 : 0 ≤ (x13_1 : Int) := of_decide_eq_true (by first | (with_reducible assumption) | assumption)
   have q313 : x13_1 < (t309.length : Int) := of_decide_eq_true (by first | (with_reducible assumption) | assumption)
   obtain ⟨ad313, A313_5, c313_5, e313, hx313_0, hx313_1, hx313_2, hx313_3, hx313_4, hx313_5, hl313_5, hi313_5⟩ := at_T67 (Kd.S_reads' HO_11.out).2.2 x13_1 p313 q313
   cases e313
   obtain ⟨ce313, hce313, hMe313, hcc313⟩ := Kd.S_get HO_11.out z67 x13_1 p313 (by first | exact q313 | exact of_decide_eq_true (by first | (with_reducible assumption) | assumption) | (have e_ := (Kd.S_reads' HO_11.out).1; omega))
   obtain ⟨ve313_5, rfl, ge313_5⟩ := k67_openM hMe313
   have hv313_5 := hcc313 5 _ rfl
   rw [add_field _ _ 5 (by omega)] at hv313_5
   replace hv313_5 := Option.some.inj (hv313_5.symm.trans hx313_5)
   rw [hv313_5] at ge313_5
   have HL313_5 := Aside0.mk (show Kd.R (Kd.int .i64) 3 _ _ _ _ ((rd_T67 t309 x13_1).f2) from ge313_5)
   clear hv313_5 ge313_5
   clear hcc313 hce313
   have HR313_5 := Aside0.mk hi313_5
   have HC313_5 := Aside0.mk hl313_5
   clear hi313_5 hl313_5
   replace p313 := eq_true p313
   replace q313 := eq_true q313
   try go_wp2_with (first | ((with_reducible refine gate_callee (f := 30) rfl ?_); refine goesL_ (some 48) rfl rfl Try.func30 (by kernel_rfl) rfl #[.agg #[.int .i64 0, .int .i64 0, .int .i64 0, .int .i64 0, .int .i64 0, .int .i64 0], .slice (some ad313) t309.length co23, .int .i64 ((rd_T67 t309 x13_1).f1)] rfl (by (try simp only [List.map_toArray, List.map_cons, List.map_nil]); first | done | rfl | (simp only [List.length_drop, List.length_take]; rfl)) ?_; (with_reducible refine (timetable_PositionsAt.calls 0 0 0 0 0 0 _ _ t309 ((rd_T67 t309 x13_1).f1) t314 t315 t316 t317 t318 t319 _ ?side1 ?side2 A21.out).mono ?_); (case side1 => repeat (first | exact (Kd.S_reads' HO_11.out).2.2 | (with_reducible refine Kd.C_alloc ?_ _) | (with_reducible refine Kd.C_drewN ?_ _) | (with_reducible refine Kd.C_drew ?_))); (case side2 => exact (Kd.S_reads' HO_11.out).2.1); rintro e w24 ⟨rfl, hb⟩; refine ⟨_, rfl, ?_⟩; have n0_ := Aside0.mk (Kd.S_below (by (with_reducible repeat (first | apply Kd.S_alloc | apply Kd.S_drewN | apply Kd.S_drew)); exact HO_11.out) hb); have n1_ := Aside0.mk (Kd.R_below (by (with_reducible repeat (first | apply Kd.R_alloc | apply Kd.R_drewN | apply Kd.R_drew)); exact HL313_5.out) hb); have n2_ := Aside0.mk (blk_below (g := gb308) (o := .cells #[.int .i64 t305, .int .i64 t306, .int .i64 t307] 25 (0, 0)) (by (with_reducible repeat (first | refine blk_drewN ?_ _ | refine blk_drew ?_ | refine blk_alloc ?_ _)); exact BK308.out) hb); have n3_ := Aside0.mk (Kd.C_below (by repeat (first | (with_reducible exact HR313_5.out) | (with_reducible refine Kd.C_alloc ?_ _) | (with_reducible refine Kd.C_drewN ?_ _) | (with_reducible refine Kd.C_drew ?_) | exact HR313_5.out)) hb); have n4_ := Aside0.mk (below_step (by repeat (first | (with_reducible first | exact HB.out | apply below_alloc | apply pw_below_drewN | apply below_drew1 | refine below_set ?_ GE308.out) | exact HB.out)) hb); clear HO_11; clear HL313_5; clear BK308; clear HR313_5; clear HB; have HO_11 := n0_; have HL313_5 := n1_; have BK308 := n2_; have HR313_5 := n3_; have HB := n4_; clear n0_ n1_ n2_ n3_ n4_; (try clear hb); (try clear hb2); (try clear hk); (try clear hi)) | ((with_reducible refine gate_dst (N := 14) rfl ?_); refine box_event ?hg (N := 14) ?hd (cs := #[.int .i64 0, .int .i64 0, .int .i64 0, .int .i64 0, .int .i64 0, .int .i64 0]) (t := 69) ?hr ?_; (case hd => rfl); (case hg => rfl); (case hr => first | (go_simp; done) | (go_simp; rfl)); intro gb320 hg w25 hbox hb; have n0_ := Aside0.mk (Kd.S_below (by (with_reducible repeat (first | apply Kd.S_alloc | apply Kd.S_drewN | apply Kd.S_drew)); exact HO_11.out) hb); have n1_ := Aside0.mk (Kd.R_below (by (with_reducible repeat (first | apply Kd.R_alloc | apply Kd.R_drewN | apply Kd.R_drew)); exact HL313_5.out) hb); have n2_ := Aside0.mk (blk_below (g := gb308) (o := .cells #[.int .i64 t305, .int .i64 t306, .int .i64 t307] 25 (0, 0)) (by (with_reducible repeat (first | refine blk_drewN ?_ _ | refine blk_drew ?_ | refine blk_alloc ?_ _)); exact BK308.out) hb); have n3_ := Aside0.mk (Kd.C_below (by repeat (first | (with_reducible exact HR313_5.out) | (with_reducible refine Kd.C_alloc ?_ _) | (with_reducible refine Kd.C_drewN ?_ _) | (with_reducible refine Kd.C_drew ?_) | exact HR313_5.out)) hb); have n4_ := Aside0.mk (below_step (by repeat (first | (with_reducible first | exact HB.out | apply below_alloc | apply pw_below_drewN | apply below_drew1 | refine below_set ?_ GE308.out) | exact HB.out)) hb); have n5_ := Aside0.mk (hbox); have n6_ := Aside0.mk ((by rw [hg]; exact (below_size (by repeat (first | (with_reducible first | exact HB.out | apply below_alloc | apply pw_below_drewN | apply below_drew1 | refine below_set ?_ GE308.out) | exact HB.out))) : w.heap.size ≤ gb320)); have n7_ := Aside0.mk ((by rw [hg]; exact (below_size (by repeat (first | (with_reducible first | exact HB.out | apply below_alloc | apply pw_below_drewN | apply below_drew1 | refine below_set ?_ GE308.out) | exact HB.out))) : w.heap.size ≤ gb320)); have n8_ := Aside0.mk ((by rw [hg]; exact Nat.ne_of_lt (blk_lt (g := gb308) (o := .cells #[.int .i64 t305, .int .i64 t306, .int .i64 t307] 25 (0, 0)) (by (with_reducible repeat (first | refine blk_drewN ?_ _ | refine blk_drew ?_ | refine blk_alloc ?_ _)); exact BK308.out)) : gb308 ≠ gb320)); have n9_ := Aside0.mk ((by rw [hg]; exact Nat.ne_of_gt (blk_lt (g := gb308) (o := .cells #[.int .i64 t305, .int .i64 t306, .int .i64 t307] 25 (0, 0)) (by (with_reducible repeat (first | refine blk_drewN ?_ _ | refine blk_drew ?_ | refine blk_alloc ?_ _)); exact BK308.out)) : gb320 ≠ gb308)); clear HO_11; clear HL313_5; clear BK308; clear HR313_5; clear HB; have HO_11 := n0_; have HL313_5 := n1_; have BK308 := n2_; have HR313_5 := n3_; have HB := n4_; have BK320 := n5_; have GW320 := n6_; have GE320 := n7_; have NB308_320 := n8_; have NB320_308 := n9_; clear n0_ n1_ n2_ n3_ n4_ n5_ n6_ n7_ n8_ n9_; clear hb hbox hg; have hnb26 := NB320_308.out; have hnc26 := NB308_320.out; have hcz27_0 : w25.cell? ⟨gb320, 0, none⟩ = some (.int .i64 0) := (blk_cell BK320.out 0).trans rfl; have hcz27_1 : w25.cell? ⟨gb320, 1, none⟩ = some (.int .i64 0) := (blk_cell BK320.out 1).trans rfl; have hcz27_2 : w25.cell? ⟨gb320, 2, none⟩ = some (.int .i64 0) := (blk_cell BK320.out 2).trans rfl; have hcz27_3 : w25.cell? ⟨gb320, 3, none⟩ = some (.int .i64 0) := (blk_cell BK320.out 3).trans rfl; have hcz27_4 : w25.cell? ⟨gb320, 4, none⟩ = some (.int .i64 0) := (blk_cell BK320.out 4).trans rfl; have hcz27_5 : w25.cell? ⟨gb320, 5, none⟩ = some (.int .i64 0) := (blk_cell BK320.out 5).trans rfl; have hfz27_0 := blk_frozen BK320.out 0; have hfz27_1 := blk_frozen BK320.out 1; have hfz27_2 := blk_frozen BK320.out 2; have hfz27_3 := blk_frozen BK320.out 3; have hfz27_4 := blk_frozen BK320.out 4; have hfz27_5 := blk_frozen BK320.out 5))
   have n0_ : Aside0 (Kd.S k67 67 ((((((w25.setCell ⟨gb320, 0, none⟩ (.int .i64 t314)).setCell ⟨gb320, 1, none⟩ (.int .i64 t315)).setCell ⟨gb320, 2, none⟩ (.int .i64 t316)).setCell ⟨gb320, 3, none⟩ (.int .i64 t317)).setCell ⟨gb320, 4, none⟩ (.int .i64 t318)).setCell ⟨gb320, 5, none⟩ (.int .i64 t319)) w.heap.size (fun _ => True) (.slice (some ad313) t309.length co23) t309) := ⟨by (with_reducible repeat (first | apply Kd.S_alloc | apply Kd.S_drewN | apply Kd.S_drew)); exact Kd.S_mono (Kd.S_far (p := ⟨gb320, 5, none⟩) (Kd.S_far (p := ⟨gb320, 4, none⟩) (Kd.S_far (p := ⟨gb320, 3, none⟩) (Kd.S_far (p := ⟨gb320, 2, none⟩) (Kd.S_far (p := ⟨gb320, 1, none⟩) (Kd.S_far (p := ⟨gb320, 0, none⟩) (Kd.S_types HO_11.out BK320.out (by decide)) (fun _ hk => hk.2) (.int .i64 t314)) (fun _ hk => hk.2) (.int .i64 t315)) (fun _ hk => hk.2) (.int .i64 t316)) (fun _ hk => hk.2) (.int .i64 t317)) (fun _ hk => hk.2) (.int .i64 t318)) (fun _ hk => hk.2) (.int .i64 t319)) (fun _ hk => trivial)⟩
   have n1_ : Aside0 (Kd.R (Kd.int .i64) 3 ((((((w25.setCell ⟨gb320, 0, none⟩ (.int .i64 t314)).setCell ⟨gb320, 1, none⟩ (.int .i64 t315)).setCell ⟨gb320, 2, none⟩ (.int .i64 t316)).setCell ⟨gb320, 3, none⟩ (.int .i64 t317)).setCell ⟨gb320, 4, none⟩ (.int .i64 t318)).setCell ⟨gb320, 5, none⟩ (.int .i64 t319)) w.heap.size (fun k_ => some k_ ≠ (.slice (some ad313) t309.length co23 : Value).ownBlock) (.slice A313_5 ((rd_T67 t309 x13_1).f2).length c313_5) ((rd_T67 t309 x13_1).f2)) := ⟨by (with_reducible repeat (first | apply Kd.R_alloc | apply Kd.R_drewN | apply Kd.R_drew)); exact Kd.R_mono (Kd.R_far (p := ⟨gb320, 5, none⟩) (Kd.R_far (p := ⟨gb320, 4, none⟩) (Kd.R_far (p := ⟨gb320, 3, none⟩) (Kd.R_far (p := ⟨gb320, 2, none⟩) (Kd.R_far (p := ⟨gb320, 1, none⟩) (Kd.R_far (p := ⟨gb320, 0, none⟩) (Kd.R_types HL313_5.out BK320.out (by decide)) (fun _ hk => hk.2) (.int .i64 t314)) (fun _ hk => hk.2) (.int .i64 t315)) (fun _ hk => hk.2) (.int .i64 t316)) (fun _ hk => hk.2) (.int .i64 t317)) (fun _ hk => hk.2) (.int .i64 t318)) (fun _ hk => hk.2) (.int .i64 t319)) (fun _ hk => hk.1.2)⟩
   have n2_ : Aside0 (((((((w25.setCell ⟨gb320, 0, none⟩ (.int .i64 t314)).setCell ⟨gb320, 1, none⟩ (.int .i64 t315)).setCell ⟨gb320, 2, none⟩ (.int .i64 t316)).setCell ⟨gb320, 3, none⟩ (.int .i64 t317)).setCell ⟨gb320, 4, none⟩ (.int .i64 t318)).setCell ⟨gb320, 5, none⟩ (.int .i64 t319)).heap[gb308]? = some (.cells #[.int .i64 t305, .int .i64 t306, .int .i64 t307] 25 (0, 0))) := ⟨by (with_reducible repeat (first | refine blk_drewN ?_ _ | refine blk_drew ?_ | refine blk_alloc ?_ _)); refine blk_far ?_ NB308_320.out _; (with_reducible repeat (first | refine blk_drewN ?_ _ | refine blk_drew ?_ | refine blk_alloc ?_ _)); refine blk_far ?_ NB308_320.out _; (with_reducible repeat (first | refine blk_drewN ?_ _ | refine blk_drew ?_ | refine blk_alloc ?_ _)); refine blk_far ?_ NB308_320.out _; (with_reducible repeat (first | refine blk_drewN ?_ _ | refine blk_drew ?_ | refine blk_alloc ?_ _)); refine blk_far ?_ NB308_320.out _; (with_reducible repeat (first | refine blk_drewN ?_ _ | refine blk_drew ?_ | refine blk_alloc ?_ _)); refine blk_far ?_ NB308_320.out _; (with_reducible repeat (first | refine blk_drewN ?_ _ | refine blk_drew ?_ | refine blk_alloc ?_ _)); refine blk_far ?_ NB308_320.out _; (with_reducible repeat (first | refine blk_drewN ?_ _ | refine blk_drew ?_ | refine blk_alloc ?_ _)); exact BK308.out⟩
   have n3_ : Aside0 (((((((w25.setCell ⟨gb320, 0, none⟩ (.int .i64 t314)).setCell ⟨gb320, 1, none⟩ (.int .i64 t315)).setCell ⟨gb320, 2, none⟩ (.int .i64 t316)).setCell ⟨gb320, 3, none⟩ (.int .i64 t317)).setCell ⟨gb320, 4, none⟩ (.int .i64 t318)).setCell ⟨gb320, 5, none⟩ (.int .i64 t319)).heap[gb320]? = some (.cells #[.int .i64 t314, .int .i64 t315, .int .i64 t316, .int .i64 t317, .int .i64 t318, .int .i64 t319] 69 (0, 0))) := ⟨by (with_reducible repeat (first | refine blk_drewN ?_ _ | refine blk_drew ?_ | refine blk_alloc ?_ _)); refine blk_put (cs := #[.int .i64 t314, .int .i64 t315, .int .i64 t316, .int .i64 t317, .int .i64 t318, .int .i64 0]) ?_ 5 _ rfl; (with_reducible repeat (first | refine blk_drewN ?_ _ | refine blk_drew ?_ | refine blk_alloc ?_ _)); refine blk_put (cs := #[.int .i64 t314, .int .i64 t315, .int .i64 t316, .int .i64 t317, .int .i64 0, .int .i64 0]) ?_ 4 _ rfl; (with_reducible repeat (first | refine blk_drewN ?_ _ | refine blk_drew ?_ | refine blk_alloc ?_ _)); refine blk_put (cs := #[.int .i64 t314, .int .i64 t315, .int .i64 t316, .int .i64 0, .int .i64 0, .int .i64 0]) ?_ 3 _ rfl; (with_reducible repeat (first | refine blk_drewN ?_ _ | refine blk_drew ?_ | refine blk_alloc ?_ _)); refine blk_put (cs := #[.int .i64 t314, .int .i64 t315, .int .i64 0, .int .i64 0, .int .i64 0, .int .i64 0]) ?_ 2 _ rfl; (with_reducible repeat (first | refine blk_drewN ?_ _ | refine blk_drew ?_ | refine blk_alloc ?_ _)); refine blk_put (cs := #[.int .i64 t314, .int .i64 0, .int .i64 0, .int .i64 0, .int .i64 0, .int .i64 0]) ?_ 1 _ rfl; (with_reducible repeat (first | refine blk_drewN ?_ _ | refine blk_drew ?_ | refine blk_alloc ?_ _)); refine blk_put (cs := #[.int .i64 0, .int .i64 0, .int .i64 0, .int .i64 0, .int .i64 0, .int .i64 0]) ?_ 0 _ rfl; (with_reducible repeat (first | refine blk_drewN ?_ _ | refine blk_drew ?_ | refine blk_alloc ?_ _)); exact BK320.out⟩
   have n4_ : Aside0 (Below w.heap.size w ((((((w25.setCell ⟨gb320, 0, none⟩ (.int .i64 t314)).setCell ⟨gb320, 1, none⟩ (.int .i64 t315)).setCell ⟨gb320, 2, none⟩ (.int .i64 t316)).setCell ⟨gb320, 3, none⟩ (.int .i64 t317)).setCell ⟨gb320, 4, none⟩ (.int .i64 t318)).setCell ⟨gb320, 5, none⟩ (.int .i64 t319))) := ⟨by repeat (first | (with_reducible first | exact HB.out | apply below_alloc | apply pw_below_drewN | apply below_drew1 | refine below_set ?_ GE308.out | refine below_set ?_ GE320.out) | exact HB.out)⟩
   (try clear HO_11)
   (try clear HL313_5)
   (try clear BK308)
   (try clear BK320)
   (try clear HB)
   generalize ((((((w25.setCell ⟨gb320, 0, none⟩ (.int .i64 t314)).setCell ⟨gb320, 1, none⟩ (.int .i64 t315)).setCell ⟨gb320, 2, none⟩ (.int .i64 t316)).setCell ⟨gb320, 3, none⟩ (.int .i64 t317)).setCell ⟨gb320, 4, none⟩ (.int .i64 t318)).setCell ⟨gb320, 5, none⟩ (.int .i64 t319)) = w28 at n0_ n1_ n2_ n3_ n4_ ⊢
   have HO_11 := n0_
   have HL313_5 := n1_
   have BK308 := n2_
   have BK320 := n3_
   have HB := n4_
   clear n0_ n1_ n2_ n3_ n4_
   have n0_ := Aside0.mk (Kd.S_drew HO_11.out)
   have n1_ := Aside0.mk (Kd.R_drew HL313_5.out)
   have n2_ := Aside0.mk (blk_drew BK308.out)
   have n3_ := Aside0.mk (blk_drew BK320.out)
   have n4_ := Aside0.mk (below_drew1 HB.out)
   clear HO_11
   clear HL313_5
   clear BK308
   clear BK320
   clear HB
   have HO_11 := n0_
   have HL313_5 := n1_
   have BK308 := n2_
   have BK320 := n3_
   have HB := n4_
   clear n0_ n1_ n2_ n3_ n4_
   have p321 : 0 ≤ (x13_1 : Int) := of_decide_eq_true (by first | (with_reducible assumption) | assumption)
   have q321 : x13_1 < (t309.length : Int) := of_decide_eq_true (by first | (with_reducible assumption) | assumption)
   obtain ⟨ad321, A321_5, c321_5, e321, hx321_0, hx321_1, hx321_2, hx321_3, hx321_4, hx321_5, hl321_5, hi321_5⟩ := at_T67 (Kd.S_reads' HO_11.out).2.2 x13_1 p321 q321
   obtain rfl : ad313 = ad321 := (by injection e321)
   obtain ⟨ce321, hce321, hMe321, hcc321⟩ := Kd.S_get HO_11.out z67 x13_1 p321 (by first | exact q321 | exact of_decide_eq_true (by first | (with_reducible assumption) | assumption) | (have e_ := (Kd.S_reads' HO_11.out).1; omega))
   obtain ⟨ve321_5, rfl, ge321_5⟩ := k67_openM hMe321
   have hv321_5 := hcc321 5 _ rfl
   rw [add_field _ _ 5 (by omega)] at hv321_5
   replace hv321_5 := Option.some.inj (hv321_5.symm.trans hx321_5)
   rw [hv321_5] at ge321_5
   have HL321_5 := Aside0.mk (show Kd.R (Kd.int .i64) 3 _ _ _ _ ((rd_T67 t309 x13_1).f2) from ge321_5)
   clear hv321_5 ge321_5
   clear hcc321 hce321
   have HR321_5 := Aside0.mk hi321_5
   have HC321_5 := Aside0.mk hl321_5
   clear hi321_5 hl321_5
   replace p321 := eq_true p321
   replace q321 := eq_true q321
   have p322 : 0 ≤ (x13_1 : Int) := of_decide_eq_true (by first | (with_reducible assumption) | assumption)
   have q322 : x13_1 < (t309.length : Int) := of_decide_eq_true (by first | (with_reducible assumption) | assumption)
   obtain ⟨ad322, A322_5, c322_5, e322, hx322_0, hx322_1, hx322_2, hx322_3, hx322_4, hx322_5, hl322_5, hi322_5⟩ := at_T67 (Kd.S_reads' HO_11.out).2.2 x13_1 p322 q322
   obtain rfl : ad313 = ad322 := (by injection e322)
   obtain ⟨ce322, hce322, hMe322, hcc322⟩ := Kd.S_get HO_11.out z67 x13_1 p322 (by first | exact q322 | exact of_decide_eq_true (by first | (with_reducible assumption) | assumption) | (have e_ := (Kd.S_reads' HO_11.out).1; omega))
   obtain ⟨ve322_5, rfl, ge322_5⟩ := k67_openM hMe322
   have hv322_5 := hcc322 5 _ rfl
   rw [add_field _ _ 5 (by omega)] at hv322_5
   replace hv322_5 := Option.some.inj (hv322_5.symm.trans hx322_5)
   rw [hv322_5] at ge322_5
   have HL322_5 := Aside0.mk (show Kd.R (Kd.int .i64) 3 _ _ _ _ ((rd_T67 t309 x13_1).f2) from ge322_5)
   clear hv322_5 ge322_5
   clear hcc322 hce322
   have HR322_5 := Aside0.mk hi322_5
   have HC322_5 := Aside0.mk hl322_5
   clear hi322_5 hl322_5
   replace p322 := eq_true p322
   replace q322 := eq_true q322
   have ea_ := Option.some.inj (hx321_5.symm.trans hx322_5)
   injection ea_ with ea_ en_ ec_
   subst ea_
   subst ec_
   clear en_
   refine start_ (n := 17) (S := fun w' => w'.cell? (ad313.add ((x13_1).toNat * 6)) = some (.int .i64 ((rd_T67 t309 x13_1).f0.f0.f0)) ∧ w'.cell? ⟨(ad313.add ((x13_1).toNat * 6)).block, (ad313.add ((x13_1).toNat * 6)).off + 1, none⟩ = some (.int .i64 ((rd_T67 t309 x13_1).f0.f0.f1)) ∧ w'.cell? ⟨(ad313.add ((x13_1).toNat * 6)).block, (ad313.add ((x13_1).toNat * 6)).off + 2, none⟩ = some (.int .i64 ((rd_T67 t309 x13_1).f0.f0.f2)) ∧ w'.cell? ⟨(ad313.add ((x13_1).toNat * 6)).block, (ad313.add ((x13_1).toNat * 6)).off + 3, none⟩ = some (.int .i64 ((rd_T67 t309 x13_1).f0.f1)) ∧ w'.cell? ⟨(ad313.add ((x13_1).toNat * 6)).block, (ad313.add ((x13_1).toNat * 6)).off + 4, none⟩ = some (.int .i64 ((rd_T67 t309 x13_1).f1)) ∧ w'.cell? ⟨(ad313.add ((x13_1).toNat * 6)).block, (ad313.add ((x13_1).toNat * 6)).off + 5, none⟩ = some (.slice A321_5 ((rd_T67 t309 x13_1).f2).length c321_5) ∧ w'.cell? (ad313.add ((x13_1).toNat * 6)) = some (.int .i64 ((rd_T67 t309 x13_1).f0.f0.f0)) ∧ w'.cell? ⟨(ad313.add ((x13_1).toNat * 6)).block, (ad313.add ((x13_1).toNat * 6)).off + 1, none⟩ = some (.int .i64 ((rd_T67 t309 x13_1).f0.f0.f1)) ∧ w'.cell? ⟨(ad313.add ((x13_1).toNat * 6)).block, (ad313.add ((x13_1).toNat * 6)).off + 2, none⟩ = some (.int .i64 ((rd_T67 t309 x13_1).f0.f0.f2)) ∧ w'.cell? ⟨(ad313.add ((x13_1).toNat * 6)).block, (ad313.add ((x13_1).toNat * 6)).off + 3, none⟩ = some (.int .i64 ((rd_T67 t309 x13_1).f0.f1)) ∧ w'.cell? ⟨(ad313.add ((x13_1).toNat * 6)).block, (ad313.add ((x13_1).toNat * 6)).off + 4, none⟩ = some (.int .i64 ((rd_T67 t309 x13_1).f1)) ∧ w'.cell? ⟨(ad313.add ((x13_1).toNat * 6)).block, (ad313.add ((x13_1).toNat * 6)).off + 5, none⟩ = some (.slice A321_5 ((rd_T67 t309 x13_1).f2).length c321_5)) (ds := []) #[O,O,O,O,O,O,O,O,O,O,O,O,O,O,O,O,O] (by kernel_rfl) rfl rfl ⟨hx321_0, hx321_1, hx321_2, hx321_3, hx321_4, hx321_5, hx322_0, hx322_1, hx322_2, hx322_3, hx322_4, hx322_5⟩ (fun hHeld => ?_); refine with_tabW ambidextertop_TopSegments.tab12 ambidextertop_TopSegments.bits12 (fun HT_ HW_ => ?_)
   generalize w28.drew = w29 at HO_11 HL313_5 BK308 BK320 HB HL321_5 HL322_5 HR321_5 HR322_5 hx321_0 hx321_1 hx321_2 hx321_3 hx321_4 hx321_5 hx322_0 hx322_1 hx322_2 hx322_3 hx322_4 hx322_5 hHeld ⊢
   refine pq_ (i := 0) (N := some 49) #[I,O,O,O,O,O,O,O,O,O,O,O,O,O,O,O,O] HT_ ?_
   refine pq_ (i := 1) (N := some 50) #[I,I,O,O,O,O,O,O,O,O,O,O,O,O,O,O,O] HT_ ?_
   refine pq_ (i := 2) (N := some 51) #[I,I,I,O,O,O,O,O,O,O,O,O,O,O,O,O,O] HT_ ?_
   refine pq_ (i := 3) (N := some 52) #[I,I,I,I,O,O,O,O,O,O,O,O,O,O,O,O,O] HT_ ?_
   refine pq_ (i := 4) (N := some 53) #[I,I,I,I,I,O,O,O,O,O,O,O,O,O,O,O,O] HT_ ?_
   refine pq_ (i := 5) (N := some 54) #[I,I,I,I,I,I,O,O,O,O,O,O,O,O,O,O,O] HT_ ?_
   refine pq_ (i := 7) (N := some 56) #[I,I,I,I,I,I,O,I,O,O,O,O,O,O,O,O,O] HT_ ?_
   refine pq_ (i := 8) (N := some 57) #[I,I,I,I,I,I,O,I,I,O,O,O,O,O,O,O,O] HT_ ?_
   refine pq_ (i := 9) (N := some 58) #[I,I,I,I,I,I,O,I,I,I,O,O,O,O,O,O,O] HT_ ?_
   refine pq_ (i := 10) (N := some 59) #[I,I,I,I,I,I,O,I,I,I,I,O,O,O,O,O,O] HT_ ?_
   refine take_ (i := 6) (N := some 55) (v := ?_) (a' := ?_) #[I,I,I,I,I,I,I,I,I,I,I,O,O,O,O,O,O] rfl rfl (take_ofW HT_.out HW_.out (by kernel_rfl)) (fun _ _ _ h => h) (Or.inl ⟨by rfl, ?_⟩) hHeld ?_ ?_
   rotate_left; · (rintro w' ⟨s0, s1, s2, s3, s4, s5, s6, s7, s8, s9, s10, s11⟩; go_simp; with_reducible rfl)
   rotate_left; · (simp only [Act.put, List.setIfInBounds_toArray, List.set_cons_zero, List.set_cons_succ, i64_w, i32_w]; rfl)
   refine take_ (i := 11) (N := some 60) (v := ?_) (a' := ?_) #[I,I,I,I,I,I,I,I,I,I,I,I,O,O,O,O,O] rfl rfl (take_ofW HT_.out HW_.out (by kernel_rfl)) (fun _ _ _ h => h) (Or.inl ⟨by rfl, ?_⟩) hHeld ?_ ?_
   rotate_left; · (rintro w' ⟨s0, s1, s2, s3, s4, s5, s6, s7, s8, s9, s10, s11⟩; go_simp; with_reducible rfl)
   rotate_left; · (simp only [Act.put, List.setIfInBounds_toArray, List.set_cons_zero, List.set_cons_succ, i64_w, i32_w]; rfl)
   refine pq_ (i := 12) (N := some 61) #[I,I,I,I,I,I,I,I,I,I,I,I,I,O,O,O,O] HT_ ?_
   refine pq_ (i := 13) (N := some 62) #[I,I,I,I,I,I,I,I,I,I,I,I,I,I,O,O,O] HT_ ?_
   refine join_ (σ := Nat) 1 #[I,I,I,I,I,I,I,I,I,I,I,I,I,I,I,I,O] (fun s_ => [(63, .agg #[.int .i64 t323, .int .i64 t324, .int .i64 t325, .int .i64 t326, .int .i64 t327, .int .i64 t328]), (15, .pointer (some ⟨s_, 0, none⟩))]) (fun s_ w' => (w'.cell? (ad313.add ((x13_1).toNat * 6)) = some (.int .i64 ((rd_T67 t309 x13_1).f0.f0.f0)) ∧ w'.cell? ⟨(ad313.add ((x13_1).toNat * 6)).block, (ad313.add ((x13_1).toNat * 6)).off + 1, none⟩ = some (.int .i64 ((rd_T67 t309 x13_1).f0.f0.f1)) ∧ w'.cell? ⟨(ad313.add ((x13_1).toNat * 6)).block, (ad313.add ((x13_1).toNat * 6)).off + 2, none⟩ = some (.int .i64 ((rd_T67 t309 x13_1).f0.f0.f2)) ∧ w'.cell? ⟨(ad313.add ((x13_1).toNat * 6)).block, (ad313.add ((x13_1).toNat * 6)).off + 3, none⟩ = some (.int .i64 ((rd_T67 t309 x13_1).f0.f1)) ∧ w'.cell? ⟨(ad313.add ((x13_1).toNat * 6)).block, (ad313.add ((x13_1).toNat * 6)).off + 4, none⟩ = some (.int .i64 ((rd_T67 t309 x13_1).f1)) ∧ w'.cell? ⟨(ad313.add ((x13_1).toNat * 6)).block, (ad313.add ((x13_1).toNat * 6)).off + 5, none⟩ = some (.slice A321_5 ((rd_T67 t309 x13_1).f2).length c321_5) ∧ w'.cell? (ad313.add ((x13_1).toNat * 6)) = some (.int .i64 ((rd_T67 t309 x13_1).f0.f0.f0)) ∧ w'.cell? ⟨(ad313.add ((x13_1).toNat * 6)).block, (ad313.add ((x13_1).toNat * 6)).off + 1, none⟩ = some (.int .i64 ((rd_T67 t309 x13_1).f0.f0.f1)) ∧ w'.cell? ⟨(ad313.add ((x13_1).toNat * 6)).block, (ad313.add ((x13_1).toNat * 6)).off + 2, none⟩ = some (.int .i64 ((rd_T67 t309 x13_1).f0.f0.f2)) ∧ w'.cell? ⟨(ad313.add ((x13_1).toNat * 6)).block, (ad313.add ((x13_1).toNat * 6)).off + 3, none⟩ = some (.int .i64 ((rd_T67 t309 x13_1).f0.f1)) ∧ w'.cell? ⟨(ad313.add ((x13_1).toNat * 6)).block, (ad313.add ((x13_1).toNat * 6)).off + 4, none⟩ = some (.int .i64 ((rd_T67 t309 x13_1).f1)) ∧ w'.cell? ⟨(ad313.add ((x13_1).toNat * 6)).block, (ad313.add ((x13_1).toNat * 6)).off + 5, none⟩ = some (.slice A321_5 ((rd_T67 t309 x13_1).f2).length c321_5)) ∧ (Kd.R (Kd.int .i64) 3 w' w.heap.size (fun k_ => some k_ ≠ (.slice (some ad313) t309.length co23 : Value).ownBlock) (.slice A313_5 ((rd_T67 t309 x13_1).f2).length c313_5) ((rd_T67 t309 x13_1).f2)) ∧ (Kd.R (Kd.int .i64) 3 w' w.heap.size (fun k_ => some k_ ≠ (.slice (some ad313) t309.length co23 : Value).ownBlock) (.slice A321_5 ((rd_T67 t309 x13_1).f2).length c321_5) ((rd_T67 t309 x13_1).f2)) ∧ (Kd.R (Kd.int .i64) 3 w' w.heap.size (fun k_ => some k_ ≠ (.slice (some ad313) t309.length co23 : Value).ownBlock) (.slice A321_5 ((rd_T67 t309 x13_1).f2).length c321_5) ((rd_T67 t309 x13_1).f2)) ∧ (Kd.S k67 67 w' w.heap.size (fun _ => True) (.slice (some ad313) t309.length co23) t309) ∧ (w'.heap[gb308]? = some (.cells #[.int .i64 t305, .int .i64 t306, .int .i64 t307] 25 (0, 0))) ∧ (w'.heap[gb320]? = some (.cells #[.int .i64 t314, .int .i64 t315, .int .i64 t316, .int .i64 t317, .int .i64 t318, .int .i64 t319] 69 (0, 0))) ∧ (w'.heap[s_]? = some (.cells #[.int .i64 0, .int .i64 0, .int .i64 0, .int .i64 0, .int .i64 0, .int .i64 0] 69 (0, 0))) ∧ (w.heap.size ≤ s_) ∧ (w.heap.size ≤ s_) ∧ (gb308 ≠ s_) ∧ (s_ ≠ gb308) ∧ (gb320 ≠ s_) ∧ (s_ ≠ gb320) ∧ (Below w.heap.size w w')) ?_ ?_
   rotate_left
   ·
    intro hCont
    refine two_ (i := 14) (j := 15) (Ni := some 63) (Nj := some 15) #[I,I,I,I,I,I,I,I,I,I,I,I,I,I,I,O,O] #[I,I,I,I,I,I,I,I,I,I,I,I,I,I,O,I,O] rfl rfl rfl rfl (two_of HT_.out (by kernel_rfl)) (by decide) (by decide) (fun K hK => ?_) (fun K hK => ?_)
    ·
     skip
     refine goes_ Try.func30 (by kernel_rfl) rfl #[.agg #[.int .i64 0, .int .i64 0, .int .i64 0, .int .i64 0, .int .i64 0, .int .i64 0], .slice (some ad313) t309.length co23, .int .i64 (wrap64 (((rd_T67 t309 x13_1).f1) + (((rd_T67 t309 x13_1).f2).length : Int)))] (by rfl) rfl rfl (by (try simp only [List.map_toArray, List.map_cons, List.map_nil]); first | done | rfl | (simp only [List.length_drop, List.length_take]; rfl)) ?_
     with_reducible refine (timetable_PositionsAt.calls 0 0 0 0 0 0 _ _ t309 (wrap64 (((rd_T67 t309 x13_1).f1) + (((rd_T67 t309 x13_1).f2).length : Int))) t323 t324 t325 t326 t327 t328 _ ?side1 ?side2 A22.out).mono ?_
     (case side1 => repeat (first | exact (Kd.S_reads' HO_11.out).2.2 | (with_reducible refine Kd.C_alloc ?_ _) | (with_reducible refine Kd.C_drewN ?_ _) | (with_reducible refine Kd.C_drew ?_)))
     (case side2 => exact (Kd.S_reads' HO_11.out).2.1)
     rintro e w30 ⟨rfl, hb⟩
     have HS0_ := (hb.cell (World.block_lt_of_cell? _ _ (hHeld.1))).trans (hHeld.1)
     have HS1_ := (hb.cell (World.block_lt_of_cell? _ _ (hHeld.2.1))).trans (hHeld.2.1)
     have HS2_ := (hb.cell (World.block_lt_of_cell? _ _ (hHeld.2.2.1))).trans (hHeld.2.2.1)
     have HS3_ := (hb.cell (World.block_lt_of_cell? _ _ (hHeld.2.2.2.1))).trans (hHeld.2.2.2.1)
     have HS4_ := (hb.cell (World.block_lt_of_cell? _ _ (hHeld.2.2.2.2.1))).trans (hHeld.2.2.2.2.1)
     have HS5_ := (hb.cell (World.block_lt_of_cell? _ _ (hHeld.2.2.2.2.2.1))).trans (hHeld.2.2.2.2.2.1)
     have HS6_ := (hb.cell (World.block_lt_of_cell? _ _ (hHeld.2.2.2.2.2.2.1))).trans (hHeld.2.2.2.2.2.2.1)
     have HS7_ := (hb.cell (World.block_lt_of_cell? _ _ (hHeld.2.2.2.2.2.2.2.1))).trans (hHeld.2.2.2.2.2.2.2.1)
     have HS8_ := (hb.cell (World.block_lt_of_cell? _ _ (hHeld.2.2.2.2.2.2.2.2.1))).trans (hHeld.2.2.2.2.2.2.2.2.1)
     have HS9_ := (hb.cell (World.block_lt_of_cell? _ _ (hHeld.2.2.2.2.2.2.2.2.2.1))).trans (hHeld.2.2.2.2.2.2.2.2.2.1)
     have HS10_ := (hb.cell (World.block_lt_of_cell? _ _ (hHeld.2.2.2.2.2.2.2.2.2.2.1))).trans (hHeld.2.2.2.2.2.2.2.2.2.2.1)
     have HS11_ := (hb.cell (World.block_lt_of_cell? _ _ (hHeld.2.2.2.2.2.2.2.2.2.2.2))).trans (hHeld.2.2.2.2.2.2.2.2.2.2.2)
     refine ⟨_, rfl, ?_⟩
     have n0_ := Aside0.mk (Kd.S_below (by (with_reducible repeat (first | apply Kd.S_alloc | apply Kd.S_drewN | apply Kd.S_drew)); exact HO_11.out) hb)
     have n1_ := Aside0.mk (Kd.R_below (by (with_reducible repeat (first | apply Kd.R_alloc | apply Kd.R_drewN | apply Kd.R_drew)); exact HL313_5.out) hb)
     have n2_ := Aside0.mk (Kd.R_below (by (with_reducible repeat (first | apply Kd.R_alloc | apply Kd.R_drewN | apply Kd.R_drew)); exact HL321_5.out) hb)
     have n3_ := Aside0.mk (Kd.R_below (by (with_reducible repeat (first | apply Kd.R_alloc | apply Kd.R_drewN | apply Kd.R_drew)); exact HL322_5.out) hb)
     have n4_ := Aside0.mk (blk_below (g := gb308) (o := .cells #[.int .i64 t305, .int .i64 t306, .int .i64 t307] 25 (0, 0)) (by (with_reducible repeat (first | refine blk_drewN ?_ _ | refine blk_drew ?_ | refine blk_alloc ?_ _)); exact BK308.out) hb)
     have n5_ := Aside0.mk (blk_below (g := gb320) (o := .cells #[.int .i64 t314, .int .i64 t315, .int .i64 t316, .int .i64 t317, .int .i64 t318, .int .i64 t319] 69 (0, 0)) (by (with_reducible repeat (first | refine blk_drewN ?_ _ | refine blk_drew ?_ | refine blk_alloc ?_ _)); exact BK320.out) hb)
     have n6_ := Aside0.mk (Kd.C_below (by repeat (first | (with_reducible exact HR321_5.out) | (with_reducible refine Kd.C_alloc ?_ _) | (with_reducible refine Kd.C_drewN ?_ _) | (with_reducible refine Kd.C_drew ?_) | exact HR321_5.out)) hb)
     have n7_ := Aside0.mk (Kd.C_below (by repeat (first | (with_reducible exact HR322_5.out) | (with_reducible refine Kd.C_alloc ?_ _) | (with_reducible refine Kd.C_drewN ?_ _) | (with_reducible refine Kd.C_drew ?_) | exact HR322_5.out)) hb)
     have n8_ := Aside0.mk (below_step (by repeat (first | (with_reducible first | exact HB.out | apply below_alloc | apply pw_below_drewN | apply below_drew1 | refine below_set ?_ GE308.out | refine below_set ?_ GE320.out) | exact HB.out)) hb)
     clear HO_11
     clear HL313_5
     clear HL321_5
     clear HL322_5
     clear BK308
     clear BK320
     clear HR321_5
     clear HR322_5
     clear HB
     have HO_11 := n0_
     have HL313_5 := n1_
     have HL321_5 := n2_
     have HL322_5 := n3_
     have BK308 := n4_
     have BK320 := n5_
     have HR321_5 := n6_
     have HR322_5 := n7_
     have HB := n8_
     clear n0_ n1_ n2_ n3_ n4_ n5_ n6_ n7_ n8_
     (try clear hb)
     (try clear hb2)
     (try clear hk)
     (try clear hi)
     refine hK.out _ _ ⟨HS0_, HS1_, HS2_, HS3_, HS4_, HS5_, HS6_, HS7_, HS8_, HS9_, HS10_, HS11_⟩ (fun hHeld => ?_)
     clear hK K
     refine norm_ (a' := ?_) ?_ ?_
     rotate_left
     ·
      show Act.put _ (some 63) _ = _
      simp only [Act.put, List.setIfInBounds_toArray, List.set_cons_zero, List.set_cons_succ, i64_w, i32_w]
      rfl
     refine one_ (i := 15) (N := some 15) #[I,I,I,I,I,I,I,I,I,I,I,I,I,I,I,I,O] rfl rfl (one_of HT_.out (by kernel_rfl)) (by decide) (fun K hK => ?_)
     refine box_step ?hg (N := 15) ?hd (cs := #[.int .i64 0, .int .i64 0, .int .i64 0, .int .i64 0, .int .i64 0, .int .i64 0]) (t := 69) ?hr ?_; (case hd => rfl); (case hg => rfl); (case hr => first | (go_simp; done) | (go_simp; rfl))
     intro gb329 hg w31 hbox hb
     have HS0_ := (hb.cell (World.block_lt_of_cell? _ _ (hHeld.1))).trans (hHeld.1)
     have HS1_ := (hb.cell (World.block_lt_of_cell? _ _ (hHeld.2.1))).trans (hHeld.2.1)
     have HS2_ := (hb.cell (World.block_lt_of_cell? _ _ (hHeld.2.2.1))).trans (hHeld.2.2.1)
     have HS3_ := (hb.cell (World.block_lt_of_cell? _ _ (hHeld.2.2.2.1))).trans (hHeld.2.2.2.1)
     have HS4_ := (hb.cell (World.block_lt_of_cell? _ _ (hHeld.2.2.2.2.1))).trans (hHeld.2.2.2.2.1)
     have HS5_ := (hb.cell (World.block_lt_of_cell? _ _ (hHeld.2.2.2.2.2.1))).trans (hHeld.2.2.2.2.2.1)
     have HS6_ := (hb.cell (World.block_lt_of_cell? _ _ (hHeld.2.2.2.2.2.2.1))).trans (hHeld.2.2.2.2.2.2.1)
     have HS7_ := (hb.cell (World.block_lt_of_cell? _ _ (hHeld.2.2.2.2.2.2.2.1))).trans (hHeld.2.2.2.2.2.2.2.1)
     have HS8_ := (hb.cell (World.block_lt_of_cell? _ _ (hHeld.2.2.2.2.2.2.2.2.1))).trans (hHeld.2.2.2.2.2.2.2.2.1)
     have HS9_ := (hb.cell (World.block_lt_of_cell? _ _ (hHeld.2.2.2.2.2.2.2.2.2.1))).trans (hHeld.2.2.2.2.2.2.2.2.2.1)
     have HS10_ := (hb.cell (World.block_lt_of_cell? _ _ (hHeld.2.2.2.2.2.2.2.2.2.2.1))).trans (hHeld.2.2.2.2.2.2.2.2.2.2.1)
     have HS11_ := (hb.cell (World.block_lt_of_cell? _ _ (hHeld.2.2.2.2.2.2.2.2.2.2.2))).trans (hHeld.2.2.2.2.2.2.2.2.2.2.2)
     have n0_ := Aside0.mk (Kd.S_below (by (with_reducible repeat (first | apply Kd.S_alloc | apply Kd.S_drewN | apply Kd.S_drew)); exact HO_11.out) hb)
     have n1_ := Aside0.mk (Kd.R_below (by (with_reducible repeat (first | apply Kd.R_alloc | apply Kd.R_drewN | apply Kd.R_drew)); exact HL313_5.out) hb)
     have n2_ := Aside0.mk (Kd.R_below (by (with_reducible repeat (first | apply Kd.R_alloc | apply Kd.R_drewN | apply Kd.R_drew)); exact HL321_5.out) hb)
     have n3_ := Aside0.mk (Kd.R_below (by (with_reducible repeat (first | apply Kd.R_alloc | apply Kd.R_drewN | apply Kd.R_drew)); exact HL322_5.out) hb)
     have n4_ := Aside0.mk (blk_below (g := gb308) (o := .cells #[.int .i64 t305, .int .i64 t306, .int .i64 t307] 25 (0, 0)) (by (with_reducible repeat (first | refine blk_drewN ?_ _ | refine blk_drew ?_ | refine blk_alloc ?_ _)); exact BK308.out) hb)
     have n5_ := Aside0.mk (blk_below (g := gb320) (o := .cells #[.int .i64 t314, .int .i64 t315, .int .i64 t316, .int .i64 t317, .int .i64 t318, .int .i64 t319] 69 (0, 0)) (by (with_reducible repeat (first | refine blk_drewN ?_ _ | refine blk_drew ?_ | refine blk_alloc ?_ _)); exact BK320.out) hb)
     have n6_ := Aside0.mk (Kd.C_below (by repeat (first | (with_reducible exact HR321_5.out) | (with_reducible refine Kd.C_alloc ?_ _) | (with_reducible refine Kd.C_drewN ?_ _) | (with_reducible refine Kd.C_drew ?_) | exact HR321_5.out)) hb)
     have n7_ := Aside0.mk (Kd.C_below (by repeat (first | (with_reducible exact HR322_5.out) | (with_reducible refine Kd.C_alloc ?_ _) | (with_reducible refine Kd.C_drewN ?_ _) | (with_reducible refine Kd.C_drew ?_) | exact HR322_5.out)) hb)
     have n8_ := Aside0.mk (below_step (by repeat (first | (with_reducible first | exact HB.out | apply below_alloc | apply pw_below_drewN | apply below_drew1 | refine below_set ?_ GE308.out | refine below_set ?_ GE320.out) | exact HB.out)) hb)
     have n9_ := Aside0.mk (hbox)
     have n10_ := Aside0.mk ((by rw [hg]; exact (below_size (by repeat (first | (with_reducible first | exact HB.out | apply below_alloc | apply pw_below_drewN | apply below_drew1 | refine below_set ?_ GE308.out | refine below_set ?_ GE320.out) | exact HB.out))) : w.heap.size ≤ gb329))
     have n11_ := Aside0.mk ((by rw [hg]; exact (below_size (by repeat (first | (with_reducible first | exact HB.out | apply below_alloc | apply pw_below_drewN | apply below_drew1 | refine below_set ?_ GE308.out | refine below_set ?_ GE320.out) | exact HB.out))) : w.heap.size ≤ gb329))
     have n12_ := Aside0.mk ((by rw [hg]; exact Nat.ne_of_lt (blk_lt (g := gb308) (o := .cells #[.int .i64 t305, .int .i64 t306, .int .i64 t307] 25 (0, 0)) (by (with_reducible repeat (first | refine blk_drewN ?_ _ | refine blk_drew ?_ | refine blk_alloc ?_ _)); exact BK308.out)) : gb308 ≠ gb329))
     have n13_ := Aside0.mk ((by rw [hg]; exact Nat.ne_of_gt (blk_lt (g := gb308) (o := .cells #[.int .i64 t305, .int .i64 t306, .int .i64 t307] 25 (0, 0)) (by (with_reducible repeat (first | refine blk_drewN ?_ _ | refine blk_drew ?_ | refine blk_alloc ?_ _)); exact BK308.out)) : gb329 ≠ gb308))
     have n14_ := Aside0.mk ((by rw [hg]; exact Nat.ne_of_lt (blk_lt (g := gb320) (o := .cells #[.int .i64 t314, .int .i64 t315, .int .i64 t316, .int .i64 t317, .int .i64 t318, .int .i64 t319] 69 (0, 0)) (by (with_reducible repeat (first | refine blk_drewN ?_ _ | refine blk_drew ?_ | refine blk_alloc ?_ _)); exact BK320.out)) : gb320 ≠ gb329))
     have n15_ := Aside0.mk ((by rw [hg]; exact Nat.ne_of_gt (blk_lt (g := gb320) (o := .cells #[.int .i64 t314, .int .i64 t315, .int .i64 t316, .int .i64 t317, .int .i64 t318, .int .i64 t319] 69 (0, 0)) (by (with_reducible repeat (first | refine blk_drewN ?_ _ | refine blk_drew ?_ | refine blk_alloc ?_ _)); exact BK320.out)) : gb329 ≠ gb320))
     clear HO_11
     clear HL313_5
     clear HL321_5
     clear HL322_5
     clear BK308
     clear BK320
     clear HR321_5
     clear HR322_5
     clear HB
     have HO_11 := n0_
     have HL313_5 := n1_
     have HL321_5 := n2_
     have HL322_5 := n3_
     have BK308 := n4_
     have BK320 := n5_
     have HR321_5 := n6_
     have HR322_5 := n7_
     have HB := n8_
     have BK329 := n9_
     have GW329 := n10_
     have GE329 := n11_
     have NB308_329 := n12_
     have NB329_308 := n13_
     have NB320_329 := n14_
     have NB329_320 := n15_
     clear n0_ n1_ n2_ n3_ n4_ n5_ n6_ n7_ n8_ n9_ n10_ n11_ n12_ n13_ n14_ n15_
     clear hb hbox hg
     refine hK.out _ _ ⟨HS0_, HS1_, HS2_, HS3_, HS4_, HS5_, HS6_, HS7_, HS8_, HS9_, HS10_, HS11_⟩ (fun hHeld => ?_)
     clear hK K
     refine norm_ (a' := ?_) ?_ ?_
     rotate_left
     ·
      show Act.put _ (some 15) _ = _
      simp only [Act.put, List.setIfInBounds_toArray, List.set_cons_zero, List.set_cons_succ, i64_w, i32_w]
      rfl
     exact norm_ (by simp only [putAll, Act.put, List.setIfInBounds_toArray, List.set_cons_zero, List.set_cons_succ]) (hCont (gb329) _ ⟨hHeld, (by (with_reducible repeat (first | apply Kd.R_alloc | apply Kd.R_drewN | apply Kd.R_drew)); exact HL313_5.out), (by (with_reducible repeat (first | apply Kd.R_alloc | apply Kd.R_drewN | apply Kd.R_drew)); exact Kd.R_mono HL321_5.out (fun _ hk => hk.2)), (by (with_reducible repeat (first | apply Kd.R_alloc | apply Kd.R_drewN | apply Kd.R_drew)); exact Kd.R_mono HL322_5.out (fun _ hk => hk.2)), (by (with_reducible repeat (first | apply Kd.S_alloc | apply Kd.S_drewN | apply Kd.S_drew)); exact HO_11.out), (by (with_reducible repeat (first | refine blk_drewN ?_ _ | refine blk_drew ?_ | refine blk_alloc ?_ _)); exact BK308.out), (by (with_reducible repeat (first | refine blk_drewN ?_ _ | refine blk_drew ?_ | refine blk_alloc ?_ _)); exact BK320.out), (by (with_reducible repeat (first | refine blk_drewN ?_ _ | refine blk_drew ?_ | refine blk_alloc ?_ _)); exact BK329.out), GW329.out, GE329.out, NB308_329.out, NB329_308.out, NB320_329.out, NB329_320.out, (by repeat (first | (with_reducible first | exact HB.out | apply below_alloc | apply pw_below_drewN | apply below_drew1 | refine below_set ?_ GE308.out | refine below_set ?_ GE320.out | refine below_set ?_ GE329.out) | exact HB.out))⟩)
    ·
     skip
     refine box_step ?hg (N := 15) ?hd (cs := #[.int .i64 0, .int .i64 0, .int .i64 0, .int .i64 0, .int .i64 0, .int .i64 0]) (t := 69) ?hr ?_; (case hd => rfl); (case hg => rfl); (case hr => first | (go_simp; done) | (go_simp; rfl))
     intro gb329 hg w30 hbox hb
     have HS0_ := (hb.cell (World.block_lt_of_cell? _ _ (hHeld.1))).trans (hHeld.1)
     have HS1_ := (hb.cell (World.block_lt_of_cell? _ _ (hHeld.2.1))).trans (hHeld.2.1)
     have HS2_ := (hb.cell (World.block_lt_of_cell? _ _ (hHeld.2.2.1))).trans (hHeld.2.2.1)
     have HS3_ := (hb.cell (World.block_lt_of_cell? _ _ (hHeld.2.2.2.1))).trans (hHeld.2.2.2.1)
     have HS4_ := (hb.cell (World.block_lt_of_cell? _ _ (hHeld.2.2.2.2.1))).trans (hHeld.2.2.2.2.1)
     have HS5_ := (hb.cell (World.block_lt_of_cell? _ _ (hHeld.2.2.2.2.2.1))).trans (hHeld.2.2.2.2.2.1)
     have HS6_ := (hb.cell (World.block_lt_of_cell? _ _ (hHeld.2.2.2.2.2.2.1))).trans (hHeld.2.2.2.2.2.2.1)
     have HS7_ := (hb.cell (World.block_lt_of_cell? _ _ (hHeld.2.2.2.2.2.2.2.1))).trans (hHeld.2.2.2.2.2.2.2.1)
     have HS8_ := (hb.cell (World.block_lt_of_cell? _ _ (hHeld.2.2.2.2.2.2.2.2.1))).trans (hHeld.2.2.2.2.2.2.2.2.1)
     have HS9_ := (hb.cell (World.block_lt_of_cell? _ _ (hHeld.2.2.2.2.2.2.2.2.2.1))).trans (hHeld.2.2.2.2.2.2.2.2.2.1)
     have HS10_ := (hb.cell (World.block_lt_of_cell? _ _ (hHeld.2.2.2.2.2.2.2.2.2.2.1))).trans (hHeld.2.2.2.2.2.2.2.2.2.2.1)
     have HS11_ := (hb.cell (World.block_lt_of_cell? _ _ (hHeld.2.2.2.2.2.2.2.2.2.2.2))).trans (hHeld.2.2.2.2.2.2.2.2.2.2.2)
     have n0_ := Aside0.mk (Kd.S_below (by (with_reducible repeat (first | apply Kd.S_alloc | apply Kd.S_drewN | apply Kd.S_drew)); exact HO_11.out) hb)
     have n1_ := Aside0.mk (Kd.R_below (by (with_reducible repeat (first | apply Kd.R_alloc | apply Kd.R_drewN | apply Kd.R_drew)); exact HL313_5.out) hb)
     have n2_ := Aside0.mk (Kd.R_below (by (with_reducible repeat (first | apply Kd.R_alloc | apply Kd.R_drewN | apply Kd.R_drew)); exact HL321_5.out) hb)
     have n3_ := Aside0.mk (Kd.R_below (by (with_reducible repeat (first | apply Kd.R_alloc | apply Kd.R_drewN | apply Kd.R_drew)); exact HL322_5.out) hb)
     have n4_ := Aside0.mk (blk_below (g := gb308) (o := .cells #[.int .i64 t305, .int .i64 t306, .int .i64 t307] 25 (0, 0)) (by (with_reducible repeat (first | refine blk_drewN ?_ _ | refine blk_drew ?_ | refine blk_alloc ?_ _)); exact BK308.out) hb)
     have n5_ := Aside0.mk (blk_below (g := gb320) (o := .cells #[.int .i64 t314, .int .i64 t315, .int .i64 t316, .int .i64 t317, .int .i64 t318, .int .i64 t319] 69 (0, 0)) (by (with_reducible repeat (first | refine blk_drewN ?_ _ | refine blk_drew ?_ | refine blk_alloc ?_ _)); exact BK320.out) hb)
     have n6_ := Aside0.mk (Kd.C_below (by repeat (first | (with_reducible exact HR321_5.out) | (with_reducible refine Kd.C_alloc ?_ _) | (with_reducible refine Kd.C_drewN ?_ _) | (with_reducible refine Kd.C_drew ?_) | exact HR321_5.out)) hb)
     have n7_ := Aside0.mk (Kd.C_below (by repeat (first | (with_reducible exact HR322_5.out) | (with_reducible refine Kd.C_alloc ?_ _) | (with_reducible refine Kd.C_drewN ?_ _) | (with_reducible refine Kd.C_drew ?_) | exact HR322_5.out)) hb)
     have n8_ := Aside0.mk (below_step (by repeat (first | (with_reducible first | exact HB.out | apply below_alloc | apply pw_below_drewN | apply below_drew1 | refine below_set ?_ GE308.out | refine below_set ?_ GE320.out) | exact HB.out)) hb)
     have n9_ := Aside0.mk (hbox)
     have n10_ := Aside0.mk ((by rw [hg]; exact (below_size (by repeat (first | (with_reducible first | exact HB.out | apply below_alloc | apply pw_below_drewN | apply below_drew1 | refine below_set ?_ GE308.out | refine below_set ?_ GE320.out) | exact HB.out))) : w.heap.size ≤ gb329))
     have n11_ := Aside0.mk ((by rw [hg]; exact (below_size (by repeat (first | (with_reducible first | exact HB.out | apply below_alloc | apply pw_below_drewN | apply below_drew1 | refine below_set ?_ GE308.out | refine below_set ?_ GE320.out) | exact HB.out))) : w.heap.size ≤ gb329))
     have n12_ := Aside0.mk ((by rw [hg]; exact Nat.ne_of_lt (blk_lt (g := gb308) (o := .cells #[.int .i64 t305, .int .i64 t306, .int .i64 t307] 25 (0, 0)) (by (with_reducible repeat (first | refine blk_drewN ?_ _ | refine blk_drew ?_ | refine blk_alloc ?_ _)); exact BK308.out)) : gb308 ≠ gb329))
     have n13_ := Aside0.mk ((by rw [hg]; exact Nat.ne_of_gt (blk_lt (g := gb308) (o := .cells #[.int .i64 t305, .int .i64 t306, .int .i64 t307] 25 (0, 0)) (by (with_reducible repeat (first | refine blk_drewN ?_ _ | refine blk_drew ?_ | refine blk_alloc ?_ _)); exact BK308.out)) : gb329 ≠ gb308))
     have n14_ := Aside0.mk ((by rw [hg]; exact Nat.ne_of_lt (blk_lt (g := gb320) (o := .cells #[.int .i64 t314, .int .i64 t315, .int .i64 t316, .int .i64 t317, .int .i64 t318, .int .i64 t319] 69 (0, 0)) (by (with_reducible repeat (first | refine blk_drewN ?_ _ | refine blk_drew ?_ | refine blk_alloc ?_ _)); exact BK320.out)) : gb320 ≠ gb329))
     have n15_ := Aside0.mk ((by rw [hg]; exact Nat.ne_of_gt (blk_lt (g := gb320) (o := .cells #[.int .i64 t314, .int .i64 t315, .int .i64 t316, .int .i64 t317, .int .i64 t318, .int .i64 t319] 69 (0, 0)) (by (with_reducible repeat (first | refine blk_drewN ?_ _ | refine blk_drew ?_ | refine blk_alloc ?_ _)); exact BK320.out)) : gb329 ≠ gb320))
     clear HO_11
     clear HL313_5
     clear HL321_5
     clear HL322_5
     clear BK308
     clear BK320
     clear HR321_5
     clear HR322_5
     clear HB
     have HO_11 := n0_
     have HL313_5 := n1_
     have HL321_5 := n2_
     have HL322_5 := n3_
     have BK308 := n4_
     have BK320 := n5_
     have HR321_5 := n6_
     have HR322_5 := n7_
     have HB := n8_
     have BK329 := n9_
     have GW329 := n10_
     have GE329 := n11_
     have NB308_329 := n12_
     have NB329_308 := n13_
     have NB320_329 := n14_
     have NB329_320 := n15_
     clear n0_ n1_ n2_ n3_ n4_ n5_ n6_ n7_ n8_ n9_ n10_ n11_ n12_ n13_ n14_ n15_
     clear hb hbox hg
     refine hK.out _ _ ⟨HS0_, HS1_, HS2_, HS3_, HS4_, HS5_, HS6_, HS7_, HS8_, HS9_, HS10_, HS11_⟩ (fun hHeld => ?_)
     clear hK K
     refine norm_ (a' := ?_) ?_ ?_
     rotate_left
     ·
      show Act.put _ (some 15) _ = _
      simp only [Act.put, List.setIfInBounds_toArray, List.set_cons_zero, List.set_cons_succ, i64_w, i32_w]
      rfl
     refine one_ (i := 14) (N := some 63) #[I,I,I,I,I,I,I,I,I,I,I,I,I,I,I,I,O] rfl rfl (one_of HT_.out (by kernel_rfl)) (by decide) (fun K hK => ?_)
     refine goes_ Try.func30 (by kernel_rfl) rfl #[.agg #[.int .i64 0, .int .i64 0, .int .i64 0, .int .i64 0, .int .i64 0, .int .i64 0], .slice (some ad313) t309.length co23, .int .i64 (wrap64 (((rd_T67 t309 x13_1).f1) + (((rd_T67 t309 x13_1).f2).length : Int)))] (by rfl) rfl rfl (by (try simp only [List.map_toArray, List.map_cons, List.map_nil]); first | done | rfl | (simp only [List.length_drop, List.length_take]; rfl)) ?_
     with_reducible refine (timetable_PositionsAt.calls 0 0 0 0 0 0 _ _ t309 (wrap64 (((rd_T67 t309 x13_1).f1) + (((rd_T67 t309 x13_1).f2).length : Int))) t323 t324 t325 t326 t327 t328 _ ?side1 ?side2 A22.out).mono ?_
     (case side1 => repeat (first | exact (Kd.S_reads' HO_11.out).2.2 | (with_reducible refine Kd.C_alloc ?_ _) | (with_reducible refine Kd.C_drewN ?_ _) | (with_reducible refine Kd.C_drew ?_)))
     (case side2 => exact (Kd.S_reads' HO_11.out).2.1)
     rintro e w31 ⟨rfl, hb⟩
     have HS0_ := (hb.cell (World.block_lt_of_cell? _ _ (hHeld.1))).trans (hHeld.1)
     have HS1_ := (hb.cell (World.block_lt_of_cell? _ _ (hHeld.2.1))).trans (hHeld.2.1)
     have HS2_ := (hb.cell (World.block_lt_of_cell? _ _ (hHeld.2.2.1))).trans (hHeld.2.2.1)
     have HS3_ := (hb.cell (World.block_lt_of_cell? _ _ (hHeld.2.2.2.1))).trans (hHeld.2.2.2.1)
     have HS4_ := (hb.cell (World.block_lt_of_cell? _ _ (hHeld.2.2.2.2.1))).trans (hHeld.2.2.2.2.1)
     have HS5_ := (hb.cell (World.block_lt_of_cell? _ _ (hHeld.2.2.2.2.2.1))).trans (hHeld.2.2.2.2.2.1)
     have HS6_ := (hb.cell (World.block_lt_of_cell? _ _ (hHeld.2.2.2.2.2.2.1))).trans (hHeld.2.2.2.2.2.2.1)
     have HS7_ := (hb.cell (World.block_lt_of_cell? _ _ (hHeld.2.2.2.2.2.2.2.1))).trans (hHeld.2.2.2.2.2.2.2.1)
     have HS8_ := (hb.cell (World.block_lt_of_cell? _ _ (hHeld.2.2.2.2.2.2.2.2.1))).trans (hHeld.2.2.2.2.2.2.2.2.1)
     have HS9_ := (hb.cell (World.block_lt_of_cell? _ _ (hHeld.2.2.2.2.2.2.2.2.2.1))).trans (hHeld.2.2.2.2.2.2.2.2.2.1)
     have HS10_ := (hb.cell (World.block_lt_of_cell? _ _ (hHeld.2.2.2.2.2.2.2.2.2.2.1))).trans (hHeld.2.2.2.2.2.2.2.2.2.2.1)
     have HS11_ := (hb.cell (World.block_lt_of_cell? _ _ (hHeld.2.2.2.2.2.2.2.2.2.2.2))).trans (hHeld.2.2.2.2.2.2.2.2.2.2.2)
     refine ⟨_, rfl, ?_⟩
     have n0_ := Aside0.mk (Kd.S_below (by (with_reducible repeat (first | apply Kd.S_alloc | apply Kd.S_drewN | apply Kd.S_drew)); exact HO_11.out) hb)
     have n1_ := Aside0.mk (Kd.R_below (by (with_reducible repeat (first | apply Kd.R_alloc | apply Kd.R_drewN | apply Kd.R_drew)); exact HL313_5.out) hb)
     have n2_ := Aside0.mk (Kd.R_below (by (with_reducible repeat (first | apply Kd.R_alloc | apply Kd.R_drewN | apply Kd.R_drew)); exact HL321_5.out) hb)
     have n3_ := Aside0.mk (Kd.R_below (by (with_reducible repeat (first | apply Kd.R_alloc | apply Kd.R_drewN | apply Kd.R_drew)); exact HL322_5.out) hb)
     have n4_ := Aside0.mk (blk_below (g := gb308) (o := .cells #[.int .i64 t305, .int .i64 t306, .int .i64 t307] 25 (0, 0)) (by (with_reducible repeat (first | refine blk_drewN ?_ _ | refine blk_drew ?_ | refine blk_alloc ?_ _)); exact BK308.out) hb)
     have n5_ := Aside0.mk (blk_below (g := gb320) (o := .cells #[.int .i64 t314, .int .i64 t315, .int .i64 t316, .int .i64 t317, .int .i64 t318, .int .i64 t319] 69 (0, 0)) (by (with_reducible repeat (first | refine blk_drewN ?_ _ | refine blk_drew ?_ | refine blk_alloc ?_ _)); exact BK320.out) hb)
     have n6_ := Aside0.mk (Kd.C_below (by repeat (first | (with_reducible exact HR321_5.out) | (with_reducible refine Kd.C_alloc ?_ _) | (with_reducible refine Kd.C_drewN ?_ _) | (with_reducible refine Kd.C_drew ?_) | exact HR321_5.out)) hb)
     have n7_ := Aside0.mk (Kd.C_below (by repeat (first | (with_reducible exact HR322_5.out) | (with_reducible refine Kd.C_alloc ?_ _) | (with_reducible refine Kd.C_drewN ?_ _) | (with_reducible refine Kd.C_drew ?_) | exact HR322_5.out)) hb)
     have n8_ := Aside0.mk (blk_below (g := gb329) (o := .cells #[.int .i64 0, .int .i64 0, .int .i64 0, .int .i64 0, .int .i64 0, .int .i64 0] 69 (0, 0)) (by (with_reducible repeat (first | refine blk_drewN ?_ _ | refine blk_drew ?_ | refine blk_alloc ?_ _)); exact BK329.out) hb)
     have n9_ := Aside0.mk (below_step (by repeat (first | (with_reducible first | exact HB.out | apply below_alloc | apply pw_below_drewN | apply below_drew1 | refine below_set ?_ GE308.out | refine below_set ?_ GE320.out | refine below_set ?_ GE329.out) | exact HB.out)) hb)
     clear HO_11
     clear HL313_5
     clear HL321_5
     clear HL322_5
     clear BK308
     clear BK320
     clear HR321_5
     clear HR322_5
     clear BK329
     clear HB
     have HO_11 := n0_
     have HL313_5 := n1_
     have HL321_5 := n2_
     have HL322_5 := n3_
     have BK308 := n4_
     have BK320 := n5_
     have HR321_5 := n6_
     have HR322_5 := n7_
     have BK329 := n8_
     have HB := n9_
     clear n0_ n1_ n2_ n3_ n4_ n5_ n6_ n7_ n8_ n9_
     (try clear hb)
     (try clear hb2)
     (try clear hk)
     (try clear hi)
     refine hK.out _ _ ⟨HS0_, HS1_, HS2_, HS3_, HS4_, HS5_, HS6_, HS7_, HS8_, HS9_, HS10_, HS11_⟩ (fun hHeld => ?_)
     clear hK K
     refine norm_ (a' := ?_) ?_ ?_
     rotate_left
     ·
      show Act.put _ (some 63) _ = _
      simp only [Act.put, List.setIfInBounds_toArray, List.set_cons_zero, List.set_cons_succ, i64_w, i32_w]
      rfl
     exact norm_ (by simp only [putAll, Act.put, List.setIfInBounds_toArray, List.set_cons_zero, List.set_cons_succ]) (hCont (gb329) _ ⟨hHeld, (by (with_reducible repeat (first | apply Kd.R_alloc | apply Kd.R_drewN | apply Kd.R_drew)); exact HL313_5.out), (by (with_reducible repeat (first | apply Kd.R_alloc | apply Kd.R_drewN | apply Kd.R_drew)); exact Kd.R_mono HL321_5.out (fun _ hk => hk.2)), (by (with_reducible repeat (first | apply Kd.R_alloc | apply Kd.R_drewN | apply Kd.R_drew)); exact Kd.R_mono HL322_5.out (fun _ hk => hk.2)), (by (with_reducible repeat (first | apply Kd.S_alloc | apply Kd.S_drewN | apply Kd.S_drew)); exact HO_11.out), (by (with_reducible repeat (first | refine blk_drewN ?_ _ | refine blk_drew ?_ | refine blk_alloc ?_ _)); exact BK308.out), (by (with_reducible repeat (first | refine blk_drewN ?_ _ | refine blk_drew ?_ | refine blk_alloc ?_ _)); exact BK320.out), (by (with_reducible repeat (first | refine blk_drewN ?_ _ | refine blk_drew ?_ | refine blk_alloc ?_ _)); exact BK329.out), GW329.out, GE329.out, NB308_329.out, NB329_308.out, NB320_329.out, NB329_320.out, (by repeat (first | (with_reducible first | exact HB.out | apply below_alloc | apply pw_below_drewN | apply below_drew1 | refine below_set ?_ GE308.out | refine below_set ?_ GE320.out | refine below_set ?_ GE329.out) | exact HB.out))⟩)
   rintro gb329 w32 ⟨hS_, h0_, h1_, h2_, h3_, h4_, h5_, h6_, h7_, h8_, h9_, h10_, h11_, h12_, h13_⟩
   have n0_ : Aside0 (Kd.R (Kd.int .i64) 3 w32 w.heap.size (fun k_ => some k_ ≠ (.slice (some ad313) t309.length co23 : Value).ownBlock) (.slice A313_5 ((rd_T67 t309 x13_1).f2).length c313_5) ((rd_T67 t309 x13_1).f2)) := ⟨h0_⟩
   have n1_ : Aside0 (Kd.R (Kd.int .i64) 3 w32 w.heap.size (fun k_ => some k_ ≠ (.slice (some ad313) t309.length co23 : Value).ownBlock) (.slice A321_5 ((rd_T67 t309 x13_1).f2).length c321_5) ((rd_T67 t309 x13_1).f2)) := ⟨h1_⟩
   have n2_ : Aside0 (Kd.R (Kd.int .i64) 3 w32 w.heap.size (fun k_ => some k_ ≠ (.slice (some ad313) t309.length co23 : Value).ownBlock) (.slice A321_5 ((rd_T67 t309 x13_1).f2).length c321_5) ((rd_T67 t309 x13_1).f2)) := ⟨h2_⟩
   have n3_ : Aside0 (Kd.S k67 67 w32 w.heap.size (fun _ => True) (.slice (some ad313) t309.length co23) t309) := ⟨h3_⟩
   have n4_ : Aside0 (w32.heap[gb308]? = some (.cells #[.int .i64 t305, .int .i64 t306, .int .i64 t307] 25 (0, 0))) := ⟨h4_⟩
   have n5_ : Aside0 (w32.heap[gb320]? = some (.cells #[.int .i64 t314, .int .i64 t315, .int .i64 t316, .int .i64 t317, .int .i64 t318, .int .i64 t319] 69 (0, 0))) := ⟨h5_⟩
   have n6_ : Aside0 (w32.heap[gb329]? = some (.cells #[.int .i64 0, .int .i64 0, .int .i64 0, .int .i64 0, .int .i64 0, .int .i64 0] 69 (0, 0))) := ⟨h6_⟩
   have n7_ : Aside0 (w.heap.size ≤ gb329) := ⟨h7_⟩
   have n8_ : Aside0 (w.heap.size ≤ gb329) := ⟨h8_⟩
   have n9_ : Aside0 (gb308 ≠ gb329) := ⟨h9_⟩
   have n10_ : Aside0 (gb329 ≠ gb308) := ⟨h10_⟩
   have n11_ : Aside0 (gb320 ≠ gb329) := ⟨h11_⟩
   have n12_ : Aside0 (gb329 ≠ gb320) := ⟨h12_⟩
   have n13_ : Aside0 (Below w.heap.size w w32) := ⟨h13_⟩
   clear HO_11
   clear HL313_5
   clear BK308
   clear BK320
   clear HB
   clear h0_ h1_ h2_ h3_ h4_ h5_ h6_ h7_ h8_ h9_ h10_ h11_ h12_ h13_
   have HL313_5 := n0_
   have HL321_5 := n1_
   have HL322_5 := n2_
   have HO_11 := n3_
   have BK308 := n4_
   have BK320 := n5_
   have BK329 := n6_
   have GW329 := n7_
   have GE329 := n8_
   have NB308_329 := n9_
   have NB329_308 := n10_
   have NB320_329 := n11_
   have NB329_320 := n12_
   have HB := n13_
   clear n0_ n1_ n2_ n3_ n4_ n5_ n6_ n7_ n8_ n9_ n10_ n11_ n12_ n13_
   have hHeld : w32.cell? (ad313.add ((x13_1).toNat * 6)) = some (.int .i64 ((rd_T67 t309 x13_1).f0.f0.f0)) ∧ w32.cell? ⟨(ad313.add ((x13_1).toNat * 6)).block, (ad313.add ((x13_1).toNat * 6)).off + 1, none⟩ = some (.int .i64 ((rd_T67 t309 x13_1).f0.f0.f1)) ∧ w32.cell? ⟨(ad313.add ((x13_1).toNat * 6)).block, (ad313.add ((x13_1).toNat * 6)).off + 2, none⟩ = some (.int .i64 ((rd_T67 t309 x13_1).f0.f0.f2)) ∧ w32.cell? ⟨(ad313.add ((x13_1).toNat * 6)).block, (ad313.add ((x13_1).toNat * 6)).off + 3, none⟩ = some (.int .i64 ((rd_T67 t309 x13_1).f0.f1)) ∧ w32.cell? ⟨(ad313.add ((x13_1).toNat * 6)).block, (ad313.add ((x13_1).toNat * 6)).off + 4, none⟩ = some (.int .i64 ((rd_T67 t309 x13_1).f1)) ∧ w32.cell? ⟨(ad313.add ((x13_1).toNat * 6)).block, (ad313.add ((x13_1).toNat * 6)).off + 5, none⟩ = some (.slice A321_5 ((rd_T67 t309 x13_1).f2).length c321_5) ∧ w32.cell? (ad313.add ((x13_1).toNat * 6)) = some (.int .i64 ((rd_T67 t309 x13_1).f0.f0.f0)) ∧ w32.cell? ⟨(ad313.add ((x13_1).toNat * 6)).block, (ad313.add ((x13_1).toNat * 6)).off + 1, none⟩ = some (.int .i64 ((rd_T67 t309 x13_1).f0.f0.f1)) ∧ w32.cell? ⟨(ad313.add ((x13_1).toNat * 6)).block, (ad313.add ((x13_1).toNat * 6)).off + 2, none⟩ = some (.int .i64 ((rd_T67 t309 x13_1).f0.f0.f2)) ∧ w32.cell? ⟨(ad313.add ((x13_1).toNat * 6)).block, (ad313.add ((x13_1).toNat * 6)).off + 3, none⟩ = some (.int .i64 ((rd_T67 t309 x13_1).f0.f1)) ∧ w32.cell? ⟨(ad313.add ((x13_1).toNat * 6)).block, (ad313.add ((x13_1).toNat * 6)).off + 4, none⟩ = some (.int .i64 ((rd_T67 t309 x13_1).f1)) ∧ w32.cell? ⟨(ad313.add ((x13_1).toNat * 6)).block, (ad313.add ((x13_1).toNat * 6)).off + 5, none⟩ = some (.slice A321_5 ((rd_T67 t309 x13_1).f2).length c321_5) := hS_
   refine norm_ (a' := ?_) ?_ ?_
   rotate_left; · (simp only [putAll, Act.put, List.setIfInBounds_toArray, List.set_cons_zero, List.set_cons_succ]; rfl)
   refine one_ (i := 16) (N := none) #[I,I,I,I,I,I,I,I,I,I,I,I,I,I,I,I,I] rfl rfl (one_of HT_.out (by kernel_rfl)) (by decide) (fun K hK => ?_)
   have hs33 : w32.cell? ⟨gb329, 0, none⟩ = some (.int .i64 0) := (blk_cell BK329.out 0).trans rfl
   have hfs33 := blk_frozen BK329.out 0
   have hns33_0 := NB308_329.out
   have hns33_1 := NB320_329.out
   have hms33_0 := NB329_308.out
   have hms33_1 := NB329_320.out
   have hs34 : w32.cell? ⟨gb329, 1, none⟩ = some (.int .i64 0) := (blk_cell BK329.out 1).trans rfl
   have hfs34 := blk_frozen BK329.out 1
   have hns34_0 := NB308_329.out
   have hns34_1 := NB320_329.out
   have hms34_0 := NB329_308.out
   have hms34_1 := NB329_320.out
   have hs35 : w32.cell? ⟨gb329, 2, none⟩ = some (.int .i64 0) := (blk_cell BK329.out 2).trans rfl
   have hfs35 := blk_frozen BK329.out 2
   have hns35_0 := NB308_329.out
   have hns35_1 := NB320_329.out
   have hms35_0 := NB329_308.out
   have hms35_1 := NB329_320.out
   have hs36 : w32.cell? ⟨gb329, 3, none⟩ = some (.int .i64 0) := (blk_cell BK329.out 3).trans rfl
   have hfs36 := blk_frozen BK329.out 3
   have hns36_0 := NB308_329.out
   have hns36_1 := NB320_329.out
   have hms36_0 := NB329_308.out
   have hms36_1 := NB329_320.out
   have hs37 : w32.cell? ⟨gb329, 4, none⟩ = some (.int .i64 0) := (blk_cell BK329.out 4).trans rfl
   have hfs37 := blk_frozen BK329.out 4
   have hns37_0 := NB308_329.out
   have hns37_1 := NB320_329.out
   have hms37_0 := NB329_308.out
   have hms37_1 := NB329_320.out
   have hs38 : w32.cell? ⟨gb329, 5, none⟩ = some (.int .i64 0) := (blk_cell BK329.out 5).trans rfl
   have hfs38 := blk_frozen BK329.out 5
   have hns38_0 := NB308_329.out
   have hns38_1 := NB320_329.out
   have hms38_0 := NB329_308.out
   have hms38_1 := NB329_320.out
   refine skip_ (w1 := ?_) (by rfl) rfl ?_ ?_
   rotate_left
   ·
    go_simp
    rfl
   refine hK.out _ _ ⟨((cell_far (p := ⟨gb329, _, none⟩) (by first | exact Kd.own_blk (Kd.S_ne HO_11.out BK329.out (by decide)) | (rw [add_block]; exact Kd.own_blk (Kd.S_ne HO_11.out BK329.out (by decide))) | (show (Addr.add _ _).block ≠ _; rw [add_block]; exact Kd.own_blk (Kd.S_ne HO_11.out BK329.out (by decide))) | (dsimp only; exact Kd.own_blk (Kd.S_ne HO_11.out BK329.out (by decide)))) _).trans (((cell_far (p := ⟨gb329, _, none⟩) (by first | exact Kd.own_blk (Kd.S_ne HO_11.out BK329.out (by decide)) | (rw [add_block]; exact Kd.own_blk (Kd.S_ne HO_11.out BK329.out (by decide))) | (show (Addr.add _ _).block ≠ _; rw [add_block]; exact Kd.own_blk (Kd.S_ne HO_11.out BK329.out (by decide))) | (dsimp only; exact Kd.own_blk (Kd.S_ne HO_11.out BK329.out (by decide)))) _).trans (((cell_far (p := ⟨gb329, _, none⟩) (by first | exact Kd.own_blk (Kd.S_ne HO_11.out BK329.out (by decide)) | (rw [add_block]; exact Kd.own_blk (Kd.S_ne HO_11.out BK329.out (by decide))) | (show (Addr.add _ _).block ≠ _; rw [add_block]; exact Kd.own_blk (Kd.S_ne HO_11.out BK329.out (by decide))) | (dsimp only; exact Kd.own_blk (Kd.S_ne HO_11.out BK329.out (by decide)))) _).trans (((cell_far (p := ⟨gb329, _, none⟩) (by first | exact Kd.own_blk (Kd.S_ne HO_11.out BK329.out (by decide)) | (rw [add_block]; exact Kd.own_blk (Kd.S_ne HO_11.out BK329.out (by decide))) | (show (Addr.add _ _).block ≠ _; rw [add_block]; exact Kd.own_blk (Kd.S_ne HO_11.out BK329.out (by decide))) | (dsimp only; exact Kd.own_blk (Kd.S_ne HO_11.out BK329.out (by decide)))) _).trans (((cell_far (p := ⟨gb329, _, none⟩) (by first | exact Kd.own_blk (Kd.S_ne HO_11.out BK329.out (by decide)) | (rw [add_block]; exact Kd.own_blk (Kd.S_ne HO_11.out BK329.out (by decide))) | (show (Addr.add _ _).block ≠ _; rw [add_block]; exact Kd.own_blk (Kd.S_ne HO_11.out BK329.out (by decide))) | (dsimp only; exact Kd.own_blk (Kd.S_ne HO_11.out BK329.out (by decide)))) _).trans (((cell_far (p := ⟨gb329, _, none⟩) (by first | exact Kd.own_blk (Kd.S_ne HO_11.out BK329.out (by decide)) | (rw [add_block]; exact Kd.own_blk (Kd.S_ne HO_11.out BK329.out (by decide))) | (show (Addr.add _ _).block ≠ _; rw [add_block]; exact Kd.own_blk (Kd.S_ne HO_11.out BK329.out (by decide))) | (dsimp only; exact Kd.own_blk (Kd.S_ne HO_11.out BK329.out (by decide)))) _).trans (hHeld.1)))))))))))), ((cell_far (p := ⟨gb329, _, none⟩) (by first | exact Kd.own_blk (Kd.S_ne HO_11.out BK329.out (by decide)) | (rw [add_block]; exact Kd.own_blk (Kd.S_ne HO_11.out BK329.out (by decide))) | (show (Addr.add _ _).block ≠ _; rw [add_block]; exact Kd.own_blk (Kd.S_ne HO_11.out BK329.out (by decide))) | (dsimp only; exact Kd.own_blk (Kd.S_ne HO_11.out BK329.out (by decide)))) _).trans (((cell_far (p := ⟨gb329, _, none⟩) (by first | exact Kd.own_blk (Kd.S_ne HO_11.out BK329.out (by decide)) | (rw [add_block]; exact Kd.own_blk (Kd.S_ne HO_11.out BK329.out (by decide))) | (show (Addr.add _ _).block ≠ _; rw [add_block]; exact Kd.own_blk (Kd.S_ne HO_11.out BK329.out (by decide))) | (dsimp only; exact Kd.own_blk (Kd.S_ne HO_11.out BK329.out (by decide)))) _).trans (((cell_far (p := ⟨gb329, _, none⟩) (by first | exact Kd.own_blk (Kd.S_ne HO_11.out BK329.out (by decide)) | (rw [add_block]; exact Kd.own_blk (Kd.S_ne HO_11.out BK329.out (by decide))) | (show (Addr.add _ _).block ≠ _; rw [add_block]; exact Kd.own_blk (Kd.S_ne HO_11.out BK329.out (by decide))) | (dsimp only; exact Kd.own_blk (Kd.S_ne HO_11.out BK329.out (by decide)))) _).trans (((cell_far (p := ⟨gb329, _, none⟩) (by first | exact Kd.own_blk (Kd.S_ne HO_11.out BK329.out (by decide)) | (rw [add_block]; exact Kd.own_blk (Kd.S_ne HO_11.out BK329.out (by decide))) | (show (Addr.add _ _).block ≠ _; rw [add_block]; exact Kd.own_blk (Kd.S_ne HO_11.out BK329.out (by decide))) | (dsimp only; exact Kd.own_blk (Kd.S_ne HO_11.out BK329.out (by decide)))) _).trans (((cell_far (p := ⟨gb329, _, none⟩) (by first | exact Kd.own_blk (Kd.S_ne HO_11.out BK329.out (by decide)) | (rw [add_block]; exact Kd.own_blk (Kd.S_ne HO_11.out BK329.out (by decide))) | (show (Addr.add _ _).block ≠ _; rw [add_block]; exact Kd.own_blk (Kd.S_ne HO_11.out BK329.out (by decide))) | (dsimp only; exact Kd.own_blk (Kd.S_ne HO_11.out BK329.out (by decide)))) _).trans (((cell_far (p := ⟨gb329, _, none⟩) (by first | exact Kd.own_blk (Kd.S_ne HO_11.out BK329.out (by decide)) | (rw [add_block]; exact Kd.own_blk (Kd.S_ne HO_11.out BK329.out (by decide))) | (show (Addr.add _ _).block ≠ _; rw [add_block]; exact Kd.own_blk (Kd.S_ne HO_11.out BK329.out (by decide))) | (dsimp only; exact Kd.own_blk (Kd.S_ne HO_11.out BK329.out (by decide)))) _).trans (hHeld.2.1)))))))))))), ((cell_far (p := ⟨gb329, _, none⟩) (by first | exact Kd.own_blk (Kd.S_ne HO_11.out BK329.out (by decide)) | (rw [add_block]; exact Kd.own_blk (Kd.S_ne HO_11.out BK329.out (by decide))) | (show (Addr.add _ _).block ≠ _; rw [add_block]; exact Kd.own_blk (Kd.S_ne HO_11.out BK329.out (by decide))) | (dsimp only; exact Kd.own_blk (Kd.S_ne HO_11.out BK329.out (by decide)))) _).trans (((cell_far (p := ⟨gb329, _, none⟩) (by first | exact Kd.own_blk (Kd.S_ne HO_11.out BK329.out (by decide)) | (rw [add_block]; exact Kd.own_blk (Kd.S_ne HO_11.out BK329.out (by decide))) | (show (Addr.add _ _).block ≠ _; rw [add_block]; exact Kd.own_blk (Kd.S_ne HO_11.out BK329.out (by decide))) | (dsimp only; exact Kd.own_blk (Kd.S_ne HO_11.out BK329.out (by decide)))) _).trans (((cell_far (p := ⟨gb329, _, none⟩) (by first | exact Kd.own_blk (Kd.S_ne HO_11.out BK329.out (by decide)) | (rw [add_block]; exact Kd.own_blk (Kd.S_ne HO_11.out BK329.out (by decide))) | (show (Addr.add _ _).block ≠ _; rw [add_block]; exact Kd.own_blk (Kd.S_ne HO_11.out BK329.out (by decide))) | (dsimp only; exact Kd.own_blk (Kd.S_ne HO_11.out BK329.out (by decide)))) _).trans (((cell_far (p := ⟨gb329, _, none⟩) (by first | exact Kd.own_blk (Kd.S_ne HO_11.out BK329.out (by decide)) | (rw [add_block]; exact Kd.own_blk (Kd.S_ne HO_11.out BK329.out (by decide))) | (show (Addr.add _ _).block ≠ _; rw [add_block]; exact Kd.own_blk (Kd.S_ne HO_11.out BK329.out (by decide))) | (dsimp only; exact Kd.own_blk (Kd.S_ne HO_11.out BK329.out (by decide)))) _).trans (((cell_far (p := ⟨gb329, _, none⟩) (by first | exact Kd.own_blk (Kd.S_ne HO_11.out BK329.out (by decide)) | (rw [add_block]; exact Kd.own_blk (Kd.S_ne HO_11.out BK329.out (by decide))) | (show (Addr.add _ _).block ≠ _; rw [add_block]; exact Kd.own_blk (Kd.S_ne HO_11.out BK329.out (by decide))) | (dsimp only; exact Kd.own_blk (Kd.S_ne HO_11.out BK329.out (by decide)))) _).trans (((cell_far (p := ⟨gb329, _, none⟩) (by first | exact Kd.own_blk (Kd.S_ne HO_11.out BK329.out (by decide)) | (rw [add_block]; exact Kd.own_blk (Kd.S_ne HO_11.out BK329.out (by decide))) | (show (Addr.add _ _).block ≠ _; rw [add_block]; exact Kd.own_blk (Kd.S_ne HO_11.out BK329.out (by decide))) | (dsimp only; exact Kd.own_blk (Kd.S_ne HO_11.out BK329.out (by decide)))) _).trans (hHeld.2.2.1)))))))))))), ((cell_far (p := ⟨gb329, _, none⟩) (by first | exact Kd.own_blk (Kd.S_ne HO_11.out BK329.out (by decide)) | (rw [add_block]; exact Kd.own_blk (Kd.S_ne HO_11.out BK329.out (by decide))) | (show (Addr.add _ _).block ≠ _; rw [add_block]; exact Kd.own_blk (Kd.S_ne HO_11.out BK329.out (by decide))) | (dsimp only; exact Kd.own_blk (Kd.S_ne HO_11.out BK329.out (by decide)))) _).trans (((cell_far (p := ⟨gb329, _, none⟩) (by first | exact Kd.own_blk (Kd.S_ne HO_11.out BK329.out (by decide)) | (rw [add_block]; exact Kd.own_blk (Kd.S_ne HO_11.out BK329.out (by decide))) | (show (Addr.add _ _).block ≠ _; rw [add_block]; exact Kd.own_blk (Kd.S_ne HO_11.out BK329.out (by decide))) | (dsimp only; exact Kd.own_blk (Kd.S_ne HO_11.out BK329.out (by decide)))) _).trans (((cell_far (p := ⟨gb329, _, none⟩) (by first | exact Kd.own_blk (Kd.S_ne HO_11.out BK329.out (by decide)) | (rw [add_block]; exact Kd.own_blk (Kd.S_ne HO_11.out BK329.out (by decide))) | (show (Addr.add _ _).block ≠ _; rw [add_block]; exact Kd.own_blk (Kd.S_ne HO_11.out BK329.out (by decide))) | (dsimp only; exact Kd.own_blk (Kd.S_ne HO_11.out BK329.out (by decide)))) _).trans (((cell_far (p := ⟨gb329, _, none⟩) (by first | exact Kd.own_blk (Kd.S_ne HO_11.out BK329.out (by decide)) | (rw [add_block]; exact Kd.own_blk (Kd.S_ne HO_11.out BK329.out (by decide))) | (show (Addr.add _ _).block ≠ _; rw [add_block]; exact Kd.own_blk (Kd.S_ne HO_11.out BK329.out (by decide))) | (dsimp only; exact Kd.own_blk (Kd.S_ne HO_11.out BK329.out (by decide)))) _).trans (((cell_far (p := ⟨gb329, _, none⟩) (by first | exact Kd.own_blk (Kd.S_ne HO_11.out BK329.out (by decide)) | (rw [add_block]; exact Kd.own_blk (Kd.S_ne HO_11.out BK329.out (by decide))) | (show (Addr.add _ _).block ≠ _; rw [add_block]; exact Kd.own_blk (Kd.S_ne HO_11.out BK329.out (by decide))) | (dsimp only; exact Kd.own_blk (Kd.S_ne HO_11.out BK329.out (by decide)))) _).trans (((cell_far (p := ⟨gb329, _, none⟩) (by first | exact Kd.own_blk (Kd.S_ne HO_11.out BK329.out (by decide)) | (rw [add_block]; exact Kd.own_blk (Kd.S_ne HO_11.out BK329.out (by decide))) | (show (Addr.add _ _).block ≠ _; rw [add_block]; exact Kd.own_blk (Kd.S_ne HO_11.out BK329.out (by decide))) | (dsimp only; exact Kd.own_blk (Kd.S_ne HO_11.out BK329.out (by decide)))) _).trans (hHeld.2.2.2.1)))))))))))), ((cell_far (p := ⟨gb329, _, none⟩) (by first | exact Kd.own_blk (Kd.S_ne HO_11.out BK329.out (by decide)) | (rw [add_block]; exact Kd.own_blk (Kd.S_ne HO_11.out BK329.out (by decide))) | (show (Addr.add _ _).block ≠ _; rw [add_block]; exact Kd.own_blk (Kd.S_ne HO_11.out BK329.out (by decide))) | (dsimp only; exact Kd.own_blk (Kd.S_ne HO_11.out BK329.out (by decide)))) _).trans (((cell_far (p := ⟨gb329, _, none⟩) (by first | exact Kd.own_blk (Kd.S_ne HO_11.out BK329.out (by decide)) | (rw [add_block]; exact Kd.own_blk (Kd.S_ne HO_11.out BK329.out (by decide))) | (show (Addr.add _ _).block ≠ _; rw [add_block]; exact Kd.own_blk (Kd.S_ne HO_11.out BK329.out (by decide))) | (dsimp only; exact Kd.own_blk (Kd.S_ne HO_11.out BK329.out (by decide)))) _).trans (((cell_far (p := ⟨gb329, _, none⟩) (by first | exact Kd.own_blk (Kd.S_ne HO_11.out BK329.out (by decide)) | (rw [add_block]; exact Kd.own_blk (Kd.S_ne HO_11.out BK329.out (by decide))) | (show (Addr.add _ _).block ≠ _; rw [add_block]; exact Kd.own_blk (Kd.S_ne HO_11.out BK329.out (by decide))) | (dsimp only; exact Kd.own_blk (Kd.S_ne HO_11.out BK329.out (by decide)))) _).trans (((cell_far (p := ⟨gb329, _, none⟩) (by first | exact Kd.own_blk (Kd.S_ne HO_11.out BK329.out (by decide)) | (rw [add_block]; exact Kd.own_blk (Kd.S_ne HO_11.out BK329.out (by decide))) | (show (Addr.add _ _).block ≠ _; rw [add_block]; exact Kd.own_blk (Kd.S_ne HO_11.out BK329.out (by decide))) | (dsimp only; exact Kd.own_blk (Kd.S_ne HO_11.out BK329.out (by decide)))) _).trans (((cell_far (p := ⟨gb329, _, none⟩) (by first | exact Kd.own_blk (Kd.S_ne HO_11.out BK329.out (by decide)) | (rw [add_block]; exact Kd.own_blk (Kd.S_ne HO_11.out BK329.out (by decide))) | (show (Addr.add _ _).block ≠ _; rw [add_block]; exact Kd.own_blk (Kd.S_ne HO_11.out BK329.out (by decide))) | (dsimp only; exact Kd.own_blk (Kd.S_ne HO_11.out BK329.out (by decide)))) _).trans (((cell_far (p := ⟨gb329, _, none⟩) (by first | exact Kd.own_blk (Kd.S_ne HO_11.out BK329.out (by decide)) | (rw [add_block]; exact Kd.own_blk (Kd.S_ne HO_11.out BK329.out (by decide))) | (show (Addr.add _ _).block ≠ _; rw [add_block]; exact Kd.own_blk (Kd.S_ne HO_11.out BK329.out (by decide))) | (dsimp only; exact Kd.own_blk (Kd.S_ne HO_11.out BK329.out (by decide)))) _).trans (hHeld.2.2.2.2.1)))))))))))), ((cell_far (p := ⟨gb329, _, none⟩) (by first | exact Kd.own_blk (Kd.S_ne HO_11.out BK329.out (by decide)) | (rw [add_block]; exact Kd.own_blk (Kd.S_ne HO_11.out BK329.out (by decide))) | (show (Addr.add _ _).block ≠ _; rw [add_block]; exact Kd.own_blk (Kd.S_ne HO_11.out BK329.out (by decide))) | (dsimp only; exact Kd.own_blk (Kd.S_ne HO_11.out BK329.out (by decide)))) _).trans (((cell_far (p := ⟨gb329, _, none⟩) (by first | exact Kd.own_blk (Kd.S_ne HO_11.out BK329.out (by decide)) | (rw [add_block]; exact Kd.own_blk (Kd.S_ne HO_11.out BK329.out (by decide))) | (show (Addr.add _ _).block ≠ _; rw [add_block]; exact Kd.own_blk (Kd.S_ne HO_11.out BK329.out (by decide))) | (dsimp only; exact Kd.own_blk (Kd.S_ne HO_11.out BK329.out (by decide)))) _).trans (((cell_far (p := ⟨gb329, _, none⟩) (by first | exact Kd.own_blk (Kd.S_ne HO_11.out BK329.out (by decide)) | (rw [add_block]; exact Kd.own_blk (Kd.S_ne HO_11.out BK329.out (by decide))) | (show (Addr.add _ _).block ≠ _; rw [add_block]; exact Kd.own_blk (Kd.S_ne HO_11.out BK329.out (by decide))) | (dsimp only; exact Kd.own_blk (Kd.S_ne HO_11.out BK329.out (by decide)))) _).trans (((cell_far (p := ⟨gb329, _, none⟩) (by first | exact Kd.own_blk (Kd.S_ne HO_11.out BK329.out (by decide)) | (rw [add_block]; exact Kd.own_blk (Kd.S_ne HO_11.out BK329.out (by decide))) | (show (Addr.add _ _).block ≠ _; rw [add_block]; exact Kd.own_blk (Kd.S_ne HO_11.out BK329.out (by decide))) | (dsimp only; exact Kd.own_blk (Kd.S_ne HO_11.out BK329.out (by decide)))) _).trans (((cell_far (p := ⟨gb329, _, none⟩) (by first | exact Kd.own_blk (Kd.S_ne HO_11.out BK329.out (by decide)) | (rw [add_block]; exact Kd.own_blk (Kd.S_ne HO_11.out BK329.out (by decide))) | (show (Addr.add _ _).block ≠ _; rw [add_block]; exact Kd.own_blk (Kd.S_ne HO_11.out BK329.out (by decide))) | (dsimp only; exact Kd.own_blk (Kd.S_ne HO_11.out BK329.out (by decide)))) _).trans (((cell_far (p := ⟨gb329, _, none⟩) (by first | exact Kd.own_blk (Kd.S_ne HO_11.out BK329.out (by decide)) | (rw [add_block]; exact Kd.own_blk (Kd.S_ne HO_11.out BK329.out (by decide))) | (show (Addr.add _ _).block ≠ _; rw [add_block]; exact Kd.own_blk (Kd.S_ne HO_11.out BK329.out (by decide))) | (dsimp only; exact Kd.own_blk (Kd.S_ne HO_11.out BK329.out (by decide)))) _).trans (hHeld.2.2.2.2.2.1)))))))))))), ((cell_far (p := ⟨gb329, _, none⟩) (by first | exact Kd.own_blk (Kd.S_ne HO_11.out BK329.out (by decide)) | (rw [add_block]; exact Kd.own_blk (Kd.S_ne HO_11.out BK329.out (by decide))) | (show (Addr.add _ _).block ≠ _; rw [add_block]; exact Kd.own_blk (Kd.S_ne HO_11.out BK329.out (by decide))) | (dsimp only; exact Kd.own_blk (Kd.S_ne HO_11.out BK329.out (by decide)))) _).trans (((cell_far (p := ⟨gb329, _, none⟩) (by first | exact Kd.own_blk (Kd.S_ne HO_11.out BK329.out (by decide)) | (rw [add_block]; exact Kd.own_blk (Kd.S_ne HO_11.out BK329.out (by decide))) | (show (Addr.add _ _).block ≠ _; rw [add_block]; exact Kd.own_blk (Kd.S_ne HO_11.out BK329.out (by decide))) | (dsimp only; exact Kd.own_blk (Kd.S_ne HO_11.out BK329.out (by decide)))) _).trans (((cell_far (p := ⟨gb329, _, none⟩) (by first | exact Kd.own_blk (Kd.S_ne HO_11.out BK329.out (by decide)) | (rw [add_block]; exact Kd.own_blk (Kd.S_ne HO_11.out BK329.out (by decide))) | (show (Addr.add _ _).block ≠ _; rw [add_block]; exact Kd.own_blk (Kd.S_ne HO_11.out BK329.out (by decide))) | (dsimp only; exact Kd.own_blk (Kd.S_ne HO_11.out BK329.out (by decide)))) _).trans (((cell_far (p := ⟨gb329, _, none⟩) (by first | exact Kd.own_blk (Kd.S_ne HO_11.out BK329.out (by decide)) | (rw [add_block]; exact Kd.own_blk (Kd.S_ne HO_11.out BK329.out (by decide))) | (show (Addr.add _ _).block ≠ _; rw [add_block]; exact Kd.own_blk (Kd.S_ne HO_11.out BK329.out (by decide))) | (dsimp only; exact Kd.own_blk (Kd.S_ne HO_11.out BK329.out (by decide)))) _).trans (((cell_far (p := ⟨gb329, _, none⟩) (by first | exact Kd.own_blk (Kd.S_ne HO_11.out BK329.out (by decide)) | (rw [add_block]; exact Kd.own_blk (Kd.S_ne HO_11.out BK329.out (by decide))) | (show (Addr.add _ _).block ≠ _; rw [add_block]; exact Kd.own_blk (Kd.S_ne HO_11.out BK329.out (by decide))) | (dsimp only; exact Kd.own_blk (Kd.S_ne HO_11.out BK329.out (by decide)))) _).trans (((cell_far (p := ⟨gb329, _, none⟩) (by first | exact Kd.own_blk (Kd.S_ne HO_11.out BK329.out (by decide)) | (rw [add_block]; exact Kd.own_blk (Kd.S_ne HO_11.out BK329.out (by decide))) | (show (Addr.add _ _).block ≠ _; rw [add_block]; exact Kd.own_blk (Kd.S_ne HO_11.out BK329.out (by decide))) | (dsimp only; exact Kd.own_blk (Kd.S_ne HO_11.out BK329.out (by decide)))) _).trans (hHeld.2.2.2.2.2.2.1)))))))))))), ((cell_far (p := ⟨gb329, _, none⟩) (by first | exact Kd.own_blk (Kd.S_ne HO_11.out BK329.out (by decide)) | (rw [add_block]; exact Kd.own_blk (Kd.S_ne HO_11.out BK329.out (by decide))) | (show (Addr.add _ _).block ≠ _; rw [add_block]; exact Kd.own_blk (Kd.S_ne HO_11.out BK329.out (by decide))) | (dsimp only; exact Kd.own_blk (Kd.S_ne HO_11.out BK329.out (by decide)))) _).trans (((cell_far (p := ⟨gb329, _, none⟩) (by first | exact Kd.own_blk (Kd.S_ne HO_11.out BK329.out (by decide)) | (rw [add_block]; exact Kd.own_blk (Kd.S_ne HO_11.out BK329.out (by decide))) | (show (Addr.add _ _).block ≠ _; rw [add_block]; exact Kd.own_blk (Kd.S_ne HO_11.out BK329.out (by decide))) | (dsimp only; exact Kd.own_blk (Kd.S_ne HO_11.out BK329.out (by decide)))) _).trans (((cell_far (p := ⟨gb329, _, none⟩) (by first | exact Kd.own_blk (Kd.S_ne HO_11.out BK329.out (by decide)) | (rw [add_block]; exact Kd.own_blk (Kd.S_ne HO_11.out BK329.out (by decide))) | (show (Addr.add _ _).block ≠ _; rw [add_block]; exact Kd.own_blk (Kd.S_ne HO_11.out BK329.out (by decide))) | (dsimp only; exact Kd.own_blk (Kd.S_ne HO_11.out BK329.out (by decide)))) _).trans (((cell_far (p := ⟨gb329, _, none⟩) (by first | exact Kd.own_blk (Kd.S_ne HO_11.out BK329.out (by decide)) | (rw [add_block]; exact Kd.own_blk (Kd.S_ne HO_11.out BK329.out (by decide))) | (show (Addr.add _ _).block ≠ _; rw [add_block]; exact Kd.own_blk (Kd.S_ne HO_11.out BK329.out (by decide))) | (dsimp only; exact Kd.own_blk (Kd.S_ne HO_11.out BK329.out (by decide)))) _).trans (((cell_far (p := ⟨gb329, _, none⟩) (by first | exact Kd.own_blk (Kd.S_ne HO_11.out BK329.out (by decide)) | (rw [add_block]; exact Kd.own_blk (Kd.S_ne HO_11.out BK329.out (by decide))) | (show (Addr.add _ _).block ≠ _; rw [add_block]; exact Kd.own_blk (Kd.S_ne HO_11.out BK329.out (by decide))) | (dsimp only; exact Kd.own_blk (Kd.S_ne HO_11.out BK329.out (by decide)))) _).trans (((cell_far (p := ⟨gb329, _, none⟩) (by first | exact Kd.own_blk (Kd.S_ne HO_11.out BK329.out (by decide)) | (rw [add_block]; exact Kd.own_blk (Kd.S_ne HO_11.out BK329.out (by decide))) | (show (Addr.add _ _).block ≠ _; rw [add_block]; exact Kd.own_blk (Kd.S_ne HO_11.out BK329.out (by decide))) | (dsimp only; exact Kd.own_blk (Kd.S_ne HO_11.out BK329.out (by decide)))) _).trans (hHeld.2.2.2.2.2.2.2.1)))))))))))), ((cell_far (p := ⟨gb329, _, none⟩) (by first | exact Kd.own_blk (Kd.S_ne HO_11.out BK329.out (by decide)) | (rw [add_block]; exact Kd.own_blk (Kd.S_ne HO_11.out BK329.out (by decide))) | (show (Addr.add _ _).block ≠ _; rw [add_block]; exact Kd.own_blk (Kd.S_ne HO_11.out BK329.out (by decide))) | (dsimp only; exact Kd.own_blk (Kd.S_ne HO_11.out BK329.out (by decide)))) _).trans (((cell_far (p := ⟨gb329, _, none⟩) (by first | exact Kd.own_blk (Kd.S_ne HO_11.out BK329.out (by decide)) | (rw [add_block]; exact Kd.own_blk (Kd.S_ne HO_11.out BK329.out (by decide))) | (show (Addr.add _ _).block ≠ _; rw [add_block]; exact Kd.own_blk (Kd.S_ne HO_11.out BK329.out (by decide))) | (dsimp only; exact Kd.own_blk (Kd.S_ne HO_11.out BK329.out (by decide)))) _).trans (((cell_far (p := ⟨gb329, _, none⟩) (by first | exact Kd.own_blk (Kd.S_ne HO_11.out BK329.out (by decide)) | (rw [add_block]; exact Kd.own_blk (Kd.S_ne HO_11.out BK329.out (by decide))) | (show (Addr.add _ _).block ≠ _; rw [add_block]; exact Kd.own_blk (Kd.S_ne HO_11.out BK329.out (by decide))) | (dsimp only; exact Kd.own_blk (Kd.S_ne HO_11.out BK329.out (by decide)))) _).trans (((cell_far (p := ⟨gb329, _, none⟩) (by first | exact Kd.own_blk (Kd.S_ne HO_11.out BK329.out (by decide)) | (rw [add_block]; exact Kd.own_blk (Kd.S_ne HO_11.out BK329.out (by decide))) | (show (Addr.add _ _).block ≠ _; rw [add_block]; exact Kd.own_blk (Kd.S_ne HO_11.out BK329.out (by decide))) | (dsimp only; exact Kd.own_blk (Kd.S_ne HO_11.out BK329.out (by decide)))) _).trans (((cell_far (p := ⟨gb329, _, none⟩) (by first | exact Kd.own_blk (Kd.S_ne HO_11.out BK329.out (by decide)) | (rw [add_block]; exact Kd.own_blk (Kd.S_ne HO_11.out BK329.out (by decide))) | (show (Addr.add _ _).block ≠ _; rw [add_block]; exact Kd.own_blk (Kd.S_ne HO_11.out BK329.out (by decide))) | (dsimp only; exact Kd.own_blk (Kd.S_ne HO_11.out BK329.out (by decide)))) _).trans (((cell_far (p := ⟨gb329, _, none⟩) (by first | exact Kd.own_blk (Kd.S_ne HO_11.out BK329.out (by decide)) | (rw [add_block]; exact Kd.own_blk (Kd.S_ne HO_11.out BK329.out (by decide))) | (show (Addr.add _ _).block ≠ _; rw [add_block]; exact Kd.own_blk (Kd.S_ne HO_11.out BK329.out (by decide))) | (dsimp only; exact Kd.own_blk (Kd.S_ne HO_11.out BK329.out (by decide)))) _).trans (hHeld.2.2.2.2.2.2.2.2.1)))))))))))), ((cell_far (p := ⟨gb329, _, none⟩) (by first | exact Kd.own_blk (Kd.S_ne HO_11.out BK329.out (by decide)) | (rw [add_block]; exact Kd.own_blk (Kd.S_ne HO_11.out BK329.out (by decide))) | (show (Addr.add _ _).block ≠ _; rw [add_block]; exact Kd.own_blk (Kd.S_ne HO_11.out BK329.out (by decide))) | (dsimp only; exact Kd.own_blk (Kd.S_ne HO_11.out BK329.out (by decide)))) _).trans (((cell_far (p := ⟨gb329, _, none⟩) (by first | exact Kd.own_blk (Kd.S_ne HO_11.out BK329.out (by decide)) | (rw [add_block]; exact Kd.own_blk (Kd.S_ne HO_11.out BK329.out (by decide))) | (show (Addr.add _ _).block ≠ _; rw [add_block]; exact Kd.own_blk (Kd.S_ne HO_11.out BK329.out (by decide))) | (dsimp only; exact Kd.own_blk (Kd.S_ne HO_11.out BK329.out (by decide)))) _).trans (((cell_far (p := ⟨gb329, _, none⟩) (by first | exact Kd.own_blk (Kd.S_ne HO_11.out BK329.out (by decide)) | (rw [add_block]; exact Kd.own_blk (Kd.S_ne HO_11.out BK329.out (by decide))) | (show (Addr.add _ _).block ≠ _; rw [add_block]; exact Kd.own_blk (Kd.S_ne HO_11.out BK329.out (by decide))) | (dsimp only; exact Kd.own_blk (Kd.S_ne HO_11.out BK329.out (by decide)))) _).trans (((cell_far (p := ⟨gb329, _, none⟩) (by first | exact Kd.own_blk (Kd.S_ne HO_11.out BK329.out (by decide)) | (rw [add_block]; exact Kd.own_blk (Kd.S_ne HO_11.out BK329.out (by decide))) | (show (Addr.add _ _).block ≠ _; rw [add_block]; exact Kd.own_blk (Kd.S_ne HO_11.out BK329.out (by decide))) | (dsimp only; exact Kd.own_blk (Kd.S_ne HO_11.out BK329.out (by decide)))) _).trans (((cell_far (p := ⟨gb329, _, none⟩) (by first | exact Kd.own_blk (Kd.S_ne HO_11.out BK329.out (by decide)) | (rw [add_block]; exact Kd.own_blk (Kd.S_ne HO_11.out BK329.out (by decide))) | (show (Addr.add _ _).block ≠ _; rw [add_block]; exact Kd.own_blk (Kd.S_ne HO_11.out BK329.out (by decide))) | (dsimp only; exact Kd.own_blk (Kd.S_ne HO_11.out BK329.out (by decide)))) _).trans (((cell_far (p := ⟨gb329, _, none⟩) (by first | exact Kd.own_blk (Kd.S_ne HO_11.out BK329.out (by decide)) | (rw [add_block]; exact Kd.own_blk (Kd.S_ne HO_11.out BK329.out (by decide))) | (show (Addr.add _ _).block ≠ _; rw [add_block]; exact Kd.own_blk (Kd.S_ne HO_11.out BK329.out (by decide))) | (dsimp only; exact Kd.own_blk (Kd.S_ne HO_11.out BK329.out (by decide)))) _).trans (hHeld.2.2.2.2.2.2.2.2.2.1)))))))))))), ((cell_far (p := ⟨gb329, _, none⟩) (by first | exact Kd.own_blk (Kd.S_ne HO_11.out BK329.out (by decide)) | (rw [add_block]; exact Kd.own_blk (Kd.S_ne HO_11.out BK329.out (by decide))) | (show (Addr.add _ _).block ≠ _; rw [add_block]; exact Kd.own_blk (Kd.S_ne HO_11.out BK329.out (by decide))) | (dsimp only; exact Kd.own_blk (Kd.S_ne HO_11.out BK329.out (by decide)))) _).trans (((cell_far (p := ⟨gb329, _, none⟩) (by first | exact Kd.own_blk (Kd.S_ne HO_11.out BK329.out (by decide)) | (rw [add_block]; exact Kd.own_blk (Kd.S_ne HO_11.out BK329.out (by decide))) | (show (Addr.add _ _).block ≠ _; rw [add_block]; exact Kd.own_blk (Kd.S_ne HO_11.out BK329.out (by decide))) | (dsimp only; exact Kd.own_blk (Kd.S_ne HO_11.out BK329.out (by decide)))) _).trans (((cell_far (p := ⟨gb329, _, none⟩) (by first | exact Kd.own_blk (Kd.S_ne HO_11.out BK329.out (by decide)) | (rw [add_block]; exact Kd.own_blk (Kd.S_ne HO_11.out BK329.out (by decide))) | (show (Addr.add _ _).block ≠ _; rw [add_block]; exact Kd.own_blk (Kd.S_ne HO_11.out BK329.out (by decide))) | (dsimp only; exact Kd.own_blk (Kd.S_ne HO_11.out BK329.out (by decide)))) _).trans (((cell_far (p := ⟨gb329, _, none⟩) (by first | exact Kd.own_blk (Kd.S_ne HO_11.out BK329.out (by decide)) | (rw [add_block]; exact Kd.own_blk (Kd.S_ne HO_11.out BK329.out (by decide))) | (show (Addr.add _ _).block ≠ _; rw [add_block]; exact Kd.own_blk (Kd.S_ne HO_11.out BK329.out (by decide))) | (dsimp only; exact Kd.own_blk (Kd.S_ne HO_11.out BK329.out (by decide)))) _).trans (((cell_far (p := ⟨gb329, _, none⟩) (by first | exact Kd.own_blk (Kd.S_ne HO_11.out BK329.out (by decide)) | (rw [add_block]; exact Kd.own_blk (Kd.S_ne HO_11.out BK329.out (by decide))) | (show (Addr.add _ _).block ≠ _; rw [add_block]; exact Kd.own_blk (Kd.S_ne HO_11.out BK329.out (by decide))) | (dsimp only; exact Kd.own_blk (Kd.S_ne HO_11.out BK329.out (by decide)))) _).trans (((cell_far (p := ⟨gb329, _, none⟩) (by first | exact Kd.own_blk (Kd.S_ne HO_11.out BK329.out (by decide)) | (rw [add_block]; exact Kd.own_blk (Kd.S_ne HO_11.out BK329.out (by decide))) | (show (Addr.add _ _).block ≠ _; rw [add_block]; exact Kd.own_blk (Kd.S_ne HO_11.out BK329.out (by decide))) | (dsimp only; exact Kd.own_blk (Kd.S_ne HO_11.out BK329.out (by decide)))) _).trans (hHeld.2.2.2.2.2.2.2.2.2.2.1)))))))))))), ((cell_far (p := ⟨gb329, _, none⟩) (by first | exact Kd.own_blk (Kd.S_ne HO_11.out BK329.out (by decide)) | (rw [add_block]; exact Kd.own_blk (Kd.S_ne HO_11.out BK329.out (by decide))) | (show (Addr.add _ _).block ≠ _; rw [add_block]; exact Kd.own_blk (Kd.S_ne HO_11.out BK329.out (by decide))) | (dsimp only; exact Kd.own_blk (Kd.S_ne HO_11.out BK329.out (by decide)))) _).trans (((cell_far (p := ⟨gb329, _, none⟩) (by first | exact Kd.own_blk (Kd.S_ne HO_11.out BK329.out (by decide)) | (rw [add_block]; exact Kd.own_blk (Kd.S_ne HO_11.out BK329.out (by decide))) | (show (Addr.add _ _).block ≠ _; rw [add_block]; exact Kd.own_blk (Kd.S_ne HO_11.out BK329.out (by decide))) | (dsimp only; exact Kd.own_blk (Kd.S_ne HO_11.out BK329.out (by decide)))) _).trans (((cell_far (p := ⟨gb329, _, none⟩) (by first | exact Kd.own_blk (Kd.S_ne HO_11.out BK329.out (by decide)) | (rw [add_block]; exact Kd.own_blk (Kd.S_ne HO_11.out BK329.out (by decide))) | (show (Addr.add _ _).block ≠ _; rw [add_block]; exact Kd.own_blk (Kd.S_ne HO_11.out BK329.out (by decide))) | (dsimp only; exact Kd.own_blk (Kd.S_ne HO_11.out BK329.out (by decide)))) _).trans (((cell_far (p := ⟨gb329, _, none⟩) (by first | exact Kd.own_blk (Kd.S_ne HO_11.out BK329.out (by decide)) | (rw [add_block]; exact Kd.own_blk (Kd.S_ne HO_11.out BK329.out (by decide))) | (show (Addr.add _ _).block ≠ _; rw [add_block]; exact Kd.own_blk (Kd.S_ne HO_11.out BK329.out (by decide))) | (dsimp only; exact Kd.own_blk (Kd.S_ne HO_11.out BK329.out (by decide)))) _).trans (((cell_far (p := ⟨gb329, _, none⟩) (by first | exact Kd.own_blk (Kd.S_ne HO_11.out BK329.out (by decide)) | (rw [add_block]; exact Kd.own_blk (Kd.S_ne HO_11.out BK329.out (by decide))) | (show (Addr.add _ _).block ≠ _; rw [add_block]; exact Kd.own_blk (Kd.S_ne HO_11.out BK329.out (by decide))) | (dsimp only; exact Kd.own_blk (Kd.S_ne HO_11.out BK329.out (by decide)))) _).trans (((cell_far (p := ⟨gb329, _, none⟩) (by first | exact Kd.own_blk (Kd.S_ne HO_11.out BK329.out (by decide)) | (rw [add_block]; exact Kd.own_blk (Kd.S_ne HO_11.out BK329.out (by decide))) | (show (Addr.add _ _).block ≠ _; rw [add_block]; exact Kd.own_blk (Kd.S_ne HO_11.out BK329.out (by decide))) | (dsimp only; exact Kd.own_blk (Kd.S_ne HO_11.out BK329.out (by decide)))) _).trans (hHeld.2.2.2.2.2.2.2.2.2.2.2))))))))))))⟩ (fun hHeld => ?_)
   clear hK K
   refine done_ (done_of HT_.out (by kernel_rfl)) ?_
   try go_wp2
   go_loopg [16] k1 (fun kq v16 w' => ∃ (x16_2 : Int), v16 = .int .i64 x16_2 ∧ Aside0 (ambidextertop_TopSegments.l1 kq true t309 x13_1 x16_2 t305 t306 t307 t314 t315 t316 t317 t318 t319 t323 t324 t325 t326 t327 t328 = some r) ∧ Aside0 (kq ≤ k1) ∧ Aside0 (Kd.S k67 67 w' w.heap.size (fun _ => True) (.slice (some ad313) t309.length co23) t309) ∧ Aside0 (w'.heap[gb308]? = some (.cells #[.int .i64 t305, .int .i64 t306, .int .i64 t307] 25 (0, 0))) ∧ Aside0 (w'.heap[gb320]? = some (.cells #[.int .i64 t314, .int .i64 t315, .int .i64 t316, .int .i64 t317, .int .i64 t318, .int .i64 t319] 69 (0, 0))) ∧ Aside0 (w'.heap[gb329]? = some (.cells #[.int .i64 t323, .int .i64 t324, .int .i64 t325, .int .i64 t326, .int .i64 t327, .int .i64 t328] 69 (0, 0))) ∧ Aside0 (Below w.heap.size w w'))
   case atStart => exact ⟨(0), (by first | rfl | (simp; done) | (simp [*]; done)), H', ⟨Nat.le_refl _⟩, ⟨by (with_reducible repeat (first | apply Kd.S_alloc | apply Kd.S_drewN | apply Kd.S_drew)); exact Kd.S_mono (Kd.S_far (p := ⟨gb329, 5, none⟩) (Kd.S_far (p := ⟨gb329, 4, none⟩) (Kd.S_far (p := ⟨gb329, 3, none⟩) (Kd.S_far (p := ⟨gb329, 2, none⟩) (Kd.S_far (p := ⟨gb329, 1, none⟩) (Kd.S_far (p := ⟨gb329, 0, none⟩) (Kd.S_types HO_11.out BK329.out (by decide)) (fun _ hk => hk.2) (.int .i64 t323)) (fun _ hk => hk.2) (.int .i64 t324)) (fun _ hk => hk.2) (.int .i64 t325)) (fun _ hk => hk.2) (.int .i64 t326)) (fun _ hk => hk.2) (.int .i64 t327)) (fun _ hk => hk.2) (.int .i64 t328)) (fun _ hk => trivial)⟩, ⟨by (with_reducible repeat (first | refine blk_drewN ?_ _ | refine blk_drew ?_ | refine blk_alloc ?_ _)); refine blk_far ?_ NB308_329.out _; (with_reducible repeat (first | refine blk_drewN ?_ _ | refine blk_drew ?_ | refine blk_alloc ?_ _)); refine blk_far ?_ NB308_329.out _; (with_reducible repeat (first | refine blk_drewN ?_ _ | refine blk_drew ?_ | refine blk_alloc ?_ _)); refine blk_far ?_ NB308_329.out _; (with_reducible repeat (first | refine blk_drewN ?_ _ | refine blk_drew ?_ | refine blk_alloc ?_ _)); refine blk_far ?_ NB308_329.out _; (with_reducible repeat (first | refine blk_drewN ?_ _ | refine blk_drew ?_ | refine blk_alloc ?_ _)); refine blk_far ?_ NB308_329.out _; (with_reducible repeat (first | refine blk_drewN ?_ _ | refine blk_drew ?_ | refine blk_alloc ?_ _)); refine blk_far ?_ NB308_329.out _; (with_reducible repeat (first | refine blk_drewN ?_ _ | refine blk_drew ?_ | refine blk_alloc ?_ _)); exact BK308.out⟩, ⟨by (with_reducible repeat (first | refine blk_drewN ?_ _ | refine blk_drew ?_ | refine blk_alloc ?_ _)); refine blk_far ?_ NB320_329.out _; (with_reducible repeat (first | refine blk_drewN ?_ _ | refine blk_drew ?_ | refine blk_alloc ?_ _)); refine blk_far ?_ NB320_329.out _; (with_reducible repeat (first | refine blk_drewN ?_ _ | refine blk_drew ?_ | refine blk_alloc ?_ _)); refine blk_far ?_ NB320_329.out _; (with_reducible repeat (first | refine blk_drewN ?_ _ | refine blk_drew ?_ | refine blk_alloc ?_ _)); refine blk_far ?_ NB320_329.out _; (with_reducible repeat (first | refine blk_drewN ?_ _ | refine blk_drew ?_ | refine blk_alloc ?_ _)); refine blk_far ?_ NB320_329.out _; (with_reducible repeat (first | refine blk_drewN ?_ _ | refine blk_drew ?_ | refine blk_alloc ?_ _)); refine blk_far ?_ NB320_329.out _; (with_reducible repeat (first | refine blk_drewN ?_ _ | refine blk_drew ?_ | refine blk_alloc ?_ _)); exact BK320.out⟩, ⟨by (with_reducible repeat (first | refine blk_drewN ?_ _ | refine blk_drew ?_ | refine blk_alloc ?_ _)); refine blk_put (cs := #[.int .i64 t323, .int .i64 t324, .int .i64 t325, .int .i64 t326, .int .i64 t327, .int .i64 0]) ?_ 5 _ rfl; (with_reducible repeat (first | refine blk_drewN ?_ _ | refine blk_drew ?_ | refine blk_alloc ?_ _)); refine blk_put (cs := #[.int .i64 t323, .int .i64 t324, .int .i64 t325, .int .i64 t326, .int .i64 0, .int .i64 0]) ?_ 4 _ rfl; (with_reducible repeat (first | refine blk_drewN ?_ _ | refine blk_drew ?_ | refine blk_alloc ?_ _)); refine blk_put (cs := #[.int .i64 t323, .int .i64 t324, .int .i64 t325, .int .i64 0, .int .i64 0, .int .i64 0]) ?_ 3 _ rfl; (with_reducible repeat (first | refine blk_drewN ?_ _ | refine blk_drew ?_ | refine blk_alloc ?_ _)); refine blk_put (cs := #[.int .i64 t323, .int .i64 t324, .int .i64 0, .int .i64 0, .int .i64 0, .int .i64 0]) ?_ 2 _ rfl; (with_reducible repeat (first | refine blk_drewN ?_ _ | refine blk_drew ?_ | refine blk_alloc ?_ _)); refine blk_put (cs := #[.int .i64 t323, .int .i64 0, .int .i64 0, .int .i64 0, .int .i64 0, .int .i64 0]) ?_ 1 _ rfl; (with_reducible repeat (first | refine blk_drewN ?_ _ | refine blk_drew ?_ | refine blk_alloc ?_ _)); refine blk_put (cs := #[.int .i64 0, .int .i64 0, .int .i64 0, .int .i64 0, .int .i64 0, .int .i64 0]) ?_ 0 _ rfl; (with_reducible repeat (first | refine blk_drewN ?_ _ | refine blk_drew ?_ | refine blk_alloc ?_ _)); exact BK329.out⟩, ⟨by repeat (first | (with_reducible first | exact HB.out | apply below_alloc | apply pw_below_drewN | apply below_drew1 | refine below_set ?_ GE308.out | refine below_set ?_ GE320.out | refine below_set ?_ GE329.out) | exact HB.out)⟩⟩
   case round =>
    clear H'
    (try clear c1); (try clear c2); (try clear p2); (try clear c3); (try clear p3); (try clear q3); (try clear hx3); (try clear p6); (try clear c7); (try clear c7b0); (try clear c7b1); (try clear c13); (try clear c13b0); (try clear c13b1); (try clear c15); (try clear c19); (try clear c19b0); (try clear c20); (try clear c20b0); (try clear c26); (try clear c30); (try clear c31); (try clear p31); (try clear q31)
    (try clear hx31); (try clear c32); (try clear p32); (try clear q32); (try clear hx32); (try clear hcz11_0); (try clear hcz11_1); (try clear hcz11_2); (try clear hcz17_0); (try clear hcz17_1); (try clear hcz17_2); (try clear hcz27_0); (try clear hcz27_1); (try clear hcz27_2); (try clear hcz27_3); (try clear hcz27_4); (try clear hcz27_5); (try clear hfz11_0); (try clear hfz11_1); (try clear hfz11_2)
    (try clear hfz17_0); (try clear hfz17_1); (try clear hfz17_2); (try clear hfz27_0); (try clear hfz27_1); (try clear hfz27_2); (try clear hfz27_3); (try clear hfz27_4); (try clear hfz27_5); (try clear hx313_0); (try clear hx313_1); (try clear hx313_2); (try clear hx313_3); (try clear hx313_4); (try clear hx313_5); (try clear hx321_0); (try clear hx321_1); (try clear hx321_2); (try clear hx321_3)
    (try clear hx321_4); (try clear hx321_5); (try clear hx322_0); (try clear hx322_1); (try clear hx322_2); (try clear hx322_3); (try clear hx322_4); (try clear hx322_5); (try clear p313); (try clear p321); (try clear p322); (try clear q313); (try clear q321); (try clear q322)
    obtain ⟨x16_2, rfl, HA, HK2, HO_11, BK308, BK320, BK329, HB⟩ := hrel
    cases gk with
    | zero => exact absurd HA.out (by simp [ambidextertop_TopSegments.l1])
    | succ k2 =>
     have H := HA.out
     clear HA
     simp only [ambidextertop_TopSegments.l1] at H
     by_cases c39 : x16_2 < 6
     ·
      rw [if_pos c39] at H
      have c39b0 : decide (x16_2 < 6) = true := decide_eq_true c39
      clear c39
      obtain ⟨ji40, hji40⟩ : ∃ j_ : Int, (wrap64 (Int.tdiv x16_2 3)) = j_ := ⟨_, rfl⟩
      replace H : (if 0 ≤ (ji40) then (if (ji40) < 2 then (if 0 ≤ (Int.tmod x16_2 3) then (if (Int.tmod x16_2 3) < 3 then (if (Int.tmod (dget [t314, t315, t316, t317, t318, t319] ((ji40) * 3 + (Int.tmod x16_2 3))) 12) = 0 then (if (Int.tmod (dget [t323, t324, t325, t326, t327, t328] ((ji40) * 3 + (Int.tmod x16_2 3))) 12) = 0 then (ambidextertop_TopSegments.l1 k2 true t309 x13_1 (wrap64 (x16_2 + 1)) t305 t306 t307 t314 t315 t316 t317 t318 t319 t323 t324 t325 t326 t327 t328) else (some false)) else (some false)) else (none)) else (none)) else (none)) else (none)) = some r := by first | (rw [hji40] at H; exact H) | (simp only [hji40] at H ⊢; exact H)
      have hji40w : (IntKind.i64.wrap (Int.tdiv x16_2 3)) = ji40 := (i64_w _).trans hji40
      by_cases c41 : 0 ≤ (ji40)
      case neg =>
       rw [if_neg c41] at H
       exact absurd H (by simp)
      rw [if_pos c41] at H
      have c41b0 : decide (0 ≤ (ji40)) = true := decide_eq_true c41
      clear c41
      by_cases c42 : (ji40) < 2
      case neg =>
       rw [if_neg c42] at H
       exact absurd H (by simp)
      rw [if_pos c42] at H
      have c42b0 : decide ((ji40) < 2) = true := decide_eq_true c42
      clear c42
      obtain ⟨ji43, hji43⟩ : ∃ j_ : Int, (Int.tmod x16_2 3) = j_ := ⟨_, rfl⟩
      replace H : (if 0 ≤ (ji43) then (if (ji43) < 3 then (if (Int.tmod (dget [t314, t315, t316, t317, t318, t319] ((ji40) * 3 + (ji43))) 12) = 0 then (if (Int.tmod (dget [t323, t324, t325, t326, t327, t328] ((ji40) * 3 + (ji43))) 12) = 0 then (ambidextertop_TopSegments.l1 k2 true t309 x13_1 (wrap64 (x16_2 + 1)) t305 t306 t307 t314 t315 t316 t317 t318 t319 t323 t324 t325 t326 t327 t328) else (some false)) else (some false)) else (none)) else (none)) = some r := by first | (rw [hji43] at H; exact H) | (simp only [hji43] at H ⊢; exact H)
      by_cases c44 : 0 ≤ (ji43)
      case neg =>
       rw [if_neg c44] at H
       exact absurd H (by simp)
      rw [if_pos c44] at H
      have c44b0 : decide (0 ≤ (ji43)) = true := decide_eq_true c44
      clear c44
      by_cases c45 : (ji43) < 3
      case neg =>
       rw [if_neg c45] at H
       exact absurd H (by simp)
      rw [if_pos c45] at H
      have c45b0 : decide ((ji43) < 3) = true := decide_eq_true c45
      clear c45
      by_cases c46 : (Int.tmod (dget [t314, t315, t316, t317, t318, t319] ((ji40) * 3 + (ji43))) 12) = 0
      case neg =>
       rw [if_neg c46] at H
       have c46b0 : ((Int.tmod (dget [t314, t315, t316, t317, t318, t319] ((ji40) * 3 + (ji43))) 12) == 0) = false := beq_eq_false_iff_ne.mpr c46
       have c46b1 : ((Int.tmod (dget [t314, t315, t316, t317, t318, t319] ((ji40) * 3 + (ji43))) 12) != 0) = true := bne_iff_ne.mpr c46
       exact absurd HT.out (by rw [← Option.some.inj H]; decide)
      rw [if_pos c46] at H
      have c46b0 : ((Int.tmod (dget [t314, t315, t316, t317, t318, t319] ((ji40) * 3 + (ji43))) 12) == 0) = true := beq_iff_eq.mpr c46
      have c46b1 : ((Int.tmod (dget [t314, t315, t316, t317, t318, t319] ((ji40) * 3 + (ji43))) 12) != 0) = false := bne_eq_false_iff_eq.mpr c46
      clear c46
      by_cases c47 : (Int.tmod (dget [t323, t324, t325, t326, t327, t328] ((ji40) * 3 + (ji43))) 12) = 0
      case neg =>
       rw [if_neg c47] at H
       have c47b0 : ((Int.tmod (dget [t323, t324, t325, t326, t327, t328] ((ji40) * 3 + (ji43))) 12) == 0) = false := beq_eq_false_iff_ne.mpr c47
       have c47b1 : ((Int.tmod (dget [t323, t324, t325, t326, t327, t328] ((ji40) * 3 + (ji43))) 12) != 0) = true := bne_iff_ne.mpr c47
       exact absurd HT.out (by rw [← Option.some.inj H]; decide)
      rw [if_pos c47] at H
      have c47b0 : ((Int.tmod (dget [t323, t324, t325, t326, t327, t328] ((ji40) * 3 + (ji43))) 12) == 0) = true := beq_iff_eq.mpr c47
      have c47b1 : ((Int.tmod (dget [t323, t324, t325, t326, t327, t328] ((ji40) * 3 + (ji43))) 12) != 0) = false := bne_eq_false_iff_eq.mpr c47
      clear c47
      have H' := Aside0.mk H
      clear H
      have hnb49 := NB320_308.out
      have hnc49 := NB308_320.out
      have hnb50 := NB320_329.out
      have hnc50 := NB329_320.out
      have hcz51_0 : wr.cell? ⟨gb320, 0, none⟩ = some (.int .i64 t314) := (blk_cell BK320.out 0).trans rfl
      have hcz51_1 : wr.cell? ⟨gb320, 1, none⟩ = some (.int .i64 t315) := (blk_cell BK320.out 1).trans rfl
      have hcz51_2 : wr.cell? ⟨gb320, 2, none⟩ = some (.int .i64 t316) := (blk_cell BK320.out 2).trans rfl
      have hcz51_3 : wr.cell? ⟨gb320, 3, none⟩ = some (.int .i64 t317) := (blk_cell BK320.out 3).trans rfl
      have hcz51_4 : wr.cell? ⟨gb320, 4, none⟩ = some (.int .i64 t318) := (blk_cell BK320.out 4).trans rfl
      have hcz51_5 : wr.cell? ⟨gb320, 5, none⟩ = some (.int .i64 t319) := (blk_cell BK320.out 5).trans rfl
      have hfz51_0 := blk_frozen BK320.out 0
      have hfz51_1 := blk_frozen BK320.out 1
      have hfz51_2 := blk_frozen BK320.out 2
      have hfz51_3 := blk_frozen BK320.out 3
      have hfz51_4 := blk_frozen BK320.out 4
      have hfz51_5 := blk_frozen BK320.out 5
      have ppd48_0 : (0 ≤ (ji40 : Int)) = True := eq_true (of_decide_eq_true (by first | (with_reducible assumption) | assumption))
      have qqd48_0 : ((ji40 : Int) < 2) = True := eq_true (of_decide_eq_true (by first | (with_reducible assumption) | assumption))
      have ppd48_1 : (0 ≤ (ji43 : Int)) = True := eq_true (of_decide_eq_true (by first | (with_reducible assumption) | assumption))
      have qqd48_1 : ((ji43 : Int) < 3) = True := eq_true (of_decide_eq_true (by first | (with_reducible assumption) | assumption))
      have hdd48 : wr.cell? ⟨gb320, ((ji40) : Int).toNat * 3 + ((ji43) : Int).toNat, none⟩ = some (.int .i64 (dget [t314, t315, t316, t317, t318, t319] ((ji40) * 3 + (ji43)))) := (blk_cell BK320.out _).trans (dget6 (of_eq_true ppd48_0) (of_eq_true qqd48_0) (of_eq_true ppd48_1) (of_eq_true qqd48_1))
      have hnb53 := NB329_308.out
      have hnc53 := NB308_329.out
      have hcz54_0 : wr.cell? ⟨gb329, 0, none⟩ = some (.int .i64 t323) := (blk_cell BK329.out 0).trans rfl
      have hcz54_1 : wr.cell? ⟨gb329, 1, none⟩ = some (.int .i64 t324) := (blk_cell BK329.out 1).trans rfl
      have hcz54_2 : wr.cell? ⟨gb329, 2, none⟩ = some (.int .i64 t325) := (blk_cell BK329.out 2).trans rfl
      have hcz54_3 : wr.cell? ⟨gb329, 3, none⟩ = some (.int .i64 t326) := (blk_cell BK329.out 3).trans rfl
      have hcz54_4 : wr.cell? ⟨gb329, 4, none⟩ = some (.int .i64 t327) := (blk_cell BK329.out 4).trans rfl
      have hcz54_5 : wr.cell? ⟨gb329, 5, none⟩ = some (.int .i64 t328) := (blk_cell BK329.out 5).trans rfl
      have hfz54_0 := blk_frozen BK329.out 0
      have hfz54_1 := blk_frozen BK329.out 1
      have hfz54_2 := blk_frozen BK329.out 2
      have hfz54_3 := blk_frozen BK329.out 3
      have hfz54_4 := blk_frozen BK329.out 4
      have hfz54_5 := blk_frozen BK329.out 5
      have ppd52_0 : (0 ≤ (ji40 : Int)) = True := eq_true (of_decide_eq_true (by first | (with_reducible assumption) | assumption))
      have qqd52_0 : ((ji40 : Int) < 2) = True := eq_true (of_decide_eq_true (by first | (with_reducible assumption) | assumption))
      have ppd52_1 : (0 ≤ (ji43 : Int)) = True := eq_true (of_decide_eq_true (by first | (with_reducible assumption) | assumption))
      have qqd52_1 : ((ji43 : Int) < 3) = True := eq_true (of_decide_eq_true (by first | (with_reducible assumption) | assumption))
      have hdd52 : wr.cell? ⟨gb329, ((ji40) : Int).toNat * 3 + ((ji43) : Int).toNat, none⟩ = some (.int .i64 (dget [t323, t324, t325, t326, t327, t328] ((ji40) * 3 + (ji43)))) := (blk_cell BK329.out _).trans (dget6 (of_eq_true ppd52_0) (of_eq_true qqd52_0) (of_eq_true ppd52_1) (of_eq_true qqd52_1))
      go_wp2
      go_roundg k2
      case measure => have := HK1.out; have := HK2.out; omega
      case rel => exact ⟨(wrap64 (x16_2 + 1)), (by first | rfl | (simp; done) | (simp [*]; done)), H', ⟨by have := HK1.out; have := HK2.out; omega⟩, ⟨by (with_reducible repeat (first | apply Kd.S_alloc | apply Kd.S_drewN | apply Kd.S_drew)); exact HO_11.out⟩, ⟨by (with_reducible repeat (first | refine blk_drewN ?_ _ | refine blk_drew ?_ | refine blk_alloc ?_ _)); exact BK308.out⟩, ⟨by (with_reducible repeat (first | refine blk_drewN ?_ _ | refine blk_drew ?_ | refine blk_alloc ?_ _)); exact BK320.out⟩, ⟨by (with_reducible repeat (first | refine blk_drewN ?_ _ | refine blk_drew ?_ | refine blk_alloc ?_ _)); exact BK329.out⟩, ⟨by repeat (first | (with_reducible first | exact HB.out | apply below_alloc | apply pw_below_drewN | apply below_drew1 | refine below_set ?_ GE308.out | refine below_set ?_ GE320.out | refine below_set ?_ GE329.out) | exact HB.out)⟩⟩
     rw [if_neg c39] at H
     have c39b0 : decide (x16_2 < 6) = false := decide_eq_false c39
     clear c39
     by_cases c55 : 0 ≤ x13_1
     case neg =>
      rw [if_neg c55] at H
      exact absurd H (by simp)
     rw [if_pos c55] at H
     have c55b0 : decide (0 ≤ x13_1) = true := decide_eq_true c55
     clear c55
     by_cases c56 : x13_1 < (t309.length : Int)
     case neg =>
      rw [if_neg c56] at H
      exact absurd H (by simp)
     rw [if_pos c56] at H
     have c56b0 : decide (x13_1 < (t309.length : Int)) = true := decide_eq_true c56
     clear c56
     replace H := Option.bind_eq_some_iff.mp H
     obtain ⟨⟨t331, t332, t333⟩, A570, H⟩ := H
     replace H : ((ambidexterref21_End.f k2 0 0 0 ((rd_T67 t309 x13_1).f2)).bind fun bt335 => (if (!(t331 == bt335.1) || (!(t332 == bt335.2.1) || (!(t333 == bt335.2.2)))) = true then (some false) else ((ambidexterref21_End.f k2 0 0 0 ((rd_T67 t309 x13_1).f2)).bind fun bt339 => (if (!(bt339.1 == (wrap64 (12 * ((rd_T67 t309 x13_1).f0.f1)))) || (!(bt339.2.1 == 0) || (!(bt339.2.2 == 0)))) = true then (some false) else ((profile_Within.f t305 t306 t307 0 0 0 ((rd_T67 t309 x13_1).f2)).bind fun t344 => (if t344 = true then (ambidextertop_TopSegments.l0 k2 true t309 (wrap64 (x13_1 + 1)) t305 t306 t307) else (some false))))))) = some r := H
     have A57 := Aside0.mk A570
     clear A570
     replace H := Option.bind_eq_some_iff.mp H
     obtain ⟨⟨t335, t336, t337⟩, A580, H⟩ := H
     replace H : (if (!(t331 == t335) || (!(t332 == t336) || (!(t333 == t337)))) = true then (some false) else ((ambidexterref21_End.f k2 0 0 0 ((rd_T67 t309 x13_1).f2)).bind fun bt339 => (if (!(bt339.1 == (wrap64 (12 * ((rd_T67 t309 x13_1).f0.f1)))) || (!(bt339.2.1 == 0) || (!(bt339.2.2 == 0)))) = true then (some false) else ((profile_Within.f t305 t306 t307 0 0 0 ((rd_T67 t309 x13_1).f2)).bind fun t344 => (if t344 = true then (ambidextertop_TopSegments.l0 k2 true t309 (wrap64 (x13_1 + 1)) t305 t306 t307) else (some false)))))) = some r := H
     have A58 := Aside0.mk A580
     clear A580
     by_cases c59 : (!(t331 == t335) || (!(t332 == t336) || (!(t333 == t337)))) = true
     ·
      rw [if_pos c59] at H
      have c59b0 : (!(t331 == t335) || (!(t332 == t336) || (!(t333 == t337)))) = true := c59
      clear c59
      exact absurd HT.out (by rw [← Option.some.inj H]; decide)
     rw [if_neg c59] at H
     have c59b0 : (!(t331 == t335) || (!(t332 == t336) || (!(t333 == t337)))) = false := by simpa using c59
     clear c59
     replace H := Option.bind_eq_some_iff.mp H
     obtain ⟨⟨t339, t340, t341⟩, A600, H⟩ := H
     replace H : (if (!(t339 == (wrap64 (12 * ((rd_T67 t309 x13_1).f0.f1)))) || (!(t340 == 0) || (!(t341 == 0)))) = true then (some false) else ((profile_Within.f t305 t306 t307 0 0 0 ((rd_T67 t309 x13_1).f2)).bind fun t344 => (if t344 = true then (ambidextertop_TopSegments.l0 k2 true t309 (wrap64 (x13_1 + 1)) t305 t306 t307) else (some false)))) = some r := H
     have A60 := Aside0.mk A600
     clear A600
     by_cases c61 : (!(t339 == (wrap64 (12 * ((rd_T67 t309 x13_1).f0.f1)))) || (!(t340 == 0) || (!(t341 == 0)))) = true
     ·
      rw [if_pos c61] at H
      have c61b0 : (!(t339 == (wrap64 (12 * ((rd_T67 t309 x13_1).f0.f1)))) || (!(t340 == 0) || (!(t341 == 0)))) = true := c61
      clear c61
      exact absurd HT.out (by rw [← Option.some.inj H]; decide)
     rw [if_neg c61] at H
     have c61b0 : (!(t339 == (wrap64 (12 * ((rd_T67 t309 x13_1).f0.f1)))) || (!(t340 == 0) || (!(t341 == 0)))) = false := by simpa using c61
     clear c61
     replace H := Option.bind_eq_some_iff.mp H
     obtain ⟨t344, A620, H⟩ := H
     replace H : (if t344 = true then (ambidextertop_TopSegments.l0 k2 true t309 (wrap64 (x13_1 + 1)) t305 t306 t307) else (some false)) = some r := H
     have A62 := Aside0.mk A620
     clear A620
     by_cases c63 : t344 = true
     case neg =>
      replace c63 := Bool.eq_false_iff.mpr c63
      subst c63
      have H1 : (some false) = some r := by rw [if_neg (show ¬ (false = true) by decide)] at H; exact H
      clear H
      have H := H1
      clear H1
      exact absurd HT.out (by rw [← Option.some.inj H]; decide)
     subst c63
     have H1 : (ambidextertop_TopSegments.l0 k2 true t309 (wrap64 (x13_1 + 1)) t305 t306 t307) = some r := by rw [if_pos rfl] at H; exact H
     clear H
     have H := H1
     clear H1
     have H' := Aside0.mk H
     clear H
     try go_wp2
     have n0_ := Aside0.mk (Kd.S_drew HO_11.out)
     have n1_ := Aside0.mk (blk_drew BK308.out)
     have n2_ := Aside0.mk (blk_drew BK320.out)
     have n3_ := Aside0.mk (blk_drew BK329.out)
     have n4_ := Aside0.mk (below_drew1 HB.out)
     clear HO_11
     clear BK308
     clear BK320
     clear BK329
     clear HB
     have HO_11 := n0_
     have BK308 := n1_
     have BK320 := n2_
     have BK329 := n3_
     have HB := n4_
     clear n0_ n1_ n2_ n3_ n4_
     have p330 : 0 ≤ (x13_1 : Int) := of_decide_eq_true (by first | (with_reducible assumption) | assumption)
     have q330 : x13_1 < (t309.length : Int) := of_decide_eq_true (by first | (with_reducible assumption) | assumption)
     obtain ⟨ad330, A330_5, c330_5, e330, hx330_0, hx330_1, hx330_2, hx330_3, hx330_4, hx330_5, hl330_5, hi330_5⟩ := at_T67 (Kd.S_reads' HO_11.out).2.2 x13_1 p330 q330
     obtain rfl : ad313 = ad330 := (by injection e330)
     obtain ⟨ce330, hce330, hMe330, hcc330⟩ := Kd.S_get HO_11.out z67 x13_1 p330 (by first | exact q330 | exact of_decide_eq_true (by first | (with_reducible assumption) | assumption) | (have e_ := (Kd.S_reads' HO_11.out).1; omega))
     obtain ⟨ve330_5, rfl, ge330_5⟩ := k67_openM hMe330
     have hv330_5 := hcc330 5 _ rfl
     rw [add_field _ _ 5 (by omega)] at hv330_5
     replace hv330_5 := Option.some.inj (hv330_5.symm.trans hx330_5)
     rw [hv330_5] at ge330_5
     have HL330_5 := Aside0.mk (show Kd.R (Kd.int .i64) 3 _ _ _ _ ((rd_T67 t309 x13_1).f2) from ge330_5)
     clear hv330_5 ge330_5
     clear hcc330 hce330
     have HR330_5 := Aside0.mk hi330_5
     have HC330_5 := Aside0.mk hl330_5
     clear hi330_5 hl330_5
     replace p330 := eq_true p330
     replace q330 := eq_true q330
     have p334 : 0 ≤ (x13_1 : Int) := of_decide_eq_true (by first | (with_reducible assumption) | assumption)
     have q334 : x13_1 < (t309.length : Int) := of_decide_eq_true (by first | (with_reducible assumption) | assumption)
     obtain ⟨ad334, A334_5, c334_5, e334, hx334_0, hx334_1, hx334_2, hx334_3, hx334_4, hx334_5, hl334_5, hi334_5⟩ := at_T67 (Kd.S_reads' HO_11.out).2.2 x13_1 p334 q334
     obtain rfl : ad313 = ad334 := (by injection e334)
     obtain ⟨ce334, hce334, hMe334, hcc334⟩ := Kd.S_get HO_11.out z67 x13_1 p334 (by first | exact q334 | exact of_decide_eq_true (by first | (with_reducible assumption) | assumption) | (have e_ := (Kd.S_reads' HO_11.out).1; omega))
     obtain ⟨ve334_5, rfl, ge334_5⟩ := k67_openM hMe334
     have hv334_5 := hcc334 5 _ rfl
     rw [add_field _ _ 5 (by omega)] at hv334_5
     replace hv334_5 := Option.some.inj (hv334_5.symm.trans hx334_5)
     rw [hv334_5] at ge334_5
     have HL334_5 := Aside0.mk (show Kd.R (Kd.int .i64) 3 _ _ _ _ ((rd_T67 t309 x13_1).f2) from ge334_5)
     clear hv334_5 ge334_5
     clear hcc334 hce334
     have HR334_5 := Aside0.mk hi334_5
     have HC334_5 := Aside0.mk hl334_5
     clear hi334_5 hl334_5
     replace p334 := eq_true p334
     replace q334 := eq_true q334
     have ea_ := Option.some.inj (hx330_5.symm.trans hx334_5)
     injection ea_ with ea_ en_ ec_
     subst ea_
     subst ec_
     clear en_
     have p338 : 0 ≤ (x13_1 : Int) := of_decide_eq_true (by first | (with_reducible assumption) | assumption)
     have q338 : x13_1 < (t309.length : Int) := of_decide_eq_true (by first | (with_reducible assumption) | assumption)
     obtain ⟨ad338, A338_5, c338_5, e338, hx338_0, hx338_1, hx338_2, hx338_3, hx338_4, hx338_5, hl338_5, hi338_5⟩ := at_T67 (Kd.S_reads' HO_11.out).2.2 x13_1 p338 q338
     obtain rfl : ad313 = ad338 := (by injection e338)
     obtain ⟨ce338, hce338, hMe338, hcc338⟩ := Kd.S_get HO_11.out z67 x13_1 p338 (by first | exact q338 | exact of_decide_eq_true (by first | (with_reducible assumption) | assumption) | (have e_ := (Kd.S_reads' HO_11.out).1; omega))
     obtain ⟨ve338_5, rfl, ge338_5⟩ := k67_openM hMe338
     have hv338_5 := hcc338 5 _ rfl
     rw [add_field _ _ 5 (by omega)] at hv338_5
     replace hv338_5 := Option.some.inj (hv338_5.symm.trans hx338_5)
     rw [hv338_5] at ge338_5
     have HL338_5 := Aside0.mk (show Kd.R (Kd.int .i64) 3 _ _ _ _ ((rd_T67 t309 x13_1).f2) from ge338_5)
     clear hv338_5 ge338_5
     clear hcc338 hce338
     have HR338_5 := Aside0.mk hi338_5
     have HC338_5 := Aside0.mk hl338_5
     clear hi338_5 hl338_5
     replace p338 := eq_true p338
     replace q338 := eq_true q338
     have ea_ := Option.some.inj (hx330_5.symm.trans hx338_5)
     injection ea_ with ea_ en_ ec_
     subst ea_
     subst ec_
     clear en_
     have p342 : 0 ≤ (x13_1 : Int) := of_decide_eq_true (by first | (with_reducible assumption) | assumption)
     have q342 : x13_1 < (t309.length : Int) := of_decide_eq_true (by first | (with_reducible assumption) | assumption)
     obtain ⟨ad342, A342_5, c342_5, e342, hx342_0, hx342_1, hx342_2, hx342_3, hx342_4, hx342_5, hl342_5, hi342_5⟩ := at_T67 (Kd.S_reads' HO_11.out).2.2 x13_1 p342 q342
     obtain rfl : ad313 = ad342 := (by injection e342)
     obtain ⟨ce342, hce342, hMe342, hcc342⟩ := Kd.S_get HO_11.out z67 x13_1 p342 (by first | exact q342 | exact of_decide_eq_true (by first | (with_reducible assumption) | assumption) | (have e_ := (Kd.S_reads' HO_11.out).1; omega))
     obtain ⟨ve342_5, rfl, ge342_5⟩ := k67_openM hMe342
     have hv342_5 := hcc342 5 _ rfl
     rw [add_field _ _ 5 (by omega)] at hv342_5
     replace hv342_5 := Option.some.inj (hv342_5.symm.trans hx342_5)
     rw [hv342_5] at ge342_5
     have HL342_5 := Aside0.mk (show Kd.R (Kd.int .i64) 3 _ _ _ _ ((rd_T67 t309 x13_1).f2) from ge342_5)
     clear hv342_5 ge342_5
     clear hcc342 hce342
     have HR342_5 := Aside0.mk hi342_5
     have HC342_5 := Aside0.mk hl342_5
     clear hi342_5 hl342_5
     replace p342 := eq_true p342
     replace q342 := eq_true q342
     have ea_ := Option.some.inj (hx330_5.symm.trans hx342_5)
     injection ea_ with ea_ en_ ec_
     subst ea_
     subst ec_
     clear en_
     have p343 : 0 ≤ (x13_1 : Int) := of_decide_eq_true (by first | (with_reducible assumption) | assumption)
     have q343 : x13_1 < (t309.length : Int) := of_decide_eq_true (by first | (with_reducible assumption) | assumption)
     obtain ⟨ad343, A343_5, c343_5, e343, hx343_0, hx343_1, hx343_2, hx343_3, hx343_4, hx343_5, hl343_5, hi343_5⟩ := at_T67 (Kd.S_reads' HO_11.out).2.2 x13_1 p343 q343
     obtain rfl : ad313 = ad343 := (by injection e343)
     obtain ⟨ce343, hce343, hMe343, hcc343⟩ := Kd.S_get HO_11.out z67 x13_1 p343 (by first | exact q343 | exact of_decide_eq_true (by first | (with_reducible assumption) | assumption) | (have e_ := (Kd.S_reads' HO_11.out).1; omega))
     obtain ⟨ve343_5, rfl, ge343_5⟩ := k67_openM hMe343
     have hv343_5 := hcc343 5 _ rfl
     rw [add_field _ _ 5 (by omega)] at hv343_5
     replace hv343_5 := Option.some.inj (hv343_5.symm.trans hx343_5)
     rw [hv343_5] at ge343_5
     have HL343_5 := Aside0.mk (show Kd.R (Kd.int .i64) 3 _ _ _ _ ((rd_T67 t309 x13_1).f2) from ge343_5)
     clear hv343_5 ge343_5
     clear hcc343 hce343
     have HR343_5 := Aside0.mk hi343_5
     have HC343_5 := Aside0.mk hl343_5
     clear hi343_5 hl343_5
     replace p343 := eq_true p343
     replace q343 := eq_true q343
     have ea_ := Option.some.inj (hx342_5.symm.trans hx343_5)
     injection ea_ with ea_ en_ ec_
     subst ea_
     subst ec_
     clear en_
     refine start_ (n := 44) (S := fun w' => w'.cell? ⟨gb308, 0, none⟩ = some (.int .i64 t305) ∧ w'.cell? ⟨gb308, 1, none⟩ = some (.int .i64 t306) ∧ w'.cell? ⟨gb308, 2, none⟩ = some (.int .i64 t307) ∧ w'.cell? (ad313.add ((x13_1).toNat * 6)) = some (.int .i64 ((rd_T67 t309 x13_1).f0.f0.f0)) ∧ w'.cell? ⟨(ad313.add ((x13_1).toNat * 6)).block, (ad313.add ((x13_1).toNat * 6)).off + 1, none⟩ = some (.int .i64 ((rd_T67 t309 x13_1).f0.f0.f1)) ∧ w'.cell? ⟨(ad313.add ((x13_1).toNat * 6)).block, (ad313.add ((x13_1).toNat * 6)).off + 2, none⟩ = some (.int .i64 ((rd_T67 t309 x13_1).f0.f0.f2)) ∧ w'.cell? ⟨(ad313.add ((x13_1).toNat * 6)).block, (ad313.add ((x13_1).toNat * 6)).off + 3, none⟩ = some (.int .i64 ((rd_T67 t309 x13_1).f0.f1)) ∧ w'.cell? ⟨(ad313.add ((x13_1).toNat * 6)).block, (ad313.add ((x13_1).toNat * 6)).off + 4, none⟩ = some (.int .i64 ((rd_T67 t309 x13_1).f1)) ∧ w'.cell? ⟨(ad313.add ((x13_1).toNat * 6)).block, (ad313.add ((x13_1).toNat * 6)).off + 5, none⟩ = some (.slice A330_5 ((rd_T67 t309 x13_1).f2).length c330_5) ∧ w'.cell? (ad313.add ((x13_1).toNat * 6)) = some (.int .i64 ((rd_T67 t309 x13_1).f0.f0.f0)) ∧ w'.cell? ⟨(ad313.add ((x13_1).toNat * 6)).block, (ad313.add ((x13_1).toNat * 6)).off + 1, none⟩ = some (.int .i64 ((rd_T67 t309 x13_1).f0.f0.f1)) ∧ w'.cell? ⟨(ad313.add ((x13_1).toNat * 6)).block, (ad313.add ((x13_1).toNat * 6)).off + 2, none⟩ = some (.int .i64 ((rd_T67 t309 x13_1).f0.f0.f2)) ∧ w'.cell? ⟨(ad313.add ((x13_1).toNat * 6)).block, (ad313.add ((x13_1).toNat * 6)).off + 3, none⟩ = some (.int .i64 ((rd_T67 t309 x13_1).f0.f1)) ∧ w'.cell? ⟨(ad313.add ((x13_1).toNat * 6)).block, (ad313.add ((x13_1).toNat * 6)).off + 4, none⟩ = some (.int .i64 ((rd_T67 t309 x13_1).f1)) ∧ w'.cell? ⟨(ad313.add ((x13_1).toNat * 6)).block, (ad313.add ((x13_1).toNat * 6)).off + 5, none⟩ = some (.slice A330_5 ((rd_T67 t309 x13_1).f2).length c330_5) ∧ w'.cell? (ad313.add ((x13_1).toNat * 6)) = some (.int .i64 ((rd_T67 t309 x13_1).f0.f0.f0)) ∧ w'.cell? ⟨(ad313.add ((x13_1).toNat * 6)).block, (ad313.add ((x13_1).toNat * 6)).off + 1, none⟩ = some (.int .i64 ((rd_T67 t309 x13_1).f0.f0.f1)) ∧ w'.cell? ⟨(ad313.add ((x13_1).toNat * 6)).block, (ad313.add ((x13_1).toNat * 6)).off + 2, none⟩ = some (.int .i64 ((rd_T67 t309 x13_1).f0.f0.f2)) ∧ w'.cell? ⟨(ad313.add ((x13_1).toNat * 6)).block, (ad313.add ((x13_1).toNat * 6)).off + 3, none⟩ = some (.int .i64 ((rd_T67 t309 x13_1).f0.f1)) ∧ w'.cell? ⟨(ad313.add ((x13_1).toNat * 6)).block, (ad313.add ((x13_1).toNat * 6)).off + 4, none⟩ = some (.int .i64 ((rd_T67 t309 x13_1).f1)) ∧ w'.cell? ⟨(ad313.add ((x13_1).toNat * 6)).block, (ad313.add ((x13_1).toNat * 6)).off + 5, none⟩ = some (.slice A330_5 ((rd_T67 t309 x13_1).f2).length c330_5) ∧ w'.cell? (ad313.add ((x13_1).toNat * 6)) = some (.int .i64 ((rd_T67 t309 x13_1).f0.f0.f0)) ∧ w'.cell? ⟨(ad313.add ((x13_1).toNat * 6)).block, (ad313.add ((x13_1).toNat * 6)).off + 1, none⟩ = some (.int .i64 ((rd_T67 t309 x13_1).f0.f0.f1)) ∧ w'.cell? ⟨(ad313.add ((x13_1).toNat * 6)).block, (ad313.add ((x13_1).toNat * 6)).off + 2, none⟩ = some (.int .i64 ((rd_T67 t309 x13_1).f0.f0.f2)) ∧ w'.cell? ⟨(ad313.add ((x13_1).toNat * 6)).block, (ad313.add ((x13_1).toNat * 6)).off + 3, none⟩ = some (.int .i64 ((rd_T67 t309 x13_1).f0.f1)) ∧ w'.cell? ⟨(ad313.add ((x13_1).toNat * 6)).block, (ad313.add ((x13_1).toNat * 6)).off + 4, none⟩ = some (.int .i64 ((rd_T67 t309 x13_1).f1)) ∧ w'.cell? ⟨(ad313.add ((x13_1).toNat * 6)).block, (ad313.add ((x13_1).toNat * 6)).off + 5, none⟩ = some (.slice A330_5 ((rd_T67 t309 x13_1).f2).length c330_5) ∧ w'.cell? (ad313.add ((x13_1).toNat * 6)) = some (.int .i64 ((rd_T67 t309 x13_1).f0.f0.f0)) ∧ w'.cell? ⟨(ad313.add ((x13_1).toNat * 6)).block, (ad313.add ((x13_1).toNat * 6)).off + 1, none⟩ = some (.int .i64 ((rd_T67 t309 x13_1).f0.f0.f1)) ∧ w'.cell? ⟨(ad313.add ((x13_1).toNat * 6)).block, (ad313.add ((x13_1).toNat * 6)).off + 2, none⟩ = some (.int .i64 ((rd_T67 t309 x13_1).f0.f0.f2)) ∧ w'.cell? ⟨(ad313.add ((x13_1).toNat * 6)).block, (ad313.add ((x13_1).toNat * 6)).off + 3, none⟩ = some (.int .i64 ((rd_T67 t309 x13_1).f0.f1)) ∧ w'.cell? ⟨(ad313.add ((x13_1).toNat * 6)).block, (ad313.add ((x13_1).toNat * 6)).off + 4, none⟩ = some (.int .i64 ((rd_T67 t309 x13_1).f1)) ∧ w'.cell? ⟨(ad313.add ((x13_1).toNat * 6)).block, (ad313.add ((x13_1).toNat * 6)).off + 5, none⟩ = some (.slice A330_5 ((rd_T67 t309 x13_1).f2).length c330_5)) (ds := []) #[O,O,O,O,O,O,O,O,O,O,O,O,O,O,O,O,O,O,O,O,O,O,O,O,O,O,O,O,O,O,O,O,O,O,O,O,O,O,O,O,O,O,O,O] (by kernel_rfl) rfl rfl ⟨(blk_cell BK308.out 0).trans rfl, (blk_cell BK308.out 1).trans rfl, (blk_cell BK308.out 2).trans rfl, hx330_0, hx330_1, hx330_2, hx330_3, hx330_4, hx330_5, hx334_0, hx334_1, hx334_2, hx334_3, hx334_4, hx334_5, hx338_0, hx338_1, hx338_2, hx338_3, hx338_4, hx338_5, hx342_0, hx342_1, hx342_2, hx342_3, hx342_4, hx342_5, hx343_0, hx343_1, hx343_2, hx343_3, hx343_4, hx343_5⟩ (fun hHeld => ?_); refine with_tabW ambidextertop_TopSegments.tab18 ambidextertop_TopSegments.bits18 (fun HT_ HW_ => ?_)
     generalize wr.drew = w64 at HO_11 BK308 BK320 BK329 HB HL330_5 HL334_5 HL338_5 HL342_5 HL343_5 HR330_5 HR334_5 HR338_5 HR342_5 HR343_5 hx330_0 hx330_1 hx330_2 hx330_3 hx330_4 hx330_5 hx334_0 hx334_1 hx334_2 hx334_3 hx334_4 hx334_5 hx338_0 hx338_1 hx338_2 hx338_3 hx338_4 hx338_5 hx342_0 hx342_1 hx342_2 hx342_3 hx342_4 hx342_5 hx343_0 hx343_1 hx343_2 hx343_3 hx343_4 hx343_5 hHeld ⊢
     refine pq_ (i := 0) (N := some 88) #[I,O,O,O,O,O,O,O,O,O,O,O,O,O,O,O,O,O,O,O,O,O,O,O,O,O,O,O,O,O,O,O,O,O,O,O,O,O,O,O,O,O,O,O] HT_ ?_
     refine pq_ (i := 1) (N := some 89) #[I,I,O,O,O,O,O,O,O,O,O,O,O,O,O,O,O,O,O,O,O,O,O,O,O,O,O,O,O,O,O,O,O,O,O,O,O,O,O,O,O,O,O,O] HT_ ?_
     refine pq_ (i := 2) (N := some 90) #[I,I,I,O,O,O,O,O,O,O,O,O,O,O,O,O,O,O,O,O,O,O,O,O,O,O,O,O,O,O,O,O,O,O,O,O,O,O,O,O,O,O,O,O] HT_ ?_
     refine pq_ (i := 3) (N := some 91) #[I,I,I,I,O,O,O,O,O,O,O,O,O,O,O,O,O,O,O,O,O,O,O,O,O,O,O,O,O,O,O,O,O,O,O,O,O,O,O,O,O,O,O,O] HT_ ?_
     refine pq_ (i := 4) (N := some 92) #[I,I,I,I,I,O,O,O,O,O,O,O,O,O,O,O,O,O,O,O,O,O,O,O,O,O,O,O,O,O,O,O,O,O,O,O,O,O,O,O,O,O,O,O] HT_ ?_
     refine pq_ (i := 7) (N := some 95) #[I,I,I,I,I,O,O,I,O,O,O,O,O,O,O,O,O,O,O,O,O,O,O,O,O,O,O,O,O,O,O,O,O,O,O,O,O,O,O,O,O,O,O,O] HT_ ?_
     refine pq_ (i := 8) (N := some 96) #[I,I,I,I,I,O,O,I,I,O,O,O,O,O,O,O,O,O,O,O,O,O,O,O,O,O,O,O,O,O,O,O,O,O,O,O,O,O,O,O,O,O,O,O] HT_ ?_
     refine pq_ (i := 9) (N := some 97) #[I,I,I,I,I,O,O,I,I,I,O,O,O,O,O,O,O,O,O,O,O,O,O,O,O,O,O,O,O,O,O,O,O,O,O,O,O,O,O,O,O,O,O,O] HT_ ?_
     refine pq_ (i := 10) (N := some 98) #[I,I,I,I,I,O,O,I,I,I,I,O,O,O,O,O,O,O,O,O,O,O,O,O,O,O,O,O,O,O,O,O,O,O,O,O,O,O,O,O,O,O,O,O] HT_ ?_
     refine pq_ (i := 11) (N := some 99) #[I,I,I,I,I,O,O,I,I,I,I,I,O,O,O,O,O,O,O,O,O,O,O,O,O,O,O,O,O,O,O,O,O,O,O,O,O,O,O,O,O,O,O,O] HT_ ?_
     refine take_ (i := 5) (N := some 93) (v := ?_) (a' := ?_) #[I,I,I,I,I,I,O,I,I,I,I,I,O,O,O,O,O,O,O,O,O,O,O,O,O,O,O,O,O,O,O,O,O,O,O,O,O,O,O,O,O,O,O,O] rfl rfl (take_ofW HT_.out HW_.out (by kernel_rfl)) (fun _ _ _ h => h) (Or.inl ⟨by rfl, ?_⟩) hHeld ?_ ?_
     rotate_left; · (rintro w' ⟨s0, s1, s2, s3, s4, s5, s6, s7, s8, s9, s10, s11, s12, s13, s14, s15, s16, s17, s18, s19, s20, s21, s22, s23, s24, s25, s26, s27, s28, s29, s30, s31, s32⟩; go_simp; with_reducible rfl)
     rotate_left; · (simp only [Act.put, List.setIfInBounds_toArray, List.set_cons_zero, List.set_cons_succ, i64_w, i32_w]; rfl)
     refine take_ (i := 12) (N := some 100) (v := ?_) (a' := ?_) #[I,I,I,I,I,I,O,I,I,I,I,I,I,O,O,O,O,O,O,O,O,O,O,O,O,O,O,O,O,O,O,O,O,O,O,O,O,O,O,O,O,O,O,O] rfl rfl (take_ofW HT_.out HW_.out (by kernel_rfl)) (fun _ _ _ h => h) (Or.inl ⟨by rfl, ?_⟩) hHeld ?_ ?_
     rotate_left; · (rintro w' ⟨s0, s1, s2, s3, s4, s5, s6, s7, s8, s9, s10, s11, s12, s13, s14, s15, s16, s17, s18, s19, s20, s21, s22, s23, s24, s25, s26, s27, s28, s29, s30, s31, s32⟩; go_simp; with_reducible rfl)
     rotate_left; · (simp only [Act.put, List.setIfInBounds_toArray, List.set_cons_zero, List.set_cons_succ, i64_w, i32_w]; rfl)
     refine one_ (i := 6) (N := some 94) #[I,I,I,I,I,I,I,I,I,I,I,I,I,O,O,O,O,O,O,O,O,O,O,O,O,O,O,O,O,O,O,O,O,O,O,O,O,O,O,O,O,O,O,O] rfl rfl (one_of HT_.out (by kernel_rfl)) (by decide) (fun K hK => ?_)
     refine goes_ Try.func18 (by kernel_rfl) rfl #[.agg #[.int .i64 0, .int .i64 0, .int .i64 0], .slice A330_5 ((rd_T67 t309 x13_1).f2).length c330_5] (by rfl) rfl rfl (by (try simp only [List.map_toArray, List.map_cons, List.map_nil]); first | done | rfl | (simp only [List.length_drop, List.length_take]; rfl)) ?_
     with_reducible refine (profile_Final.calls 0 0 0 _ _ ((rd_T67 t309 x13_1).f2) t331 t332 t333 _ ?side1 ?side2 A57.out).mono ?_
     (case side1 => repeat (first | exact (by repeat (first | (with_reducible exact HR330_5.out) | (with_reducible refine Kd.C_alloc ?_ _) | (with_reducible refine Kd.C_drewN ?_ _) | (with_reducible refine Kd.C_drew ?_) | exact HR330_5.out)) | (with_reducible refine Kd.C_alloc ?_ _) | (with_reducible refine Kd.C_drewN ?_ _) | (with_reducible refine Kd.C_drew ?_)))
     (case side2 => exact HC330_5.out)
     rintro e w65 ⟨rfl, hb⟩
     have HS3_ := (hb.cell (World.block_lt_of_cell? _ _ (hHeld.2.2.2.1))).trans (hHeld.2.2.2.1)
     have HS4_ := (hb.cell (World.block_lt_of_cell? _ _ (hHeld.2.2.2.2.1))).trans (hHeld.2.2.2.2.1)
     have HS5_ := (hb.cell (World.block_lt_of_cell? _ _ (hHeld.2.2.2.2.2.1))).trans (hHeld.2.2.2.2.2.1)
     have HS6_ := (hb.cell (World.block_lt_of_cell? _ _ (hHeld.2.2.2.2.2.2.1))).trans (hHeld.2.2.2.2.2.2.1)
     have HS7_ := (hb.cell (World.block_lt_of_cell? _ _ (hHeld.2.2.2.2.2.2.2.1))).trans (hHeld.2.2.2.2.2.2.2.1)
     have HS8_ := (hb.cell (World.block_lt_of_cell? _ _ (hHeld.2.2.2.2.2.2.2.2.1))).trans (hHeld.2.2.2.2.2.2.2.2.1)
     have HS9_ := (hb.cell (World.block_lt_of_cell? _ _ (hHeld.2.2.2.2.2.2.2.2.2.1))).trans (hHeld.2.2.2.2.2.2.2.2.2.1)
     have HS10_ := (hb.cell (World.block_lt_of_cell? _ _ (hHeld.2.2.2.2.2.2.2.2.2.2.1))).trans (hHeld.2.2.2.2.2.2.2.2.2.2.1)
     have HS11_ := (hb.cell (World.block_lt_of_cell? _ _ (hHeld.2.2.2.2.2.2.2.2.2.2.2.1))).trans (hHeld.2.2.2.2.2.2.2.2.2.2.2.1)
     have HS12_ := (hb.cell (World.block_lt_of_cell? _ _ (hHeld.2.2.2.2.2.2.2.2.2.2.2.2.1))).trans (hHeld.2.2.2.2.2.2.2.2.2.2.2.2.1)
     have HS13_ := (hb.cell (World.block_lt_of_cell? _ _ (hHeld.2.2.2.2.2.2.2.2.2.2.2.2.2.1))).trans (hHeld.2.2.2.2.2.2.2.2.2.2.2.2.2.1)
     have HS14_ := (hb.cell (World.block_lt_of_cell? _ _ (hHeld.2.2.2.2.2.2.2.2.2.2.2.2.2.2.1))).trans (hHeld.2.2.2.2.2.2.2.2.2.2.2.2.2.2.1)
     have HS15_ := (hb.cell (World.block_lt_of_cell? _ _ (hHeld.2.2.2.2.2.2.2.2.2.2.2.2.2.2.2.1))).trans (hHeld.2.2.2.2.2.2.2.2.2.2.2.2.2.2.2.1)
     have HS16_ := (hb.cell (World.block_lt_of_cell? _ _ (hHeld.2.2.2.2.2.2.2.2.2.2.2.2.2.2.2.2.1))).trans (hHeld.2.2.2.2.2.2.2.2.2.2.2.2.2.2.2.2.1)
     have HS17_ := (hb.cell (World.block_lt_of_cell? _ _ (hHeld.2.2.2.2.2.2.2.2.2.2.2.2.2.2.2.2.2.1))).trans (hHeld.2.2.2.2.2.2.2.2.2.2.2.2.2.2.2.2.2.1)
     have HS18_ := (hb.cell (World.block_lt_of_cell? _ _ (hHeld.2.2.2.2.2.2.2.2.2.2.2.2.2.2.2.2.2.2.1))).trans (hHeld.2.2.2.2.2.2.2.2.2.2.2.2.2.2.2.2.2.2.1)
     have HS19_ := (hb.cell (World.block_lt_of_cell? _ _ (hHeld.2.2.2.2.2.2.2.2.2.2.2.2.2.2.2.2.2.2.2.1))).trans (hHeld.2.2.2.2.2.2.2.2.2.2.2.2.2.2.2.2.2.2.2.1)
     have HS20_ := (hb.cell (World.block_lt_of_cell? _ _ (hHeld.2.2.2.2.2.2.2.2.2.2.2.2.2.2.2.2.2.2.2.2.1))).trans (hHeld.2.2.2.2.2.2.2.2.2.2.2.2.2.2.2.2.2.2.2.2.1)
     have HS21_ := (hb.cell (World.block_lt_of_cell? _ _ (hHeld.2.2.2.2.2.2.2.2.2.2.2.2.2.2.2.2.2.2.2.2.2.1))).trans (hHeld.2.2.2.2.2.2.2.2.2.2.2.2.2.2.2.2.2.2.2.2.2.1)
     have HS22_ := (hb.cell (World.block_lt_of_cell? _ _ (hHeld.2.2.2.2.2.2.2.2.2.2.2.2.2.2.2.2.2.2.2.2.2.2.1))).trans (hHeld.2.2.2.2.2.2.2.2.2.2.2.2.2.2.2.2.2.2.2.2.2.2.1)
     have HS23_ := (hb.cell (World.block_lt_of_cell? _ _ (hHeld.2.2.2.2.2.2.2.2.2.2.2.2.2.2.2.2.2.2.2.2.2.2.2.1))).trans (hHeld.2.2.2.2.2.2.2.2.2.2.2.2.2.2.2.2.2.2.2.2.2.2.2.1)
     have HS24_ := (hb.cell (World.block_lt_of_cell? _ _ (hHeld.2.2.2.2.2.2.2.2.2.2.2.2.2.2.2.2.2.2.2.2.2.2.2.2.1))).trans (hHeld.2.2.2.2.2.2.2.2.2.2.2.2.2.2.2.2.2.2.2.2.2.2.2.2.1)
     have HS25_ := (hb.cell (World.block_lt_of_cell? _ _ (hHeld.2.2.2.2.2.2.2.2.2.2.2.2.2.2.2.2.2.2.2.2.2.2.2.2.2.1))).trans (hHeld.2.2.2.2.2.2.2.2.2.2.2.2.2.2.2.2.2.2.2.2.2.2.2.2.2.1)
     have HS26_ := (hb.cell (World.block_lt_of_cell? _ _ (hHeld.2.2.2.2.2.2.2.2.2.2.2.2.2.2.2.2.2.2.2.2.2.2.2.2.2.2.1))).trans (hHeld.2.2.2.2.2.2.2.2.2.2.2.2.2.2.2.2.2.2.2.2.2.2.2.2.2.2.1)
     have HS27_ := (hb.cell (World.block_lt_of_cell? _ _ (hHeld.2.2.2.2.2.2.2.2.2.2.2.2.2.2.2.2.2.2.2.2.2.2.2.2.2.2.2.1))).trans (hHeld.2.2.2.2.2.2.2.2.2.2.2.2.2.2.2.2.2.2.2.2.2.2.2.2.2.2.2.1)
     have HS28_ := (hb.cell (World.block_lt_of_cell? _ _ (hHeld.2.2.2.2.2.2.2.2.2.2.2.2.2.2.2.2.2.2.2.2.2.2.2.2.2.2.2.2.1))).trans (hHeld.2.2.2.2.2.2.2.2.2.2.2.2.2.2.2.2.2.2.2.2.2.2.2.2.2.2.2.2.1)
     have HS29_ := (hb.cell (World.block_lt_of_cell? _ _ (hHeld.2.2.2.2.2.2.2.2.2.2.2.2.2.2.2.2.2.2.2.2.2.2.2.2.2.2.2.2.2.1))).trans (hHeld.2.2.2.2.2.2.2.2.2.2.2.2.2.2.2.2.2.2.2.2.2.2.2.2.2.2.2.2.2.1)
     have HS30_ := (hb.cell (World.block_lt_of_cell? _ _ (hHeld.2.2.2.2.2.2.2.2.2.2.2.2.2.2.2.2.2.2.2.2.2.2.2.2.2.2.2.2.2.2.1))).trans (hHeld.2.2.2.2.2.2.2.2.2.2.2.2.2.2.2.2.2.2.2.2.2.2.2.2.2.2.2.2.2.2.1)
     have HS31_ := (hb.cell (World.block_lt_of_cell? _ _ (hHeld.2.2.2.2.2.2.2.2.2.2.2.2.2.2.2.2.2.2.2.2.2.2.2.2.2.2.2.2.2.2.2.1))).trans (hHeld.2.2.2.2.2.2.2.2.2.2.2.2.2.2.2.2.2.2.2.2.2.2.2.2.2.2.2.2.2.2.2.1)
     have HS32_ := (hb.cell (World.block_lt_of_cell? _ _ (hHeld.2.2.2.2.2.2.2.2.2.2.2.2.2.2.2.2.2.2.2.2.2.2.2.2.2.2.2.2.2.2.2.2))).trans (hHeld.2.2.2.2.2.2.2.2.2.2.2.2.2.2.2.2.2.2.2.2.2.2.2.2.2.2.2.2.2.2.2.2)
     refine ⟨_, rfl, ?_⟩
     have n0_ := Aside0.mk (Kd.S_below (by (with_reducible repeat (first | apply Kd.S_alloc | apply Kd.S_drewN | apply Kd.S_drew)); exact HO_11.out) hb)
     have n3_ := Aside0.mk (blk_below (g := gb308) (o := .cells #[.int .i64 t305, .int .i64 t306, .int .i64 t307] 25 (0, 0)) (by (with_reducible repeat (first | refine blk_drewN ?_ _ | refine blk_drew ?_ | refine blk_alloc ?_ _)); exact BK308.out) hb)
     have n4_ := Aside0.mk (blk_below (g := gb320) (o := .cells #[.int .i64 t314, .int .i64 t315, .int .i64 t316, .int .i64 t317, .int .i64 t318, .int .i64 t319] 69 (0, 0)) (by (with_reducible repeat (first | refine blk_drewN ?_ _ | refine blk_drew ?_ | refine blk_alloc ?_ _)); exact BK320.out) hb)
     have n5_ := Aside0.mk (blk_below (g := gb329) (o := .cells #[.int .i64 t323, .int .i64 t324, .int .i64 t325, .int .i64 t326, .int .i64 t327, .int .i64 t328] 69 (0, 0)) (by (with_reducible repeat (first | refine blk_drewN ?_ _ | refine blk_drew ?_ | refine blk_alloc ?_ _)); exact BK329.out) hb)
     have n7_ := Aside0.mk (Kd.C_below (by repeat (first | (with_reducible exact HR334_5.out) | (with_reducible refine Kd.C_alloc ?_ _) | (with_reducible refine Kd.C_drewN ?_ _) | (with_reducible refine Kd.C_drew ?_) | exact HR334_5.out)) hb)
     have n8_ := Aside0.mk (below_step (by repeat (first | (with_reducible first | exact HB.out | apply below_alloc | apply pw_below_drewN | apply below_drew1 | refine below_set ?_ GE308.out | refine below_set ?_ GE320.out | refine below_set ?_ GE329.out) | exact HB.out)) hb)
     have n90_ := Aside0.mk (Kd.C_below (by repeat (first | (with_reducible exact HR338_5.out) | (with_reducible refine Kd.C_alloc ?_ _) | (with_reducible refine Kd.C_drewN ?_ _) | (with_reducible refine Kd.C_drew ?_) | exact HR338_5.out)) hb)
     have n91_ := Aside0.mk (Kd.C_below (by repeat (first | (with_reducible exact HR343_5.out) | (with_reducible refine Kd.C_alloc ?_ _) | (with_reducible refine Kd.C_drewN ?_ _) | (with_reducible refine Kd.C_drew ?_) | exact HR343_5.out)) hb)
     clear HR338_5
     clear HR343_5
     clear HO_11
     clear BK308
     clear BK320
     clear BK329
     clear HR334_5
     clear HB
     have HO_11 := n0_
     have BK308 := n3_
     have BK320 := n4_
     have BK329 := n5_
     have HR334_5 := n7_
     have HB := n8_
     have HR338_5 := n90_
     have HR343_5 := n91_
     clear n0_ n3_ n4_ n5_ n7_ n8_ n90_ n91_
     (try clear hb)
     (try clear hb2)
     (try clear hk)
     (try clear hi)
     refine hK.out _ _ ⟨(blk_cell BK308.out 0).trans rfl, (blk_cell BK308.out 1).trans rfl, (blk_cell BK308.out 2).trans rfl, HS3_, HS4_, HS5_, HS6_, HS7_, HS8_, HS9_, HS10_, HS11_, HS12_, HS13_, HS14_, HS15_, HS16_, HS17_, HS18_, HS19_, HS20_, HS21_, HS22_, HS23_, HS24_, HS25_, HS26_, HS27_, HS28_, HS29_, HS30_, HS31_, HS32_⟩ (fun hHeld => ?_)
     clear hK K
     refine norm_ (a' := ?_) ?_ ?_
     rotate_left
     ·
      show Act.put _ (some 94) _ = _
      simp only [Act.put, List.setIfInBounds_toArray, List.set_cons_zero, List.set_cons_succ, i64_w, i32_w]
      rfl
     refine one_ (i := 13) (N := some 101) #[I,I,I,I,I,I,I,I,I,I,I,I,I,I,O,O,O,O,O,O,O,O,O,O,O,O,O,O,O,O,O,O,O,O,O,O,O,O,O,O,O,O,O,O] rfl rfl (one_of HT_.out (by kernel_rfl)) (by decide) (fun K hK => ?_)
     refine goes_ Try.func47 (by kernel_rfl) rfl #[.agg #[.int .i64 0, .int .i64 0, .int .i64 0], .slice A330_5 ((rd_T67 t309 x13_1).f2).length c330_5] (by rfl) rfl rfl (by (try simp only [List.map_toArray, List.map_cons, List.map_nil]); first | done | rfl | (simp only [List.length_drop, List.length_take]; rfl)) ?_
     with_reducible refine (ambidexterref21_End.calls k2 0 0 0 _ _ ((rd_T67 t309 x13_1).f2) t335 t336 t337 _ ?side1 ?side2 A58.out).mono ?_
     (case side1 => repeat (first | exact (by repeat (first | (with_reducible exact HR334_5.out) | (with_reducible refine Kd.C_alloc ?_ _) | (with_reducible refine Kd.C_drewN ?_ _) | (with_reducible refine Kd.C_drew ?_) | exact HR334_5.out)) | (with_reducible refine Kd.C_alloc ?_ _) | (with_reducible refine Kd.C_drewN ?_ _) | (with_reducible refine Kd.C_drew ?_)))
     (case side2 => exact HC334_5.out)
     rintro e w66 ⟨rfl, hb⟩
     have HS3_ := (hb.cell (World.block_lt_of_cell? _ _ (hHeld.2.2.2.1))).trans (hHeld.2.2.2.1)
     have HS4_ := (hb.cell (World.block_lt_of_cell? _ _ (hHeld.2.2.2.2.1))).trans (hHeld.2.2.2.2.1)
     have HS5_ := (hb.cell (World.block_lt_of_cell? _ _ (hHeld.2.2.2.2.2.1))).trans (hHeld.2.2.2.2.2.1)
     have HS6_ := (hb.cell (World.block_lt_of_cell? _ _ (hHeld.2.2.2.2.2.2.1))).trans (hHeld.2.2.2.2.2.2.1)
     have HS7_ := (hb.cell (World.block_lt_of_cell? _ _ (hHeld.2.2.2.2.2.2.2.1))).trans (hHeld.2.2.2.2.2.2.2.1)
     have HS8_ := (hb.cell (World.block_lt_of_cell? _ _ (hHeld.2.2.2.2.2.2.2.2.1))).trans (hHeld.2.2.2.2.2.2.2.2.1)
     have HS9_ := (hb.cell (World.block_lt_of_cell? _ _ (hHeld.2.2.2.2.2.2.2.2.2.1))).trans (hHeld.2.2.2.2.2.2.2.2.2.1)
     have HS10_ := (hb.cell (World.block_lt_of_cell? _ _ (hHeld.2.2.2.2.2.2.2.2.2.2.1))).trans (hHeld.2.2.2.2.2.2.2.2.2.2.1)
     have HS11_ := (hb.cell (World.block_lt_of_cell? _ _ (hHeld.2.2.2.2.2.2.2.2.2.2.2.1))).trans (hHeld.2.2.2.2.2.2.2.2.2.2.2.1)
     have HS12_ := (hb.cell (World.block_lt_of_cell? _ _ (hHeld.2.2.2.2.2.2.2.2.2.2.2.2.1))).trans (hHeld.2.2.2.2.2.2.2.2.2.2.2.2.1)
     have HS13_ := (hb.cell (World.block_lt_of_cell? _ _ (hHeld.2.2.2.2.2.2.2.2.2.2.2.2.2.1))).trans (hHeld.2.2.2.2.2.2.2.2.2.2.2.2.2.1)
     have HS14_ := (hb.cell (World.block_lt_of_cell? _ _ (hHeld.2.2.2.2.2.2.2.2.2.2.2.2.2.2.1))).trans (hHeld.2.2.2.2.2.2.2.2.2.2.2.2.2.2.1)
     have HS15_ := (hb.cell (World.block_lt_of_cell? _ _ (hHeld.2.2.2.2.2.2.2.2.2.2.2.2.2.2.2.1))).trans (hHeld.2.2.2.2.2.2.2.2.2.2.2.2.2.2.2.1)
     have HS16_ := (hb.cell (World.block_lt_of_cell? _ _ (hHeld.2.2.2.2.2.2.2.2.2.2.2.2.2.2.2.2.1))).trans (hHeld.2.2.2.2.2.2.2.2.2.2.2.2.2.2.2.2.1)
     have HS17_ := (hb.cell (World.block_lt_of_cell? _ _ (hHeld.2.2.2.2.2.2.2.2.2.2.2.2.2.2.2.2.2.1))).trans (hHeld.2.2.2.2.2.2.2.2.2.2.2.2.2.2.2.2.2.1)
     have HS18_ := (hb.cell (World.block_lt_of_cell? _ _ (hHeld.2.2.2.2.2.2.2.2.2.2.2.2.2.2.2.2.2.2.1))).trans (hHeld.2.2.2.2.2.2.2.2.2.2.2.2.2.2.2.2.2.2.1)
     have HS19_ := (hb.cell (World.block_lt_of_cell? _ _ (hHeld.2.2.2.2.2.2.2.2.2.2.2.2.2.2.2.2.2.2.2.1))).trans (hHeld.2.2.2.2.2.2.2.2.2.2.2.2.2.2.2.2.2.2.2.1)
     have HS20_ := (hb.cell (World.block_lt_of_cell? _ _ (hHeld.2.2.2.2.2.2.2.2.2.2.2.2.2.2.2.2.2.2.2.2.1))).trans (hHeld.2.2.2.2.2.2.2.2.2.2.2.2.2.2.2.2.2.2.2.2.1)
     have HS21_ := (hb.cell (World.block_lt_of_cell? _ _ (hHeld.2.2.2.2.2.2.2.2.2.2.2.2.2.2.2.2.2.2.2.2.2.1))).trans (hHeld.2.2.2.2.2.2.2.2.2.2.2.2.2.2.2.2.2.2.2.2.2.1)
     have HS22_ := (hb.cell (World.block_lt_of_cell? _ _ (hHeld.2.2.2.2.2.2.2.2.2.2.2.2.2.2.2.2.2.2.2.2.2.2.1))).trans (hHeld.2.2.2.2.2.2.2.2.2.2.2.2.2.2.2.2.2.2.2.2.2.2.1)
     have HS23_ := (hb.cell (World.block_lt_of_cell? _ _ (hHeld.2.2.2.2.2.2.2.2.2.2.2.2.2.2.2.2.2.2.2.2.2.2.2.1))).trans (hHeld.2.2.2.2.2.2.2.2.2.2.2.2.2.2.2.2.2.2.2.2.2.2.2.1)
     have HS24_ := (hb.cell (World.block_lt_of_cell? _ _ (hHeld.2.2.2.2.2.2.2.2.2.2.2.2.2.2.2.2.2.2.2.2.2.2.2.2.1))).trans (hHeld.2.2.2.2.2.2.2.2.2.2.2.2.2.2.2.2.2.2.2.2.2.2.2.2.1)
     have HS25_ := (hb.cell (World.block_lt_of_cell? _ _ (hHeld.2.2.2.2.2.2.2.2.2.2.2.2.2.2.2.2.2.2.2.2.2.2.2.2.2.1))).trans (hHeld.2.2.2.2.2.2.2.2.2.2.2.2.2.2.2.2.2.2.2.2.2.2.2.2.2.1)
     have HS26_ := (hb.cell (World.block_lt_of_cell? _ _ (hHeld.2.2.2.2.2.2.2.2.2.2.2.2.2.2.2.2.2.2.2.2.2.2.2.2.2.2.1))).trans (hHeld.2.2.2.2.2.2.2.2.2.2.2.2.2.2.2.2.2.2.2.2.2.2.2.2.2.2.1)
     have HS27_ := (hb.cell (World.block_lt_of_cell? _ _ (hHeld.2.2.2.2.2.2.2.2.2.2.2.2.2.2.2.2.2.2.2.2.2.2.2.2.2.2.2.1))).trans (hHeld.2.2.2.2.2.2.2.2.2.2.2.2.2.2.2.2.2.2.2.2.2.2.2.2.2.2.2.1)
     have HS28_ := (hb.cell (World.block_lt_of_cell? _ _ (hHeld.2.2.2.2.2.2.2.2.2.2.2.2.2.2.2.2.2.2.2.2.2.2.2.2.2.2.2.2.1))).trans (hHeld.2.2.2.2.2.2.2.2.2.2.2.2.2.2.2.2.2.2.2.2.2.2.2.2.2.2.2.2.1)
     have HS29_ := (hb.cell (World.block_lt_of_cell? _ _ (hHeld.2.2.2.2.2.2.2.2.2.2.2.2.2.2.2.2.2.2.2.2.2.2.2.2.2.2.2.2.2.1))).trans (hHeld.2.2.2.2.2.2.2.2.2.2.2.2.2.2.2.2.2.2.2.2.2.2.2.2.2.2.2.2.2.1)
     have HS30_ := (hb.cell (World.block_lt_of_cell? _ _ (hHeld.2.2.2.2.2.2.2.2.2.2.2.2.2.2.2.2.2.2.2.2.2.2.2.2.2.2.2.2.2.2.1))).trans (hHeld.2.2.2.2.2.2.2.2.2.2.2.2.2.2.2.2.2.2.2.2.2.2.2.2.2.2.2.2.2.2.1)
     have HS31_ := (hb.cell (World.block_lt_of_cell? _ _ (hHeld.2.2.2.2.2.2.2.2.2.2.2.2.2.2.2.2.2.2.2.2.2.2.2.2.2.2.2.2.2.2.2.1))).trans (hHeld.2.2.2.2.2.2.2.2.2.2.2.2.2.2.2.2.2.2.2.2.2.2.2.2.2.2.2.2.2.2.2.1)
     have HS32_ := (hb.cell (World.block_lt_of_cell? _ _ (hHeld.2.2.2.2.2.2.2.2.2.2.2.2.2.2.2.2.2.2.2.2.2.2.2.2.2.2.2.2.2.2.2.2))).trans (hHeld.2.2.2.2.2.2.2.2.2.2.2.2.2.2.2.2.2.2.2.2.2.2.2.2.2.2.2.2.2.2.2.2)
     refine ⟨_, rfl, ?_⟩
     have n0_ := Aside0.mk (Kd.S_below (by (with_reducible repeat (first | apply Kd.S_alloc | apply Kd.S_drewN | apply Kd.S_drew)); exact HO_11.out) hb)
     have n3_ := Aside0.mk (blk_below (g := gb308) (o := .cells #[.int .i64 t305, .int .i64 t306, .int .i64 t307] 25 (0, 0)) (by (with_reducible repeat (first | refine blk_drewN ?_ _ | refine blk_drew ?_ | refine blk_alloc ?_ _)); exact BK308.out) hb)
     have n4_ := Aside0.mk (blk_below (g := gb320) (o := .cells #[.int .i64 t314, .int .i64 t315, .int .i64 t316, .int .i64 t317, .int .i64 t318, .int .i64 t319] 69 (0, 0)) (by (with_reducible repeat (first | refine blk_drewN ?_ _ | refine blk_drew ?_ | refine blk_alloc ?_ _)); exact BK320.out) hb)
     have n5_ := Aside0.mk (blk_below (g := gb329) (o := .cells #[.int .i64 t323, .int .i64 t324, .int .i64 t325, .int .i64 t326, .int .i64 t327, .int .i64 t328] 69 (0, 0)) (by (with_reducible repeat (first | refine blk_drewN ?_ _ | refine blk_drew ?_ | refine blk_alloc ?_ _)); exact BK329.out) hb)
     have n8_ := Aside0.mk (below_step (by repeat (first | (with_reducible first | exact HB.out | apply below_alloc | apply pw_below_drewN | apply below_drew1 | refine below_set ?_ GE308.out | refine below_set ?_ GE320.out | refine below_set ?_ GE329.out) | exact HB.out)) hb)
     have n90_ := Aside0.mk (Kd.C_below (by repeat (first | (with_reducible exact HR338_5.out) | (with_reducible refine Kd.C_alloc ?_ _) | (with_reducible refine Kd.C_drewN ?_ _) | (with_reducible refine Kd.C_drew ?_) | exact HR338_5.out)) hb)
     have n91_ := Aside0.mk (Kd.C_below (by repeat (first | (with_reducible exact HR343_5.out) | (with_reducible refine Kd.C_alloc ?_ _) | (with_reducible refine Kd.C_drewN ?_ _) | (with_reducible refine Kd.C_drew ?_) | exact HR343_5.out)) hb)
     clear HR338_5
     clear HR343_5
     clear HO_11
     clear BK308
     clear BK320
     clear BK329
     clear HB
     have HO_11 := n0_
     have BK308 := n3_
     have BK320 := n4_
     have BK329 := n5_
     have HB := n8_
     have HR338_5 := n90_
     have HR343_5 := n91_
     clear n0_ n3_ n4_ n5_ n8_ n90_ n91_
     (try clear hb)
     (try clear hb2)
     (try clear hk)
     (try clear hi)
     refine hK.out _ _ ⟨(blk_cell BK308.out 0).trans rfl, (blk_cell BK308.out 1).trans rfl, (blk_cell BK308.out 2).trans rfl, HS3_, HS4_, HS5_, HS6_, HS7_, HS8_, HS9_, HS10_, HS11_, HS12_, HS13_, HS14_, HS15_, HS16_, HS17_, HS18_, HS19_, HS20_, HS21_, HS22_, HS23_, HS24_, HS25_, HS26_, HS27_, HS28_, HS29_, HS30_, HS31_, HS32_⟩ (fun hHeld => ?_)
     clear hK K
     refine norm_ (a' := ?_) ?_ ?_
     rotate_left
     ·
      show Act.put _ (some 101) _ = _
      simp only [Act.put, List.setIfInBounds_toArray, List.set_cons_zero, List.set_cons_succ, i64_w, i32_w]
      rfl
     refine pq_ (i := 14) (N := some 102) #[I,I,I,I,I,I,I,I,I,I,I,I,I,I,I,O,O,O,O,O,O,O,O,O,O,O,O,O,O,O,O,O,O,O,O,O,O,O,O,O,O,O,O,O] HT_ ?_
     refine pq_ (i := 15) (N := some 103) #[I,I,I,I,I,I,I,I,I,I,I,I,I,I,I,I,O,O,O,O,O,O,O,O,O,O,O,O,O,O,O,O,O,O,O,O,O,O,O,O,O,O,O,O] HT_ ?_
     refine pq_ (i := 16) (N := some 104) #[I,I,I,I,I,I,I,I,I,I,I,I,I,I,I,I,I,O,O,O,O,O,O,O,O,O,O,O,O,O,O,O,O,O,O,O,O,O,O,O,O,O,O,O] HT_ ?_
     refine pq_ (i := 17) (N := some 105) #[I,I,I,I,I,I,I,I,I,I,I,I,I,I,I,I,I,I,O,O,O,O,O,O,O,O,O,O,O,O,O,O,O,O,O,O,O,O,O,O,O,O,O,O] HT_ ?_
     refine pq_ (i := 18) (N := some 106) #[I,I,I,I,I,I,I,I,I,I,I,I,I,I,I,I,I,I,I,O,O,O,O,O,O,O,O,O,O,O,O,O,O,O,O,O,O,O,O,O,O,O,O,O] HT_ ?_
     refine pq_ (i := 19) (N := some 107) #[I,I,I,I,I,I,I,I,I,I,I,I,I,I,I,I,I,I,I,I,O,O,O,O,O,O,O,O,O,O,O,O,O,O,O,O,O,O,O,O,O,O,O,O] HT_ ?_
     refine pq_ (i := 20) (N := some 108) #[I,I,I,I,I,I,I,I,I,I,I,I,I,I,I,I,I,I,I,I,I,O,O,O,O,O,O,O,O,O,O,O,O,O,O,O,O,O,O,O,O,O,O,O] HT_ ?_
     refine pq_ (i := 23) (N := some 111) #[I,I,I,I,I,I,I,I,I,I,I,I,I,I,I,I,I,I,I,I,I,O,O,I,O,O,O,O,O,O,O,O,O,O,O,O,O,O,O,O,O,O,O,O] HT_ ?_
     refine pq_ (i := 24) (N := some 112) #[I,I,I,I,I,I,I,I,I,I,I,I,I,I,I,I,I,I,I,I,I,O,O,I,I,O,O,O,O,O,O,O,O,O,O,O,O,O,O,O,O,O,O,O] HT_ ?_
     refine pq_ (i := 25) (N := some 113) #[I,I,I,I,I,I,I,I,I,I,I,I,I,I,I,I,I,I,I,I,I,O,O,I,I,I,O,O,O,O,O,O,O,O,O,O,O,O,O,O,O,O,O,O] HT_ ?_
     refine pq_ (i := 26) (N := some 114) #[I,I,I,I,I,I,I,I,I,I,I,I,I,I,I,I,I,I,I,I,I,O,O,I,I,I,I,O,O,O,O,O,O,O,O,O,O,O,O,O,O,O,O,O] HT_ ?_
     refine pq_ (i := 27) (N := some 115) #[I,I,I,I,I,I,I,I,I,I,I,I,I,I,I,I,I,I,I,I,I,O,O,I,I,I,I,I,O,O,O,O,O,O,O,O,O,O,O,O,O,O,O,O] HT_ ?_
     refine take_ (i := 21) (N := some 109) (v := ?_) (a' := ?_) #[I,I,I,I,I,I,I,I,I,I,I,I,I,I,I,I,I,I,I,I,I,I,O,I,I,I,I,I,O,O,O,O,O,O,O,O,O,O,O,O,O,O,O,O] rfl rfl (take_ofW HT_.out HW_.out (by kernel_rfl)) (fun _ _ _ h => h) (Or.inl ⟨by rfl, ?_⟩) hHeld ?_ ?_
     rotate_left; · (rintro w' ⟨s0, s1, s2, s3, s4, s5, s6, s7, s8, s9, s10, s11, s12, s13, s14, s15, s16, s17, s18, s19, s20, s21, s22, s23, s24, s25, s26, s27, s28, s29, s30, s31, s32⟩; go_simp; with_reducible rfl)
     rotate_left; · (simp only [Act.put, List.setIfInBounds_toArray, List.set_cons_zero, List.set_cons_succ, i64_w, i32_w]; rfl)
     refine take_ (i := 28) (N := some 116) (v := ?_) (a' := ?_) #[I,I,I,I,I,I,I,I,I,I,I,I,I,I,I,I,I,I,I,I,I,I,O,I,I,I,I,I,I,O,O,O,O,O,O,O,O,O,O,O,O,O,O,O] rfl rfl (take_ofW HT_.out HW_.out (by kernel_rfl)) (fun _ _ _ h => h) (Or.inl ⟨by rfl, ?_⟩) hHeld ?_ ?_
     rotate_left; · (rintro w' ⟨s0, s1, s2, s3, s4, s5, s6, s7, s8, s9, s10, s11, s12, s13, s14, s15, s16, s17, s18, s19, s20, s21, s22, s23, s24, s25, s26, s27, s28, s29, s30, s31, s32⟩; go_simp; with_reducible rfl)
     rotate_left; · (simp only [Act.put, List.setIfInBounds_toArray, List.set_cons_zero, List.set_cons_succ, i64_w, i32_w]; rfl)
     refine pq_ (i := 29) (N := some 117) #[I,I,I,I,I,I,I,I,I,I,I,I,I,I,I,I,I,I,I,I,I,I,O,I,I,I,I,I,I,I,O,O,O,O,O,O,O,O,O,O,O,O,O,O] HT_ ?_
     refine pq_ (i := 30) (N := some 118) #[I,I,I,I,I,I,I,I,I,I,I,I,I,I,I,I,I,I,I,I,I,I,O,I,I,I,I,I,I,I,I,O,O,O,O,O,O,O,O,O,O,O,O,O] HT_ ?_
     refine one_ (i := 22) (N := some 110) #[I,I,I,I,I,I,I,I,I,I,I,I,I,I,I,I,I,I,I,I,I,I,I,I,I,I,I,I,I,I,I,O,O,O,O,O,O,O,O,O,O,O,O,O] rfl rfl (one_of HT_.out (by kernel_rfl)) (by decide) (fun K hK => ?_)
     refine goes_ Try.func47 (by kernel_rfl) rfl #[.agg #[.int .i64 0, .int .i64 0, .int .i64 0], .slice A330_5 ((rd_T67 t309 x13_1).f2).length c330_5] (by rfl) rfl rfl (by (try simp only [List.map_toArray, List.map_cons, List.map_nil]); first | done | rfl | (simp only [List.length_drop, List.length_take]; rfl)) ?_
     with_reducible refine (ambidexterref21_End.calls k2 0 0 0 _ _ ((rd_T67 t309 x13_1).f2) t339 t340 t341 _ ?side1 ?side2 A60.out).mono ?_
     (case side1 => repeat (first | exact (by repeat (first | (with_reducible exact HR338_5.out) | (with_reducible refine Kd.C_alloc ?_ _) | (with_reducible refine Kd.C_drewN ?_ _) | (with_reducible refine Kd.C_drew ?_) | exact HR338_5.out)) | (with_reducible refine Kd.C_alloc ?_ _) | (with_reducible refine Kd.C_drewN ?_ _) | (with_reducible refine Kd.C_drew ?_)))
     (case side2 => exact HC338_5.out)
     rintro e w67 ⟨rfl, hb⟩
     have HS3_ := (hb.cell (World.block_lt_of_cell? _ _ (hHeld.2.2.2.1))).trans (hHeld.2.2.2.1)
     have HS4_ := (hb.cell (World.block_lt_of_cell? _ _ (hHeld.2.2.2.2.1))).trans (hHeld.2.2.2.2.1)
     have HS5_ := (hb.cell (World.block_lt_of_cell? _ _ (hHeld.2.2.2.2.2.1))).trans (hHeld.2.2.2.2.2.1)
     have HS6_ := (hb.cell (World.block_lt_of_cell? _ _ (hHeld.2.2.2.2.2.2.1))).trans (hHeld.2.2.2.2.2.2.1)
     have HS7_ := (hb.cell (World.block_lt_of_cell? _ _ (hHeld.2.2.2.2.2.2.2.1))).trans (hHeld.2.2.2.2.2.2.2.1)
     have HS8_ := (hb.cell (World.block_lt_of_cell? _ _ (hHeld.2.2.2.2.2.2.2.2.1))).trans (hHeld.2.2.2.2.2.2.2.2.1)
     have HS9_ := (hb.cell (World.block_lt_of_cell? _ _ (hHeld.2.2.2.2.2.2.2.2.2.1))).trans (hHeld.2.2.2.2.2.2.2.2.2.1)
     have HS10_ := (hb.cell (World.block_lt_of_cell? _ _ (hHeld.2.2.2.2.2.2.2.2.2.2.1))).trans (hHeld.2.2.2.2.2.2.2.2.2.2.1)
     have HS11_ := (hb.cell (World.block_lt_of_cell? _ _ (hHeld.2.2.2.2.2.2.2.2.2.2.2.1))).trans (hHeld.2.2.2.2.2.2.2.2.2.2.2.1)
     have HS12_ := (hb.cell (World.block_lt_of_cell? _ _ (hHeld.2.2.2.2.2.2.2.2.2.2.2.2.1))).trans (hHeld.2.2.2.2.2.2.2.2.2.2.2.2.1)
     have HS13_ := (hb.cell (World.block_lt_of_cell? _ _ (hHeld.2.2.2.2.2.2.2.2.2.2.2.2.2.1))).trans (hHeld.2.2.2.2.2.2.2.2.2.2.2.2.2.1)
     have HS14_ := (hb.cell (World.block_lt_of_cell? _ _ (hHeld.2.2.2.2.2.2.2.2.2.2.2.2.2.2.1))).trans (hHeld.2.2.2.2.2.2.2.2.2.2.2.2.2.2.1)
     have HS15_ := (hb.cell (World.block_lt_of_cell? _ _ (hHeld.2.2.2.2.2.2.2.2.2.2.2.2.2.2.2.1))).trans (hHeld.2.2.2.2.2.2.2.2.2.2.2.2.2.2.2.1)
     have HS16_ := (hb.cell (World.block_lt_of_cell? _ _ (hHeld.2.2.2.2.2.2.2.2.2.2.2.2.2.2.2.2.1))).trans (hHeld.2.2.2.2.2.2.2.2.2.2.2.2.2.2.2.2.1)
     have HS17_ := (hb.cell (World.block_lt_of_cell? _ _ (hHeld.2.2.2.2.2.2.2.2.2.2.2.2.2.2.2.2.2.1))).trans (hHeld.2.2.2.2.2.2.2.2.2.2.2.2.2.2.2.2.2.1)
     have HS18_ := (hb.cell (World.block_lt_of_cell? _ _ (hHeld.2.2.2.2.2.2.2.2.2.2.2.2.2.2.2.2.2.2.1))).trans (hHeld.2.2.2.2.2.2.2.2.2.2.2.2.2.2.2.2.2.2.1)
     have HS19_ := (hb.cell (World.block_lt_of_cell? _ _ (hHeld.2.2.2.2.2.2.2.2.2.2.2.2.2.2.2.2.2.2.2.1))).trans (hHeld.2.2.2.2.2.2.2.2.2.2.2.2.2.2.2.2.2.2.2.1)
     have HS20_ := (hb.cell (World.block_lt_of_cell? _ _ (hHeld.2.2.2.2.2.2.2.2.2.2.2.2.2.2.2.2.2.2.2.2.1))).trans (hHeld.2.2.2.2.2.2.2.2.2.2.2.2.2.2.2.2.2.2.2.2.1)
     have HS21_ := (hb.cell (World.block_lt_of_cell? _ _ (hHeld.2.2.2.2.2.2.2.2.2.2.2.2.2.2.2.2.2.2.2.2.2.1))).trans (hHeld.2.2.2.2.2.2.2.2.2.2.2.2.2.2.2.2.2.2.2.2.2.1)
     have HS22_ := (hb.cell (World.block_lt_of_cell? _ _ (hHeld.2.2.2.2.2.2.2.2.2.2.2.2.2.2.2.2.2.2.2.2.2.2.1))).trans (hHeld.2.2.2.2.2.2.2.2.2.2.2.2.2.2.2.2.2.2.2.2.2.2.1)
     have HS23_ := (hb.cell (World.block_lt_of_cell? _ _ (hHeld.2.2.2.2.2.2.2.2.2.2.2.2.2.2.2.2.2.2.2.2.2.2.2.1))).trans (hHeld.2.2.2.2.2.2.2.2.2.2.2.2.2.2.2.2.2.2.2.2.2.2.2.1)
     have HS24_ := (hb.cell (World.block_lt_of_cell? _ _ (hHeld.2.2.2.2.2.2.2.2.2.2.2.2.2.2.2.2.2.2.2.2.2.2.2.2.1))).trans (hHeld.2.2.2.2.2.2.2.2.2.2.2.2.2.2.2.2.2.2.2.2.2.2.2.2.1)
     have HS25_ := (hb.cell (World.block_lt_of_cell? _ _ (hHeld.2.2.2.2.2.2.2.2.2.2.2.2.2.2.2.2.2.2.2.2.2.2.2.2.2.1))).trans (hHeld.2.2.2.2.2.2.2.2.2.2.2.2.2.2.2.2.2.2.2.2.2.2.2.2.2.1)
     have HS26_ := (hb.cell (World.block_lt_of_cell? _ _ (hHeld.2.2.2.2.2.2.2.2.2.2.2.2.2.2.2.2.2.2.2.2.2.2.2.2.2.2.1))).trans (hHeld.2.2.2.2.2.2.2.2.2.2.2.2.2.2.2.2.2.2.2.2.2.2.2.2.2.2.1)
     have HS27_ := (hb.cell (World.block_lt_of_cell? _ _ (hHeld.2.2.2.2.2.2.2.2.2.2.2.2.2.2.2.2.2.2.2.2.2.2.2.2.2.2.2.1))).trans (hHeld.2.2.2.2.2.2.2.2.2.2.2.2.2.2.2.2.2.2.2.2.2.2.2.2.2.2.2.1)
     have HS28_ := (hb.cell (World.block_lt_of_cell? _ _ (hHeld.2.2.2.2.2.2.2.2.2.2.2.2.2.2.2.2.2.2.2.2.2.2.2.2.2.2.2.2.1))).trans (hHeld.2.2.2.2.2.2.2.2.2.2.2.2.2.2.2.2.2.2.2.2.2.2.2.2.2.2.2.2.1)
     have HS29_ := (hb.cell (World.block_lt_of_cell? _ _ (hHeld.2.2.2.2.2.2.2.2.2.2.2.2.2.2.2.2.2.2.2.2.2.2.2.2.2.2.2.2.2.1))).trans (hHeld.2.2.2.2.2.2.2.2.2.2.2.2.2.2.2.2.2.2.2.2.2.2.2.2.2.2.2.2.2.1)
     have HS30_ := (hb.cell (World.block_lt_of_cell? _ _ (hHeld.2.2.2.2.2.2.2.2.2.2.2.2.2.2.2.2.2.2.2.2.2.2.2.2.2.2.2.2.2.2.1))).trans (hHeld.2.2.2.2.2.2.2.2.2.2.2.2.2.2.2.2.2.2.2.2.2.2.2.2.2.2.2.2.2.2.1)
     have HS31_ := (hb.cell (World.block_lt_of_cell? _ _ (hHeld.2.2.2.2.2.2.2.2.2.2.2.2.2.2.2.2.2.2.2.2.2.2.2.2.2.2.2.2.2.2.2.1))).trans (hHeld.2.2.2.2.2.2.2.2.2.2.2.2.2.2.2.2.2.2.2.2.2.2.2.2.2.2.2.2.2.2.2.1)
     have HS32_ := (hb.cell (World.block_lt_of_cell? _ _ (hHeld.2.2.2.2.2.2.2.2.2.2.2.2.2.2.2.2.2.2.2.2.2.2.2.2.2.2.2.2.2.2.2.2))).trans (hHeld.2.2.2.2.2.2.2.2.2.2.2.2.2.2.2.2.2.2.2.2.2.2.2.2.2.2.2.2.2.2.2.2)
     refine ⟨_, rfl, ?_⟩
     have n0_ := Aside0.mk (Kd.S_below (by (with_reducible repeat (first | apply Kd.S_alloc | apply Kd.S_drewN | apply Kd.S_drew)); exact HO_11.out) hb)
     have n4_ := Aside0.mk (blk_below (g := gb308) (o := .cells #[.int .i64 t305, .int .i64 t306, .int .i64 t307] 25 (0, 0)) (by (with_reducible repeat (first | refine blk_drewN ?_ _ | refine blk_drew ?_ | refine blk_alloc ?_ _)); exact BK308.out) hb)
     have n5_ := Aside0.mk (blk_below (g := gb320) (o := .cells #[.int .i64 t314, .int .i64 t315, .int .i64 t316, .int .i64 t317, .int .i64 t318, .int .i64 t319] 69 (0, 0)) (by (with_reducible repeat (first | refine blk_drewN ?_ _ | refine blk_drew ?_ | refine blk_alloc ?_ _)); exact BK320.out) hb)
     have n6_ := Aside0.mk (blk_below (g := gb329) (o := .cells #[.int .i64 t323, .int .i64 t324, .int .i64 t325, .int .i64 t326, .int .i64 t327, .int .i64 t328] 69 (0, 0)) (by (with_reducible repeat (first | refine blk_drewN ?_ _ | refine blk_drew ?_ | refine blk_alloc ?_ _)); exact BK329.out) hb)
     have n10_ := Aside0.mk (below_step (by repeat (first | (with_reducible first | exact HB.out | apply below_alloc | apply pw_below_drewN | apply below_drew1 | refine below_set ?_ GE308.out | refine below_set ?_ GE320.out | refine below_set ?_ GE329.out) | exact HB.out)) hb)
     have n90_ := Aside0.mk (Kd.C_below (by repeat (first | (with_reducible exact HR343_5.out) | (with_reducible refine Kd.C_alloc ?_ _) | (with_reducible refine Kd.C_drewN ?_ _) | (with_reducible refine Kd.C_drew ?_) | exact HR343_5.out)) hb)
     clear HR343_5
     clear HO_11
     clear BK308
     clear BK320
     clear BK329
     clear HB
     have HO_11 := n0_
     have BK308 := n4_
     have BK320 := n5_
     have BK329 := n6_
     have HB := n10_
     have HR343_5 := n90_
     clear n0_ n4_ n5_ n6_ n10_ n90_
     (try clear hb)
     (try clear hb2)
     (try clear hk)
     (try clear hi)
     refine hK.out _ _ ⟨(blk_cell BK308.out 0).trans rfl, (blk_cell BK308.out 1).trans rfl, (blk_cell BK308.out 2).trans rfl, HS3_, HS4_, HS5_, HS6_, HS7_, HS8_, HS9_, HS10_, HS11_, HS12_, HS13_, HS14_, HS15_, HS16_, HS17_, HS18_, HS19_, HS20_, HS21_, HS22_, HS23_, HS24_, HS25_, HS26_, HS27_, HS28_, HS29_, HS30_, HS31_, HS32_⟩ (fun hHeld => ?_)
     clear hK K
     refine norm_ (a' := ?_) ?_ ?_
     rotate_left
     ·
      show Act.put _ (some 110) _ = _
      simp only [Act.put, List.setIfInBounds_toArray, List.set_cons_zero, List.set_cons_succ, i64_w, i32_w]
      rfl
     refine pq_ (i := 31) (N := some 119) #[I,I,I,I,I,I,I,I,I,I,I,I,I,I,I,I,I,I,I,I,I,I,I,I,I,I,I,I,I,I,I,I,O,O,O,O,O,O,O,O,O,O,O,O] HT_ ?_
     refine pq_ (i := 32) (N := some 120) #[I,I,I,I,I,I,I,I,I,I,I,I,I,I,I,I,I,I,I,I,I,I,I,I,I,I,I,I,I,I,I,I,I,O,O,O,O,O,O,O,O,O,O,O] HT_ ?_
     refine pq_ (i := 33) (N := some 121) #[I,I,I,I,I,I,I,I,I,I,I,I,I,I,I,I,I,I,I,I,I,I,I,I,I,I,I,I,I,I,I,I,I,I,O,O,O,O,O,O,O,O,O,O] HT_ ?_
     refine pq_ (i := 35) (N := some 123) #[I,I,I,I,I,I,I,I,I,I,I,I,I,I,I,I,I,I,I,I,I,I,I,I,I,I,I,I,I,I,I,I,I,I,O,I,O,O,O,O,O,O,O,O] HT_ ?_
     refine pq_ (i := 36) (N := some 124) #[I,I,I,I,I,I,I,I,I,I,I,I,I,I,I,I,I,I,I,I,I,I,I,I,I,I,I,I,I,I,I,I,I,I,O,I,I,O,O,O,O,O,O,O] HT_ ?_
     refine pq_ (i := 37) (N := some 125) #[I,I,I,I,I,I,I,I,I,I,I,I,I,I,I,I,I,I,I,I,I,I,I,I,I,I,I,I,I,I,I,I,I,I,O,I,I,I,O,O,O,O,O,O] HT_ ?_
     refine pq_ (i := 38) (N := some 126) #[I,I,I,I,I,I,I,I,I,I,I,I,I,I,I,I,I,I,I,I,I,I,I,I,I,I,I,I,I,I,I,I,I,I,O,I,I,I,I,O,O,O,O,O] HT_ ?_
     refine pq_ (i := 39) (N := some 127) #[I,I,I,I,I,I,I,I,I,I,I,I,I,I,I,I,I,I,I,I,I,I,I,I,I,I,I,I,I,I,I,I,I,I,O,I,I,I,I,I,O,O,O,O] HT_ ?_
     refine take_ (i := 34) (N := some 122) (v := ?_) (a' := ?_) #[I,I,I,I,I,I,I,I,I,I,I,I,I,I,I,I,I,I,I,I,I,I,I,I,I,I,I,I,I,I,I,I,I,I,I,I,I,I,I,I,O,O,O,O] rfl rfl (take_ofW HT_.out HW_.out (by kernel_rfl)) (fun _ _ _ h => h) (Or.inl ⟨by rfl, ?_⟩) hHeld ?_ ?_
     rotate_left; · (rintro w' ⟨s0, s1, s2, s3, s4, s5, s6, s7, s8, s9, s10, s11, s12, s13, s14, s15, s16, s17, s18, s19, s20, s21, s22, s23, s24, s25, s26, s27, s28, s29, s30, s31, s32⟩; go_simp; with_reducible rfl)
     rotate_left; · (simp only [Act.put, List.setIfInBounds_toArray, List.set_cons_zero, List.set_cons_succ, i64_w, i32_w]; rfl)
     refine take_ (i := 40) (N := some 128) (v := ?_) (a' := ?_) #[I,I,I,I,I,I,I,I,I,I,I,I,I,I,I,I,I,I,I,I,I,I,I,I,I,I,I,I,I,I,I,I,I,I,I,I,I,I,I,I,I,O,O,O] rfl rfl (take_ofW HT_.out HW_.out (by kernel_rfl)) (fun _ _ _ h => h) (Or.inl ⟨by rfl, ?_⟩) hHeld ?_ ?_
     rotate_left; · (rintro w' ⟨s0, s1, s2, s3, s4, s5, s6, s7, s8, s9, s10, s11, s12, s13, s14, s15, s16, s17, s18, s19, s20, s21, s22, s23, s24, s25, s26, s27, s28, s29, s30, s31, s32⟩; go_simp; with_reducible rfl)
     rotate_left; · (simp only [Act.put, List.setIfInBounds_toArray, List.set_cons_zero, List.set_cons_succ, i64_w, i32_w]; rfl)
     refine one_ (i := 41) (N := some 129) #[I,I,I,I,I,I,I,I,I,I,I,I,I,I,I,I,I,I,I,I,I,I,I,I,I,I,I,I,I,I,I,I,I,I,I,I,I,I,I,I,I,I,O,O] rfl rfl (one_of HT_.out (by kernel_rfl)) (by decide) (fun K hK => ?_)
     refine goes_ Try.func19 (by kernel_rfl) rfl #[.agg #[.int .i64 t305, .int .i64 t306, .int .i64 t307], .agg #[.int .i64 0, .int .i64 0, .int .i64 0], .slice A330_5 ((rd_T67 t309 x13_1).f2).length c330_5] (by rfl) rfl rfl (by (try simp only [List.map_toArray, List.map_cons, List.map_nil]); first | done | rfl | (simp only [List.length_drop, List.length_take]; rfl)) ?_
     with_reducible refine (profile_Within.calls t305 t306 t307 0 0 0 _ _ ((rd_T67 t309 x13_1).f2) true _ ?side1 ?side2 A62.out).mono ?_
     (case side1 => repeat (first | exact (by repeat (first | (with_reducible exact HR343_5.out) | (with_reducible refine Kd.C_alloc ?_ _) | (with_reducible refine Kd.C_drewN ?_ _) | (with_reducible refine Kd.C_drew ?_) | exact HR343_5.out)) | (with_reducible refine Kd.C_alloc ?_ _) | (with_reducible refine Kd.C_drewN ?_ _) | (with_reducible refine Kd.C_drew ?_)))
     (case side2 => exact HC343_5.out)
     rintro e w68 ⟨rfl, hb⟩
     have HS3_ := (hb.cell (World.block_lt_of_cell? _ _ (hHeld.2.2.2.1))).trans (hHeld.2.2.2.1)
     have HS4_ := (hb.cell (World.block_lt_of_cell? _ _ (hHeld.2.2.2.2.1))).trans (hHeld.2.2.2.2.1)
     have HS5_ := (hb.cell (World.block_lt_of_cell? _ _ (hHeld.2.2.2.2.2.1))).trans (hHeld.2.2.2.2.2.1)
     have HS6_ := (hb.cell (World.block_lt_of_cell? _ _ (hHeld.2.2.2.2.2.2.1))).trans (hHeld.2.2.2.2.2.2.1)
     have HS7_ := (hb.cell (World.block_lt_of_cell? _ _ (hHeld.2.2.2.2.2.2.2.1))).trans (hHeld.2.2.2.2.2.2.2.1)
     have HS8_ := (hb.cell (World.block_lt_of_cell? _ _ (hHeld.2.2.2.2.2.2.2.2.1))).trans (hHeld.2.2.2.2.2.2.2.2.1)
     have HS9_ := (hb.cell (World.block_lt_of_cell? _ _ (hHeld.2.2.2.2.2.2.2.2.2.1))).trans (hHeld.2.2.2.2.2.2.2.2.2.1)
     have HS10_ := (hb.cell (World.block_lt_of_cell? _ _ (hHeld.2.2.2.2.2.2.2.2.2.2.1))).trans (hHeld.2.2.2.2.2.2.2.2.2.2.1)
     have HS11_ := (hb.cell (World.block_lt_of_cell? _ _ (hHeld.2.2.2.2.2.2.2.2.2.2.2.1))).trans (hHeld.2.2.2.2.2.2.2.2.2.2.2.1)
     have HS12_ := (hb.cell (World.block_lt_of_cell? _ _ (hHeld.2.2.2.2.2.2.2.2.2.2.2.2.1))).trans (hHeld.2.2.2.2.2.2.2.2.2.2.2.2.1)
     have HS13_ := (hb.cell (World.block_lt_of_cell? _ _ (hHeld.2.2.2.2.2.2.2.2.2.2.2.2.2.1))).trans (hHeld.2.2.2.2.2.2.2.2.2.2.2.2.2.1)
     have HS14_ := (hb.cell (World.block_lt_of_cell? _ _ (hHeld.2.2.2.2.2.2.2.2.2.2.2.2.2.2.1))).trans (hHeld.2.2.2.2.2.2.2.2.2.2.2.2.2.2.1)
     have HS15_ := (hb.cell (World.block_lt_of_cell? _ _ (hHeld.2.2.2.2.2.2.2.2.2.2.2.2.2.2.2.1))).trans (hHeld.2.2.2.2.2.2.2.2.2.2.2.2.2.2.2.1)
     have HS16_ := (hb.cell (World.block_lt_of_cell? _ _ (hHeld.2.2.2.2.2.2.2.2.2.2.2.2.2.2.2.2.1))).trans (hHeld.2.2.2.2.2.2.2.2.2.2.2.2.2.2.2.2.1)
     have HS17_ := (hb.cell (World.block_lt_of_cell? _ _ (hHeld.2.2.2.2.2.2.2.2.2.2.2.2.2.2.2.2.2.1))).trans (hHeld.2.2.2.2.2.2.2.2.2.2.2.2.2.2.2.2.2.1)
     have HS18_ := (hb.cell (World.block_lt_of_cell? _ _ (hHeld.2.2.2.2.2.2.2.2.2.2.2.2.2.2.2.2.2.2.1))).trans (hHeld.2.2.2.2.2.2.2.2.2.2.2.2.2.2.2.2.2.2.1)
     have HS19_ := (hb.cell (World.block_lt_of_cell? _ _ (hHeld.2.2.2.2.2.2.2.2.2.2.2.2.2.2.2.2.2.2.2.1))).trans (hHeld.2.2.2.2.2.2.2.2.2.2.2.2.2.2.2.2.2.2.2.1)
     have HS20_ := (hb.cell (World.block_lt_of_cell? _ _ (hHeld.2.2.2.2.2.2.2.2.2.2.2.2.2.2.2.2.2.2.2.2.1))).trans (hHeld.2.2.2.2.2.2.2.2.2.2.2.2.2.2.2.2.2.2.2.2.1)
     have HS21_ := (hb.cell (World.block_lt_of_cell? _ _ (hHeld.2.2.2.2.2.2.2.2.2.2.2.2.2.2.2.2.2.2.2.2.2.1))).trans (hHeld.2.2.2.2.2.2.2.2.2.2.2.2.2.2.2.2.2.2.2.2.2.1)
     have HS22_ := (hb.cell (World.block_lt_of_cell? _ _ (hHeld.2.2.2.2.2.2.2.2.2.2.2.2.2.2.2.2.2.2.2.2.2.2.1))).trans (hHeld.2.2.2.2.2.2.2.2.2.2.2.2.2.2.2.2.2.2.2.2.2.2.1)
     have HS23_ := (hb.cell (World.block_lt_of_cell? _ _ (hHeld.2.2.2.2.2.2.2.2.2.2.2.2.2.2.2.2.2.2.2.2.2.2.2.1))).trans (hHeld.2.2.2.2.2.2.2.2.2.2.2.2.2.2.2.2.2.2.2.2.2.2.2.1)
     have HS24_ := (hb.cell (World.block_lt_of_cell? _ _ (hHeld.2.2.2.2.2.2.2.2.2.2.2.2.2.2.2.2.2.2.2.2.2.2.2.2.1))).trans (hHeld.2.2.2.2.2.2.2.2.2.2.2.2.2.2.2.2.2.2.2.2.2.2.2.2.1)
     have HS25_ := (hb.cell (World.block_lt_of_cell? _ _ (hHeld.2.2.2.2.2.2.2.2.2.2.2.2.2.2.2.2.2.2.2.2.2.2.2.2.2.1))).trans (hHeld.2.2.2.2.2.2.2.2.2.2.2.2.2.2.2.2.2.2.2.2.2.2.2.2.2.1)
     have HS26_ := (hb.cell (World.block_lt_of_cell? _ _ (hHeld.2.2.2.2.2.2.2.2.2.2.2.2.2.2.2.2.2.2.2.2.2.2.2.2.2.2.1))).trans (hHeld.2.2.2.2.2.2.2.2.2.2.2.2.2.2.2.2.2.2.2.2.2.2.2.2.2.2.1)
     have HS27_ := (hb.cell (World.block_lt_of_cell? _ _ (hHeld.2.2.2.2.2.2.2.2.2.2.2.2.2.2.2.2.2.2.2.2.2.2.2.2.2.2.2.1))).trans (hHeld.2.2.2.2.2.2.2.2.2.2.2.2.2.2.2.2.2.2.2.2.2.2.2.2.2.2.2.1)
     have HS28_ := (hb.cell (World.block_lt_of_cell? _ _ (hHeld.2.2.2.2.2.2.2.2.2.2.2.2.2.2.2.2.2.2.2.2.2.2.2.2.2.2.2.2.1))).trans (hHeld.2.2.2.2.2.2.2.2.2.2.2.2.2.2.2.2.2.2.2.2.2.2.2.2.2.2.2.2.1)
     have HS29_ := (hb.cell (World.block_lt_of_cell? _ _ (hHeld.2.2.2.2.2.2.2.2.2.2.2.2.2.2.2.2.2.2.2.2.2.2.2.2.2.2.2.2.2.1))).trans (hHeld.2.2.2.2.2.2.2.2.2.2.2.2.2.2.2.2.2.2.2.2.2.2.2.2.2.2.2.2.2.1)
     have HS30_ := (hb.cell (World.block_lt_of_cell? _ _ (hHeld.2.2.2.2.2.2.2.2.2.2.2.2.2.2.2.2.2.2.2.2.2.2.2.2.2.2.2.2.2.2.1))).trans (hHeld.2.2.2.2.2.2.2.2.2.2.2.2.2.2.2.2.2.2.2.2.2.2.2.2.2.2.2.2.2.2.1)
     have HS31_ := (hb.cell (World.block_lt_of_cell? _ _ (hHeld.2.2.2.2.2.2.2.2.2.2.2.2.2.2.2.2.2.2.2.2.2.2.2.2.2.2.2.2.2.2.2.1))).trans (hHeld.2.2.2.2.2.2.2.2.2.2.2.2.2.2.2.2.2.2.2.2.2.2.2.2.2.2.2.2.2.2.2.1)
     have HS32_ := (hb.cell (World.block_lt_of_cell? _ _ (hHeld.2.2.2.2.2.2.2.2.2.2.2.2.2.2.2.2.2.2.2.2.2.2.2.2.2.2.2.2.2.2.2.2))).trans (hHeld.2.2.2.2.2.2.2.2.2.2.2.2.2.2.2.2.2.2.2.2.2.2.2.2.2.2.2.2.2.2.2.2)
     refine ⟨_, rfl, ?_⟩
     have n0_ := Aside0.mk (Kd.S_below (by (with_reducible repeat (first | apply Kd.S_alloc | apply Kd.S_drewN | apply Kd.S_drew)); exact HO_11.out) hb)
     have n6_ := Aside0.mk (blk_below (g := gb308) (o := .cells #[.int .i64 t305, .int .i64 t306, .int .i64 t307] 25 (0, 0)) (by (with_reducible repeat (first | refine blk_drewN ?_ _ | refine blk_drew ?_ | refine blk_alloc ?_ _)); exact BK308.out) hb)
     have n7_ := Aside0.mk (blk_below (g := gb320) (o := .cells #[.int .i64 t314, .int .i64 t315, .int .i64 t316, .int .i64 t317, .int .i64 t318, .int .i64 t319] 69 (0, 0)) (by (with_reducible repeat (first | refine blk_drewN ?_ _ | refine blk_drew ?_ | refine blk_alloc ?_ _)); exact BK320.out) hb)
     have n8_ := Aside0.mk (blk_below (g := gb329) (o := .cells #[.int .i64 t323, .int .i64 t324, .int .i64 t325, .int .i64 t326, .int .i64 t327, .int .i64 t328] 69 (0, 0)) (by (with_reducible repeat (first | refine blk_drewN ?_ _ | refine blk_drew ?_ | refine blk_alloc ?_ _)); exact BK329.out) hb)
     have n14_ := Aside0.mk (below_step (by repeat (first | (with_reducible first | exact HB.out | apply below_alloc | apply pw_below_drewN | apply below_drew1 | refine below_set ?_ GE308.out | refine below_set ?_ GE320.out | refine below_set ?_ GE329.out) | exact HB.out)) hb)
     clear HO_11
     clear BK308
     clear BK320
     clear BK329
     clear HB
     have HO_11 := n0_
     have BK308 := n6_
     have BK320 := n7_
     have BK329 := n8_
     have HB := n14_
     clear n0_ n6_ n7_ n8_ n14_
     (try clear hb)
     (try clear hb2)
     (try clear hk)
     (try clear hi)
     refine hK.out _ _ ⟨(blk_cell BK308.out 0).trans rfl, (blk_cell BK308.out 1).trans rfl, (blk_cell BK308.out 2).trans rfl, HS3_, HS4_, HS5_, HS6_, HS7_, HS8_, HS9_, HS10_, HS11_, HS12_, HS13_, HS14_, HS15_, HS16_, HS17_, HS18_, HS19_, HS20_, HS21_, HS22_, HS23_, HS24_, HS25_, HS26_, HS27_, HS28_, HS29_, HS30_, HS31_, HS32_⟩ (fun hHeld => ?_)
     clear hK K
     refine norm_ (a' := ?_) ?_ ?_
     rotate_left
     ·
      show Act.put _ (some 129) _ = _
      simp only [Act.put, List.setIfInBounds_toArray, List.set_cons_zero, List.set_cons_succ, i64_w, i32_w]
      rfl
     refine pq_ (i := 42) (N := some 130) #[I,I,I,I,I,I,I,I,I,I,I,I,I,I,I,I,I,I,I,I,I,I,I,I,I,I,I,I,I,I,I,I,I,I,I,I,I,I,I,I,I,I,I,O] HT_ ?_
     refine pq_ (i := 43) (N := some 131) #[I,I,I,I,I,I,I,I,I,I,I,I,I,I,I,I,I,I,I,I,I,I,I,I,I,I,I,I,I,I,I,I,I,I,I,I,I,I,I,I,I,I,I,I] HT_ ?_
     refine done_ (done_of HT_.out (by kernel_rfl)) ?_
     try go_wp2
     go_roundg k2
     case measure => have := HK1.out; have := HK2.out; omega
     case rel => exact ⟨(wrap64 (x13_1 + 1)), (by first | rfl | (simp; done) | (simp [*]; done)), H', ⟨by have := HK1.out; have := HK2.out; omega⟩, ⟨by (with_reducible repeat (first | apply Kd.S_alloc | apply Kd.S_drewN | apply Kd.S_drew)); exact HO_11.out⟩, ⟨by (with_reducible repeat (first | refine blk_drewN ?_ _ | refine blk_drew ?_ | refine blk_alloc ?_ _)); exact BK308.out⟩, ⟨by repeat (first | (with_reducible first | exact HB.out | apply below_alloc | apply pw_below_drewN | apply below_drew1 | refine below_set ?_ GE308.out | refine below_set ?_ GE320.out | refine below_set ?_ GE329.out) | exact HB.out)⟩⟩
end Go.Proofs.Ytmmaodlngnjmlaa.P
