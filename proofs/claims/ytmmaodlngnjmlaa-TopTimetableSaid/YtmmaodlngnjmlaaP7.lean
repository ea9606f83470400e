-- Written by this session's own program, for this seat. Lean checks it.
import Derived.Test.YtmmaodlngnjmlaaP0
import Derived.Test.YtmmaodlngnjmlaaP1
import Derived.Test.YtmmaodlngnjmlaaP3
import Derived.Test.YtmmaodlngnjmlaaP4
import Derived.Test.YtmmaodlngnjmlaaP5
import Derived.Test.YtmmaodlngnjmlaaP6
import Derived.Test.YtmmaodlngnjmlaaXFar
import Derived.Test.YtmmaodlngnjmlaaP22
import Derived.Test.YtmmaodlngnjmlaaXShort2
namespace Go.Proofs.Ytmmaodlngnjmlaa.P
open Go.RowKit Go.Proofs.YtmmaodlngnjmlaaW.PrintWords Go.Proofs.YtmmaodlngnjmlaaW.PrintLast Go.Proofs.YtmmaodlngnjmlaaW.PrintMore
attribute [local go_sem] max2_int min2_int max_two min_two max_three min_three max_four min_four   -- for this text's walks alone
set_option linter.unusedVariables false
set_option linter.unusedSimpArgs false

set_option maxHeartbeats 8000000 in
set_option maxRecDepth 100000 in
theorem ambidextertop_TopTimetable.calls0 (k : Nat) (a0 : Int) (a1 : Int) (a2 : Int) (A3 : Option Addr) (c3 : Nat) (l3 : List (S63)) (a4_0 : Int) (a4_1 : Int) (a4_2 : Int) (a4_3 : Int) (a4_4 : Int) (a4_5 : Int) (r : Bool) (w : World) (hr3 : Kd.C k63 w A3 l3.length l3) (hc3 : l3.length ≤ c3) (h : ambidextertop_TopTimetable.f k a0 a1 a2 l3 a4_0 a4_1 a4_2 a4_3 a4_4 a4_5 = some r) (hT : r = true) :
  Calls Try.prog 5 #[.int .u8 a0, .int .u8 a1, .int .u8 a2, .slice A3 l3.length c3, .agg #[.int .u8 a4_0, .int .u8 a4_1, .int .u8 a4_2, .int .u8 a4_3, .int .u8 a4_4, .int .u8 a4_5]] w fun e w' => e = .returned (.bool r) ∧ Below w.heap.size w w' := by
 have hu52 := Try.underlying52
 have hu25 := Try.underlying25
 have hu59 := Try.underlying59
 have hu69 := Try.underlying69
 have HR3 := Aside0.mk hr3
 have HC3 := Aside0.mk hc3
 clear hr3 hc3
 have HB := Aside0.mk (Below.refl w.heap.size w)
 have H : ((ambidextertop_head23.f k).bind fun t253 => ((ambidextertop_limR14.f a0 a1 a2).bind fun bt254 => (if (l3.length : Int) > 30 then (some t253) else ((timetable_Sequential.f k bt254.1 bt254.2.1 bt254.2.2 l3).bind fun bt258 => (if bt258.2 = 0 then (ambidextertop_TopTimetable.l0 k l3 t253 bt258.1 0 a4_0 a4_1 a4_2 a4_3 a4_4 a4_5 bt254.1 bt254.2.1 bt254.2.2 0 0 0 0 0 0) else (if t253 = true then (some ((bt258.1.length : Int) == 0)) else (some false))))))) = some r := h
 clear h
 have HT := Aside0.mk hT
 clear hT
 replace H := Option.bind_eq_some_iff.mp H
 obtain ⟨t253, A60, H⟩ := H
 obtain rfl := ambidextertop_head23.is_true k A60
 replace H : ((ambidextertop_limR14.f a0 a1 a2).bind fun bt254 => (if (l3.length : Int) > 30 then (some true) else ((timetable_Sequential.f k bt254.1 bt254.2.1 bt254.2.2 l3).bind fun bt258 => (if bt258.2 = 0 then (ambidextertop_TopTimetable.l0 k l3 true bt258.1 0 a4_0 a4_1 a4_2 a4_3 a4_4 a4_5 bt254.1 bt254.2.1 bt254.2.2 0 0 0 0 0 0) else (if true = true then (some ((bt258.1.length : Int) == 0)) else (some false)))))) = some r := H
 have A6 := Aside0.mk A60
 clear A60
 replace H := Option.bind_eq_some_iff.mp H
 obtain ⟨⟨t254, t255, t256⟩, A70, H⟩ := H
 replace H : (if (l3.length : Int) > 30 then (some true) else ((timetable_Sequential.f k t254 t255 t256 l3).bind fun bt258 => (if bt258.2 = 0 then (ambidextertop_TopTimetable.l0 k l3 true bt258.1 0 a4_0 a4_1 a4_2 a4_3 a4_4 a4_5 t254 t255 t256 0 0 0 0 0 0) else (if true = true then (some ((bt258.1.length : Int) == 0)) else (some false))))) = some r := H
 have A7 := Aside0.mk A70
 clear A70
 by_cases c8 : (l3.length : Int) > 30
 ·
  rw [if_pos c8] at H
  have c8b0 : decide (30 < (l3.length : Int)) = true := decide_eq_true c8
  have c8b1 : decide (30 < l3.length) = true := decide_eq_true (by omega)
  clear c8
  obtain rfl := Option.some.inj H
  go_enter Try.func5, Try.ntmps5
  go_wp2_with (first | ((with_reducible refine gate_dst (N := 9) rfl ?_); (try (refine gate_guard (by rfl) ?_; dsimp only)); refine box_event ?hg (N := 9) ?hd (cs := #[.int .u8 a4_0, .int .u8 a4_1, .int .u8 a4_2, .int .u8 a4_3, .int .u8 a4_4, .int .u8 a4_5]) (t := 52) ?hr ?_; (case hd => rfl); (case hg => rfl); (case hr => first | (go_simp; done) | (go_simp; rfl)); intro gb252 hg w9 hbox hb; have n0_ := Aside0.mk (below_step (by repeat (first | (with_reducible first | exact HB.out | apply below_alloc | apply pw_below_drewN | apply below_drew1) | exact HB.out)) hb); have n1_ := Aside0.mk (hbox); have n2_ := Aside0.mk ((by rw [hg]; exact (below_size (by repeat (first | (with_reducible first | exact HB.out | apply below_alloc | apply pw_below_drewN | apply below_drew1) | exact HB.out))) : w.heap.size ≤ gb252)); have n3_ := Aside0.mk ((by rw [hg]; exact (below_size (by repeat (first | (with_reducible first | exact HB.out | apply below_alloc | apply pw_below_drewN | apply below_drew1) | exact HB.out))) : w.heap.size ≤ gb252)); clear HB; have HB := n0_; have BK252 := n1_; have GW252 := n2_; have GE252 := n3_; clear n0_ n1_ n2_ n3_; clear hb hbox hg) | ((with_reducible refine gate_callee (f := 26) rfl ?_); refine goesL_ (some 31) rfl rfl Try.func26 (by kernel_rfl) rfl #[] rfl (by (try simp only [List.map_toArray, List.map_cons, List.map_nil]); first | done | rfl | (simp only [List.length_drop, List.length_take]; rfl)) ?_; (with_reducible refine (ambidextertop_head23.calls k  true _ A6.out).mono ?_); rintro e w10 ⟨rfl, hb⟩; refine ⟨_, rfl, ?_⟩; have n0_ := Aside0.mk (blk_below (g := gb252) (o := .cells #[.int .u8 a4_0, .int .u8 a4_1, .int .u8 a4_2, .int .u8 a4_3, .int .u8 a4_4, .int .u8 a4_5] 52 (0, 0)) (by (with_reducible repeat (first | refine blk_drewN ?_ _ | refine blk_drew ?_ | refine blk_alloc ?_ _)); exact BK252.out) hb); have n1_ := Aside0.mk (below_step (by repeat (first | (with_reducible first | exact HB.out | apply below_alloc | apply pw_below_drewN | apply below_drew1 | refine below_set ?_ GE252.out) | exact HB.out)) hb); clear BK252; clear HB; have BK252 := n0_; have HB := n1_; clear n0_ n1_; (try clear hb); (try clear hb2); (try clear hk); (try clear hi)) | ((with_reducible refine gate_callee (f := 15) rfl ?_); refine goesL_ (some 35) rfl rfl Try.func15 (by kernel_rfl) rfl #[.int .u8 a0, .int .u8 a1, .int .u8 a2] rfl (by (try simp only [List.map_toArray, List.map_cons, List.map_nil]); first | done | rfl | (simp only [List.length_drop, List.length_take]; rfl)) ?_; (with_reducible refine (ambidextertop_limR14.calls a0 a1 a2 t254 t255 t256 _ A7.out).mono ?_); rintro e w11 ⟨rfl, hb⟩; refine ⟨_, rfl, ?_⟩; have n0_ := Aside0.mk (blk_below (g := gb252) (o := .cells #[.int .u8 a4_0, .int .u8 a4_1, .int .u8 a4_2, .int .u8 a4_3, .int .u8 a4_4, .int .u8 a4_5] 52 (0, 0)) (by (with_reducible repeat (first | refine blk_drewN ?_ _ | refine blk_drew ?_ | refine blk_alloc ?_ _)); exact BK252.out) hb); have n1_ := Aside0.mk (below_step (by repeat (first | (with_reducible first | exact HB.out | apply below_alloc | apply pw_below_drewN | apply below_drew1 | refine below_set ?_ GE252.out) | exact HB.out)) hb); clear BK252; clear HB; have BK252 := n0_; have HB := n1_; clear n0_ n1_; (try clear hb); (try clear hb2); (try clear hk); (try clear hi)) | ((with_reducible refine gate_dst (N := 12) rfl ?_); (try (refine gate_guard (by rfl) ?_; dsimp only)); refine box_event ?hg (N := 12) ?hd (cs := #[.int .i64 0, .int .i64 0, .int .i64 0]) (t := 25) ?hr ?_; (case hd => rfl); (case hg => rfl); (case hr => first | (go_simp; done) | (go_simp; rfl)); intro gb257 hg w12 hbox hb; have n0_ := Aside0.mk (blk_below (g := gb252) (o := .cells #[.int .u8 a4_0, .int .u8 a4_1, .int .u8 a4_2, .int .u8 a4_3, .int .u8 a4_4, .int .u8 a4_5] 52 (0, 0)) (by (with_reducible repeat (first | refine blk_drewN ?_ _ | refine blk_drew ?_ | refine blk_alloc ?_ _)); exact BK252.out) hb); have n1_ := Aside0.mk (below_step (by repeat (first | (with_reducible first | exact HB.out | apply below_alloc | apply pw_below_drewN | apply below_drew1 | refine below_set ?_ GE252.out) | exact HB.out)) hb); have n2_ := Aside0.mk (hbox); have n3_ := Aside0.mk ((by rw [hg]; exact (below_size (by repeat (first | (with_reducible first | exact HB.out | apply below_alloc | apply pw_below_drewN | apply below_drew1 | refine below_set ?_ GE252.out) | exact HB.out))) : w.heap.size ≤ gb257)); have n4_ := Aside0.mk ((by rw [hg]; exact (below_size (by repeat (first | (with_reducible first | exact HB.out | apply below_alloc | apply pw_below_drewN | apply below_drew1 | refine below_set ?_ GE252.out) | exact HB.out))) : w.heap.size ≤ gb257)); have n5_ := Aside0.mk ((by rw [hg]; exact Nat.ne_of_lt (blk_lt (g := gb252) (o := .cells #[.int .u8 a4_0, .int .u8 a4_1, .int .u8 a4_2, .int .u8 a4_3, .int .u8 a4_4, .int .u8 a4_5] 52 (0, 0)) (by (with_reducible repeat (first | refine blk_drewN ?_ _ | refine blk_drew ?_ | refine blk_alloc ?_ _)); exact BK252.out)) : gb252 ≠ gb257)); have n6_ := Aside0.mk ((by rw [hg]; exact Nat.ne_of_gt (blk_lt (g := gb252) (o := .cells #[.int .u8 a4_0, .int .u8 a4_1, .int .u8 a4_2, .int .u8 a4_3, .int .u8 a4_4, .int .u8 a4_5] 52 (0, 0)) (by (with_reducible repeat (first | refine blk_drewN ?_ _ | refine blk_drew ?_ | refine blk_alloc ?_ _)); exact BK252.out)) : gb257 ≠ gb252)); clear BK252; clear HB; have BK252 := n0_; have HB := n1_; have BK257 := n2_; have GW257 := n3_; have GE257 := n4_; have NB252_257 := n5_; have NB257_252 := n6_; clear n0_ n1_ n2_ n3_ n4_ n5_ n6_; clear hb hbox hg; have hnb13 := NB257_252.out; have hnc13 := NB252_257.out; have hcz14_0 : w12.cell? ⟨gb257, 0, none⟩ = some (.int .i64 0) := (blk_cell BK257.out 0).trans rfl; have hcz14_1 : w12.cell? ⟨gb257, 1, none⟩ = some (.int .i64 0) := (blk_cell BK257.out 1).trans rfl; have hcz14_2 : w12.cell? ⟨gb257, 2, none⟩ = some (.int .i64 0) := (blk_cell BK257.out 2).trans rfl; have hfz14_0 := blk_frozen BK257.out 0; have hfz14_1 := blk_frozen BK257.out 1; have hfz14_2 := blk_frozen BK257.out 2))
  go_ret
  exact ⟨by first | rfl | (simp [errW_none, errW_some] <;> rfl) | (simp [*, errW_none, errW_some] <;> rfl), by repeat (first | (with_reducible first | exact HB.out | apply below_alloc | apply pw_below_drewN | apply below_drew1 | refine below_set ?_ GE252.out | refine below_set ?_ GE257.out) | exact HB.out)⟩
 rw [if_neg c8] at H
 have c8b0 : decide (30 < (l3.length : Int)) = false := decide_eq_false c8
 have c8b1 : decide (30 < l3.length) = false := decide_eq_false (by omega)
 clear c8
 replace H := Option.bind_eq_some_iff.mp H
 obtain ⟨⟨t258, t261⟩, A150, H⟩ := H
 replace H : (if t261 = 0 then (ambidextertop_TopTimetable.l0 k l3 true t258 0 a4_0 a4_1 a4_2 a4_3 a4_4 a4_5 t254 t255 t256 0 0 0 0 0 0) else (if true = true then (some ((t258.length : Int) == 0)) else (some false))) = some r := H
 have A15 := Aside0.mk A150
 clear A150
 by_cases c16 : t261 = 0
 case neg =>
  rw [if_neg c16] at H
  have c16b0 : (t261 == 0) = false := beq_eq_false_iff_ne.mpr c16
  have c16b1 : (t261 != 0) = true := bne_iff_ne.mpr c16
  have H1 : (some ((t258.length : Int) == 0)) = some r := by first | (rw [if_pos rfl] at H; exact H) | (rw [if_pos True.intro] at H; exact H)
  clear H
  have H := H1
  clear H1
  obtain rfl := Option.some.inj H
  go_enter Try.func5, Try.ntmps5
  go_wp2_with (first | ((with_reducible refine gate_dst (N := 9) rfl ?_); (try (refine gate_guard (by rfl) ?_; dsimp only)); refine box_event ?hg (N := 9) ?hd (cs := #[.int .u8 a4_0, .int .u8 a4_1, .int .u8 a4_2, .int .u8 a4_3, .int .u8 a4_4, .int .u8 a4_5]) (t := 52) ?hr ?_; (case hd => rfl); (case hg => rfl); (case hr => first | (go_simp; done) | (go_simp; rfl)); intro gb252 hg w157 hbox hb; have n0_ := Aside0.mk (below_step (by repeat (first | (with_reducible first | exact HB.out | apply below_alloc | apply pw_below_drewN | apply below_drew1) | exact HB.out)) hb); have n1_ := Aside0.mk (hbox); have n2_ := Aside0.mk ((by rw [hg]; exact (below_size (by repeat (first | (with_reducible first | exact HB.out | apply below_alloc | apply pw_below_drewN | apply below_drew1) | exact HB.out))) : w.heap.size ≤ gb252)); have n3_ := Aside0.mk ((by rw [hg]; exact (below_size (by repeat (first | (with_reducible first | exact HB.out | apply below_alloc | apply pw_below_drewN | apply below_drew1) | exact HB.out))) : w.heap.size ≤ gb252)); clear HB; have HB := n0_; have BK252 := n1_; have GW252 := n2_; have GE252 := n3_; clear n0_ n1_ n2_ n3_; clear hb hbox hg) | ((with_reducible refine gate_callee (f := 26) rfl ?_); refine goesL_ (some 31) rfl rfl Try.func26 (by kernel_rfl) rfl #[] rfl (by (try simp only [List.map_toArray, List.map_cons, List.map_nil]); first | done | rfl | (simp only [List.length_drop, List.length_take]; rfl)) ?_; (with_reducible refine (ambidextertop_head23.calls k  true _ A6.out).mono ?_); rintro e w158 ⟨rfl, hb⟩; refine ⟨_, rfl, ?_⟩; have n0_ := Aside0.mk (blk_below (g := gb252) (o := .cells #[.int .u8 a4_0, .int .u8 a4_1, .int .u8 a4_2, .int .u8 a4_3, .int .u8 a4_4, .int .u8 a4_5] 52 (0, 0)) (by (with_reducible repeat (first | refine blk_drewN ?_ _ | refine blk_drew ?_ | refine blk_alloc ?_ _)); exact BK252.out) hb); have n1_ := Aside0.mk (below_step (by repeat (first | (with_reducible first | exact HB.out | apply below_alloc | apply pw_below_drewN | apply below_drew1 | refine below_set ?_ GE252.out) | exact HB.out)) hb); clear BK252; clear HB; have BK252 := n0_; have HB := n1_; clear n0_ n1_; (try clear hb); (try clear hb2); (try clear hk); (try clear hi)) | ((with_reducible refine gate_callee (f := 15) rfl ?_); refine goesL_ (some 35) rfl rfl Try.func15 (by kernel_rfl) rfl #[.int .u8 a0, .int .u8 a1, .int .u8 a2] rfl (by (try simp only [List.map_toArray, List.map_cons, List.map_nil]); first | done | rfl | (simp only [List.length_drop, List.length_take]; rfl)) ?_; (with_reducible refine (ambidextertop_limR14.calls a0 a1 a2 t254 t255 t256 _ A7.out).mono ?_); rintro e w159 ⟨rfl, hb⟩; refine ⟨_, rfl, ?_⟩; have n0_ := Aside0.mk (blk_below (g := gb252) (o := .cells #[.int .u8 a4_0, .int .u8 a4_1, .int .u8 a4_2, .int .u8 a4_3, .int .u8 a4_4, .int .u8 a4_5] 52 (0, 0)) (by (with_reducible repeat (first | refine blk_drewN ?_ _ | refine blk_drew ?_ | refine blk_alloc ?_ _)); exact BK252.out) hb); have n1_ := Aside0.mk (below_step (by repeat (first | (with_reducible first | exact HB.out | apply below_alloc | apply pw_below_drewN | apply below_drew1 | refine below_set ?_ GE252.out) | exact HB.out)) hb); clear BK252; clear HB; have BK252 := n0_; have HB := n1_; clear n0_ n1_; (try clear hb); (try clear hb2); (try clear hk); (try clear hi)) | ((with_reducible refine gate_dst (N := 12) rfl ?_); (try (refine gate_guard (by rfl) ?_; dsimp only)); refine box_event ?hg (N := 12) ?hd (cs := #[.int .i64 0, .int .i64 0, .int .i64 0]) (t := 25) ?hr ?_; (case hd => rfl); (case hg => rfl); (case hr => first | (go_simp; done) | (go_simp; rfl)); intro gb257 hg w160 hbox hb; have n0_ := Aside0.mk (blk_below (g := gb252) (o := .cells #[.int .u8 a4_0, .int .u8 a4_1, .int .u8 a4_2, .int .u8 a4_3, .int .u8 a4_4, .int .u8 a4_5] 52 (0, 0)) (by (with_reducible repeat (first | refine blk_drewN ?_ _ | refine blk_drew ?_ | refine blk_alloc ?_ _)); exact BK252.out) hb); have n1_ := Aside0.mk (below_step (by repeat (first | (with_reducible first | exact HB.out | apply below_alloc | apply pw_below_drewN | apply below_drew1 | refine below_set ?_ GE252.out) | exact HB.out)) hb); have n2_ := Aside0.mk (hbox); have n3_ := Aside0.mk ((by rw [hg]; exact (below_size (by repeat (first | (with_reducible first | exact HB.out | apply below_alloc | apply pw_below_drewN | apply below_drew1 | refine below_set ?_ GE252.out) | exact HB.out))) : w.heap.size ≤ gb257)); have n4_ := Aside0.mk ((by rw [hg]; exact (below_size (by repeat (first | (with_reducible first | exact HB.out | apply below_alloc | apply pw_below_drewN | apply below_drew1 | refine below_set ?_ GE252.out) | exact HB.out))) : w.heap.size ≤ gb257)); have n5_ := Aside0.mk ((by rw [hg]; exact Nat.ne_of_lt (blk_lt (g := gb252) (o := .cells #[.int .u8 a4_0, .int .u8 a4_1, .int .u8 a4_2, .int .u8 a4_3, .int .u8 a4_4, .int .u8 a4_5] 52 (0, 0)) (by (with_reducible repeat (first | refine blk_drewN ?_ _ | refine blk_drew ?_ | refine blk_alloc ?_ _)); exact BK252.out)) : gb252 ≠ gb257)); have n6_ := Aside0.mk ((by rw [hg]; exact Nat.ne_of_gt (blk_lt (g := gb252) (o := .cells #[.int .u8 a4_0, .int .u8 a4_1, .int .u8 a4_2, .int .u8 a4_3, .int .u8 a4_4, .int .u8 a4_5] 52 (0, 0)) (by (with_reducible repeat (first | refine blk_drewN ?_ _ | refine blk_drew ?_ | refine blk_alloc ?_ _)); exact BK252.out)) : gb257 ≠ gb252)); clear BK252; clear HB; have BK252 := n0_; have HB := n1_; have BK257 := n2_; have GW257 := n3_; have GE257 := n4_; have NB252_257 := n5_; have NB257_252 := n6_; clear n0_ n1_ n2_ n3_ n4_ n5_ n6_; clear hb hbox hg; have hnb161 := NB257_252.out; have hnc161 := NB252_257.out; have hcz162_0 : w160.cell? ⟨gb257, 0, none⟩ = some (.int .i64 0) := (blk_cell BK257.out 0).trans rfl; have hcz162_1 : w160.cell? ⟨gb257, 1, none⟩ = some (.int .i64 0) := (blk_cell BK257.out 1).trans rfl; have hcz162_2 : w160.cell? ⟨gb257, 2, none⟩ = some (.int .i64 0) := (blk_cell BK257.out 2).trans rfl; have hfz162_0 := blk_frozen BK257.out 0; have hfz162_1 := blk_frozen BK257.out 1; have hfz162_2 := blk_frozen BK257.out 2) | ((with_reducible refine gate_callee (f := 27) rfl ?_); refine goesL_ (some 43) rfl rfl Try.func27 (by kernel_rfl) rfl #[.agg #[.int .i64 t254, .int .i64 t255, .int .i64 t256], .slice A3 l3.length c3] rfl (by (try simp only [List.map_toArray, List.map_cons, List.map_nil]); first | done | rfl | (simp only [List.length_drop, List.length_take]; rfl)) ?_; (with_reducible refine (timetable_Sequential.calls k t254 t255 t256 _ _ l3 t258 t261 _ ?side1 ?side2 A15.out).mono ?_); (case side1 => exact Kd.C_below HR3.out (by repeat (first | (with_reducible first | exact HB.out | apply below_alloc | apply pw_below_drewN | apply below_drew1 | refine below_set ?_ GE252.out | refine below_set ?_ GE257.out) | exact HB.out))); (case side2 => exact HC3.out); rintro e w163 ⟨v259, rfl, ho0, hb⟩; refine ⟨_, rfl, ?_⟩; have n0_ := Aside0.mk (Kd.S_lower ho0 (below_size (by repeat (first | (with_reducible first | exact HB.out | apply below_alloc | apply pw_below_drewN | apply below_drew1 | refine below_set ?_ GE252.out | refine below_set ?_ GE257.out) | exact HB.out)))); have n1_ := Aside0.mk (blk_below (g := gb252) (o := .cells #[.int .u8 a4_0, .int .u8 a4_1, .int .u8 a4_2, .int .u8 a4_3, .int .u8 a4_4, .int .u8 a4_5] 52 (0, 0)) (by (with_reducible repeat (first | refine blk_drewN ?_ _ | refine blk_drew ?_ | refine blk_alloc ?_ _)); refine blk_far ?_ NB252_257.out _; (with_reducible repeat (first | refine blk_drewN ?_ _ | refine blk_drew ?_ | refine blk_alloc ?_ _)); refine blk_far ?_ NB252_257.out _; (with_reducible repeat (first | refine blk_drewN ?_ _ | refine blk_drew ?_ | refine blk_alloc ?_ _)); refine blk_far ?_ NB252_257.out _; (with_reducible repeat (first | refine blk_drewN ?_ _ | refine blk_drew ?_ | refine blk_alloc ?_ _)); exact BK252.out) hb); have n2_ := Aside0.mk (blk_below (g := gb257) (o := .cells #[.int .i64 t254, .int .i64 t255, .int .i64 t256] 25 (0, 0)) (by (with_reducible repeat (first | refine blk_drewN ?_ _ | refine blk_drew ?_ | refine blk_alloc ?_ _)); refine blk_put (cs := #[.int .i64 t254, .int .i64 t255, .int .i64 0]) ?_ 2 _ rfl; (with_reducible repeat (first | refine blk_drewN ?_ _ | refine blk_drew ?_ | refine blk_alloc ?_ _)); refine blk_put (cs := #[.int .i64 t254, .int .i64 0, .int .i64 0]) ?_ 1 _ rfl; (with_reducible repeat (first | refine blk_drewN ?_ _ | refine blk_drew ?_ | refine blk_alloc ?_ _)); refine blk_put (cs := #[.int .i64 0, .int .i64 0, .int .i64 0]) ?_ 0 _ rfl; (with_reducible repeat (first | refine blk_drewN ?_ _ | refine blk_drew ?_ | refine blk_alloc ?_ _)); exact BK257.out) hb); have n3_ := Aside0.mk (below_step (by repeat (first | (with_reducible first | exact HB.out | apply below_alloc | apply pw_below_drewN | apply below_drew1 | refine below_set ?_ GE252.out | refine below_set ?_ GE257.out) | exact HB.out)) hb); clear BK252; clear BK257; clear HB; have HO260 := n0_; have BK252 := n1_; have BK257 := n2_; have HB := n3_; clear n0_ n1_ n2_ n3_; (try clear hb); (try clear hb2); (try clear hk); (try clear hi); (try clear ho0); obtain ⟨Ao164, co164, eo164⟩ := Kd.S_slice HO260.out; subst eo164))
  go_ret
  exact ⟨by first | rfl | (simp [errW_none, errW_some] <;> rfl) | (simp [*, errW_none, errW_some] <;> rfl), by repeat (first | (with_reducible first | exact HB.out | apply below_alloc | apply pw_below_drewN | apply below_drew1 | refine below_set ?_ GE252.out | refine below_set ?_ GE257.out) | exact HB.out)⟩

 rw [if_pos c16] at H
 have c16b0 : (t261 == 0) = true := beq_iff_eq.mpr c16
 have c16b1 : (t261 != 0) = false := bne_eq_false_iff_eq.mpr c16
 clear c16
 have H' := Aside0.mk H
 clear H
 go_enter Try.func5, Try.ntmps5
 go_wp2_with (first | ((with_reducible refine gate_dst (N := 9) rfl ?_); (try (refine gate_guard (by rfl) ?_; dsimp only)); refine box_event ?hg (N := 9) ?hd (cs := #[.int .u8 a4_0, .int .u8 a4_1, .int .u8 a4_2, .int .u8 a4_3, .int .u8 a4_4, .int .u8 a4_5]) (t := 52) ?hr ?_; (case hd => rfl); (case hg => rfl); (case hr => first | (go_simp; done) | (go_simp; rfl)); intro gb252 hg w17 hbox hb; have n0_ := Aside0.mk (below_step (by repeat (first | (with_reducible first | exact HB.out | apply below_alloc | apply pw_below_drewN | apply below_drew1) | exact HB.out)) hb); have n1_ := Aside0.mk (hbox); have n2_ := Aside0.mk ((by rw [hg]; exact (below_size (by repeat (first | (with_reducible first | exact HB.out | apply below_alloc | apply pw_below_drewN | apply below_drew1) | exact HB.out))) : w.heap.size ≤ gb252)); have n3_ := Aside0.mk ((by rw [hg]; exact (below_size (by repeat (first | (with_reducible first | exact HB.out | apply below_alloc | apply pw_below_drewN | apply below_drew1) | exact HB.out))) : w.heap.size ≤ gb252)); clear HB; have HB := n0_; have BK252 := n1_; have GW252 := n2_; have GE252 := n3_; clear n0_ n1_ n2_ n3_; clear hb hbox hg) | ((with_reducible refine gate_callee (f := 26) rfl ?_); refine goesL_ (some 31) rfl rfl Try.func26 (by kernel_rfl) rfl #[] rfl (by (try simp only [List.map_toArray, List.map_cons, List.map_nil]); first | done | rfl | (simp only [List.length_drop, List.length_take]; rfl)) ?_; (with_reducible refine (ambidextertop_head23.calls k  true _ A6.out).mono ?_); rintro e w18 ⟨rfl, hb⟩; refine ⟨_, rfl, ?_⟩; have n0_ := Aside0.mk (blk_below (g := gb252) (o := .cells #[.int .u8 a4_0, .int .u8 a4_1, .int .u8 a4_2, .int .u8 a4_3, .int .u8 a4_4, .int .u8 a4_5] 52 (0, 0)) (by (with_reducible repeat (first | refine blk_drewN ?_ _ | refine blk_drew ?_ | refine blk_alloc ?_ _)); exact BK252.out) hb); have n1_ := Aside0.mk (below_step (by repeat (first | (with_reducible first | exact HB.out | apply below_alloc | apply pw_below_drewN | apply below_drew1 | refine below_set ?_ GE252.out) | exact HB.out)) hb); clear BK252; clear HB; have BK252 := n0_; have HB := n1_; clear n0_ n1_; (try clear hb); (try clear hb2); (try clear hk); (try clear hi)) | ((with_reducible refine gate_callee (f := 15) rfl ?_); refine goesL_ (some 35) rfl rfl Try.func15 (by kernel_rfl) rfl #[.int .u8 a0, .int .u8 a1, .int .u8 a2] rfl (by (try simp only [List.map_toArray, List.map_cons, List.map_nil]); first | done | rfl | (simp only [List.length_drop, List.length_take]; rfl)) ?_; (with_reducible refine (ambidextertop_limR14.calls a0 a1 a2 t254 t255 t256 _ A7.out).mono ?_); rintro e w19 ⟨rfl, hb⟩; refine ⟨_, rfl, ?_⟩; have n0_ := Aside0.mk (blk_below (g := gb252) (o := .cells #[.int .u8 a4_0, .int .u8 a4_1, .int .u8 a4_2, .int .u8 a4_3, .int .u8 a4_4, .int .u8 a4_5] 52 (0, 0)) (by (with_reducible repeat (first | refine blk_drewN ?_ _ | refine blk_drew ?_ | refine blk_alloc ?_ _)); exact BK252.out) hb); have n1_ := Aside0.mk (below_step (by repeat (first | (with_reducible first | exact HB.out | apply below_alloc | apply pw_below_drewN | apply below_drew1 | refine below_set ?_ GE252.out) | exact HB.out)) hb); clear BK252; clear HB; have BK252 := n0_; have HB := n1_; clear n0_ n1_; (try clear hb); (try clear hb2); (try clear hk); (try clear hi)) | ((with_reducible refine gate_dst (N := 12) rfl ?_); (try (refine gate_guard (by rfl) ?_; dsimp only)); refine box_event ?hg (N := 12) ?hd (cs := #[.int .i64 0, .int .i64 0, .int .i64 0]) (t := 25) ?hr ?_; (case hd => rfl); (case hg => rfl); (case hr => first | (go_simp; done) | (go_simp; rfl)); intro gb257 hg w20 hbox hb; have n0_ := Aside0.mk (blk_below (g := gb252) (o := .cells #[.int .u8 a4_0, .int .u8 a4_1, .int .u8 a4_2, .int .u8 a4_3, .int .u8 a4_4, .int .u8 a4_5] 52 (0, 0)) (by (with_reducible repeat (first | refine blk_drewN ?_ _ | refine blk_drew ?_ | refine blk_alloc ?_ _)); exact BK252.out) hb); have n1_ := Aside0.mk (below_step (by repeat (first | (with_reducible first | exact HB.out | apply below_alloc | apply pw_below_drewN | apply below_drew1 | refine below_set ?_ GE252.out) | exact HB.out)) hb); have n2_ := Aside0.mk (hbox); have n3_ := Aside0.mk ((by rw [hg]; exact (below_size (by repeat (first | (with_reducible first | exact HB.out | apply below_alloc | apply pw_below_drewN | apply below_drew1 | refine below_set ?_ GE252.out) | exact HB.out))) : w.heap.size ≤ gb257)); have n4_ := Aside0.mk ((by rw [hg]; exact (below_size (by repeat (first | (with_reducible first | exact HB.out | apply below_alloc | apply pw_below_drewN | apply below_drew1 | refine below_set ?_ GE252.out) | exact HB.out))) : w.heap.size ≤ gb257)); have n5_ := Aside0.mk ((by rw [hg]; exact Nat.ne_of_lt (blk_lt (g := gb252) (o := .cells #[.int .u8 a4_0, .int .u8 a4_1, .int .u8 a4_2, .int .u8 a4_3, .int .u8 a4_4, .int .u8 a4_5] 52 (0, 0)) (by (with_reducible repeat (first | refine blk_drewN ?_ _ | refine blk_drew ?_ | refine blk_alloc ?_ _)); exact BK252.out)) : gb252 ≠ gb257)); have n6_ := Aside0.mk ((by rw [hg]; exact Nat.ne_of_gt (blk_lt (g := gb252) (o := .cells #[.int .u8 a4_0, .int .u8 a4_1, .int .u8 a4_2, .int .u8 a4_3, .int .u8 a4_4, .int .u8 a4_5] 52 (0, 0)) (by (with_reducible repeat (first | refine blk_drewN ?_ _ | refine blk_drew ?_ | refine blk_alloc ?_ _)); exact BK252.out)) : gb257 ≠ gb252)); clear BK252; clear HB; have BK252 := n0_; have HB := n1_; have BK257 := n2_; have GW257 := n3_; have GE257 := n4_; have NB252_257 := n5_; have NB257_252 := n6_; clear n0_ n1_ n2_ n3_ n4_ n5_ n6_; clear hb hbox hg; have hnb21 := NB257_252.out; have hnc21 := NB252_257.out; have hcz22_0 : w20.cell? ⟨gb257, 0, none⟩ = some (.int .i64 0) := (blk_cell BK257.out 0).trans rfl; have hcz22_1 : w20.cell? ⟨gb257, 1, none⟩ = some (.int .i64 0) := (blk_cell BK257.out 1).trans rfl; have hcz22_2 : w20.cell? ⟨gb257, 2, none⟩ = some (.int .i64 0) := (blk_cell BK257.out 2).trans rfl; have hfz22_0 := blk_frozen BK257.out 0; have hfz22_1 := blk_frozen BK257.out 1; have hfz22_2 := blk_frozen BK257.out 2) | ((with_reducible refine gate_callee (f := 27) rfl ?_); refine goesL_ (some 43) rfl rfl Try.func27 (by kernel_rfl) rfl #[.agg #[.int .i64 t254, .int .i64 t255, .int .i64 t256], .slice A3 l3.length c3] rfl (by (try simp only [List.map_toArray, List.map_cons, List.map_nil]); first | done | rfl | (simp only [List.length_drop, List.length_take]; rfl)) ?_; (with_reducible refine (timetable_Sequential.calls k t254 t255 t256 _ _ l3 t258 t261 _ ?side1 ?side2 A15.out).mono ?_); (case side1 => exact Kd.C_below HR3.out (by repeat (first | (with_reducible first | exact HB.out | apply below_alloc | apply pw_below_drewN | apply below_drew1 | refine below_set ?_ GE252.out | refine below_set ?_ GE257.out) | exact HB.out))); (case side2 => exact HC3.out); rintro e w23 ⟨v259, rfl, ho0, hb⟩; refine ⟨_, rfl, ?_⟩; have n0_ := Aside0.mk (Kd.S_lower ho0 (below_size (by repeat (first | (with_reducible first | exact HB.out | apply below_alloc | apply pw_below_drewN | apply below_drew1 | refine below_set ?_ GE252.out | refine below_set ?_ GE257.out) | exact HB.out)))); have n1_ := Aside0.mk (blk_below (g := gb252) (o := .cells #[.int .u8 a4_0, .int .u8 a4_1, .int .u8 a4_2, .int .u8 a4_3, .int .u8 a4_4, .int .u8 a4_5] 52 (0, 0)) (by (with_reducible repeat (first | refine blk_drewN ?_ _ | refine blk_drew ?_ | refine blk_alloc ?_ _)); refine blk_far ?_ NB252_257.out _; (with_reducible repeat (first | refine blk_drewN ?_ _ | refine blk_drew ?_ | refine blk_alloc ?_ _)); refine blk_far ?_ NB252_257.out _; (with_reducible repeat (first | refine blk_drewN ?_ _ | refine blk_drew ?_ | refine blk_alloc ?_ _)); refine blk_far ?_ NB252_257.out _; (with_reducible repeat (first | refine blk_drewN ?_ _ | refine blk_drew ?_ | refine blk_alloc ?_ _)); exact BK252.out) hb); have n2_ := Aside0.mk (blk_below (g := gb257) (o := .cells #[.int .i64 t254, .int .i64 t255, .int .i64 t256] 25 (0, 0)) (by (with_reducible repeat (first | refine blk_drewN ?_ _ | refine blk_drew ?_ | refine blk_alloc ?_ _)); refine blk_put (cs := #[.int .i64 t254, .int .i64 t255, .int .i64 0]) ?_ 2 _ rfl; (with_reducible repeat (first | refine blk_drewN ?_ _ | refine blk_drew ?_ | refine blk_alloc ?_ _)); refine blk_put (cs := #[.int .i64 t254, .int .i64 0, .int .i64 0]) ?_ 1 _ rfl; (with_reducible repeat (first | refine blk_drewN ?_ _ | refine blk_drew ?_ | refine blk_alloc ?_ _)); refine blk_put (cs := #[.int .i64 0, .int .i64 0, .int .i64 0]) ?_ 0 _ rfl; (with_reducible repeat (first | refine blk_drewN ?_ _ | refine blk_drew ?_ | refine blk_alloc ?_ _)); exact BK257.out) hb); have n3_ := Aside0.mk (below_step (by repeat (first | (with_reducible first | exact HB.out | apply below_alloc | apply pw_below_drewN | apply below_drew1 | refine below_set ?_ GE252.out | refine below_set ?_ GE257.out) | exact HB.out)) hb); clear BK252; clear BK257; clear HB; have HO260 := n0_; have BK252 := n1_; have BK257 := n2_; have HB := n3_; clear n0_ n1_ n2_ n3_; (try clear hb); (try clear hb2); (try clear hk); (try clear hi); (try clear ho0)) | ((with_reducible refine gate_dst (N := 15) rfl ?_); (try (refine gate_guard (by rfl) ?_; dsimp only)); refine box_event ?hg (N := 15) ?hd (cs := #[.int .i64 0, .int .i64 0, .int .i64 0, .int .i64 0, .int .i64 0, .int .i64 0]) (t := 59) ?hr ?_; (case hd => rfl); (case hg => rfl); (case hr => first | (go_simp; done) | (go_simp; rfl)); intro gb262 hg w24 hbox hb; have n0_ := Aside0.mk (Kd.S_below (by (with_reducible repeat (first | apply Kd.S_alloc | apply Kd.S_drewN | apply Kd.S_drew)); exact HO260.out) hb); have n1_ := Aside0.mk (blk_below (g := gb252) (o := .cells #[.int .u8 a4_0, .int .u8 a4_1, .int .u8 a4_2, .int .u8 a4_3, .int .u8 a4_4, .int .u8 a4_5] 52 (0, 0)) (by (with_reducible repeat (first | refine blk_drewN ?_ _ | refine blk_drew ?_ | refine blk_alloc ?_ _)); exact BK252.out) hb); have n2_ := Aside0.mk (blk_below (g := gb257) (o := .cells #[.int .i64 t254, .int .i64 t255, .int .i64 t256] 25 (0, 0)) (by (with_reducible repeat (first | refine blk_drewN ?_ _ | refine blk_drew ?_ | refine blk_alloc ?_ _)); exact BK257.out) hb); have n3_ := Aside0.mk (below_step (by repeat (first | (with_reducible first | exact HB.out | apply below_alloc | apply pw_below_drewN | apply below_drew1 | refine below_set ?_ GE252.out | refine below_set ?_ GE257.out) | exact HB.out)) hb); have n4_ := Aside0.mk (hbox); have n5_ := Aside0.mk ((by rw [hg]; exact (below_size (by repeat (first | (with_reducible first | exact HB.out | apply below_alloc | apply pw_below_drewN | apply below_drew1 | refine below_set ?_ GE252.out | refine below_set ?_ GE257.out) | exact HB.out))) : w.heap.size ≤ gb262)); have n6_ := Aside0.mk ((by rw [hg]; exact (below_size (by repeat (first | (with_reducible first | exact HB.out | apply below_alloc | apply pw_below_drewN | apply below_drew1 | refine below_set ?_ GE252.out | refine below_set ?_ GE257.out) | exact HB.out))) : w.heap.size ≤ gb262)); have n7_ := Aside0.mk ((by rw [hg]; exact Nat.ne_of_lt (blk_lt (g := gb252) (o := .cells #[.int .u8 a4_0, .int .u8 a4_1, .int .u8 a4_2, .int .u8 a4_3, .int .u8 a4_4, .int .u8 a4_5] 52 (0, 0)) (by (with_reducible repeat (first | refine blk_drewN ?_ _ | refine blk_drew ?_ | refine blk_alloc ?_ _)); exact BK252.out)) : gb252 ≠ gb262)); have n8_ := Aside0.mk ((by rw [hg]; exact Nat.ne_of_gt (blk_lt (g := gb252) (o := .cells #[.int .u8 a4_0, .int .u8 a4_1, .int .u8 a4_2, .int .u8 a4_3, .int .u8 a4_4, .int .u8 a4_5] 52 (0, 0)) (by (with_reducible repeat (first | refine blk_drewN ?_ _ | refine blk_drew ?_ | refine blk_alloc ?_ _)); exact BK252.out)) : gb262 ≠ gb252)); have n9_ := Aside0.mk ((by rw [hg]; exact Nat.ne_of_lt (blk_lt (g := gb257) (o := .cells #[.int .i64 t254, .int .i64 t255, .int .i64 t256] 25 (0, 0)) (by (with_reducible repeat (first | refine blk_drewN ?_ _ | refine blk_drew ?_ | refine blk_alloc ?_ _)); exact BK257.out)) : gb257 ≠ gb262)); have n10_ := Aside0.mk ((by rw [hg]; exact Nat.ne_of_gt (blk_lt (g := gb257) (o := .cells #[.int .i64 t254, .int .i64 t255, .int .i64 t256] 25 (0, 0)) (by (with_reducible repeat (first | refine blk_drewN ?_ _ | refine blk_drew ?_ | refine blk_alloc ?_ _)); exact BK257.out)) : gb262 ≠ gb257)); clear HO260; clear BK252; clear BK257; clear HB; have HO260 := n0_; have BK252 := n1_; have BK257 := n2_; have HB := n3_; have BK262 := n4_; have GW262 := n5_; have GE262 := n6_; have NB252_262 := n7_; have NB262_252 := n8_; have NB257_262 := n9_; have NB262_257 := n10_; clear n0_ n1_ n2_ n3_ n4_ n5_ n6_ n7_ n8_ n9_ n10_; clear hb hbox hg))
 go_loopg [16] k (fun kq v16 w' => ∃ (x16_1 : Int) (x263000_1 : Int) (x263001_1 : Int) (x263002_1 : Int) (x263003_1 : Int) (x263004_1 : Int) (x263005_1 : Int), v16 = .int .i64 x16_1 ∧ Aside0 (ambidextertop_TopTimetable.l0 kq l3 true t258 x16_1 a4_0 a4_1 a4_2 a4_3 a4_4 a4_5 t254 t255 t256 x263000_1 x263001_1 x263002_1 x263003_1 x263004_1 x263005_1 = some r) ∧ Aside0 (kq ≤ k) ∧ Aside0 (Kd.S k67 67 w' w.heap.size (fun _ => True) v259 t258) ∧ Aside0 (w'.heap[gb252]? = some (.cells #[.int .u8 a4_0, .int .u8 a4_1, .int .u8 a4_2, .int .u8 a4_3, .int .u8 a4_4, .int .u8 a4_5] 52 (0, 0))) ∧ Aside0 (w'.heap[gb257]? = some (.cells #[.int .i64 t254, .int .i64 t255, .int .i64 t256] 25 (0, 0))) ∧ Aside0 (w'.heap[gb262]? = some (.cells #[.int .i64 x263000_1, .int .i64 x263001_1, .int .i64 x263002_1, .int .i64 x263003_1, .int .i64 x263004_1, .int .i64 x263005_1] 59 (0, 0))) ∧ Aside0 (Below w.heap.size w w'))
 case atStart => exact ⟨(0), (0), (0), (0), (0), (0), (0), (by first | rfl | (simp; done) | (simp [*]; done)), H', ⟨Nat.le_refl _⟩, ⟨by (with_reducible repeat (first | apply Kd.S_alloc | apply Kd.S_drewN | apply Kd.S_drew)); exact HO260.out⟩, ⟨by (with_reducible repeat (first | refine blk_drewN ?_ _ | refine blk_drew ?_ | refine blk_alloc ?_ _)); exact BK252.out⟩, ⟨by (with_reducible repeat (first | refine blk_drewN ?_ _ | refine blk_drew ?_ | refine blk_alloc ?_ _)); exact BK257.out⟩, ⟨by (with_reducible repeat (first | refine blk_drewN ?_ _ | refine blk_drew ?_ | refine blk_alloc ?_ _)); exact BK262.out⟩, ⟨by repeat (first | (with_reducible first | exact HB.out | apply below_alloc | apply pw_below_drewN | apply below_drew1 | refine below_set ?_ GE252.out | refine below_set ?_ GE257.out | refine below_set ?_ GE262.out) | exact HB.out)⟩⟩
 case round => as_aux_lemma =>
  clear H'
  (try clear c1); (try clear c2); (try clear p2); (try clear c3); (try clear c5); (try clear c8); (try clear c8b0); (try clear c8b1); (try clear c13); (try clear c15); (try clear c16); (try clear c16b0); (try clear c16b1); (try clear c21); (try clear hcz14_0); (try clear hcz14_1); (try clear hcz14_2); (try clear hcz22_0); (try clear hcz22_1); (try clear hcz22_2); (try clear hfz14_0); (try clear hfz14_1)
  (try clear hfz14_2); (try clear hfz22_0); (try clear hfz22_1); (try clear hfz22_2)
  obtain ⟨x16_1, x263000_1, x263001_1, x263002_1, x263003_1, x263004_1, x263005_1, rfl, HA, HK1, HO_13, BK252, BK257, BK262, HB⟩ := hrel
  cases gk with
  | zero => exact absurd HA.out (by simp [ambidextertop_TopTimetable.l0])
  | succ k1 =>
   have H := HA.out
   clear HA
   simp only [ambidextertop_TopTimetable.l0] at H
   by_cases c25 : x16_1 < 6
   ·
    rw [if_pos c25] at H
    have c25b0 : decide (x16_1 < 6) = true := decide_eq_true c25
    clear c25
    obtain ⟨ji26, hji26⟩ : ∃ j_ : Int, (wrap64 (Int.tdiv x16_1 3)) = j_ := ⟨_, rfl⟩
    replace H : (if 0 ≤ (ji26) then (if (ji26) < 2 then (if 0 ≤ (Int.tmod x16_1 3) then (if (Int.tmod x16_1 3) < 3 then (ambidextertop_TopTimetable.l0 k1 l3 true t258 (wrap64 (x16_1 + 1)) a4_0 a4_1 a4_2 a4_3 a4_4 a4_5 t254 t255 t256 (dset ((ji26) * 3 + (Int.tmod x16_1 3)) 0 (wrap64 ((Int.tmod (wrap64 (dget [a4_0, a4_1, a4_2, a4_3, a4_4, a4_5] ((ji26) * 3 + (Int.tmod x16_1 3)))) 36) - 17)) x263000_1) (dset ((ji26) * 3 + (Int.tmod x16_1 3)) 1 (wrap64 ((Int.tmod (wrap64 (dget [a4_0, a4_1, a4_2, a4_3, a4_4, a4_5] ((ji26) * 3 + (Int.tmod x16_1 3)))) 36) - 17)) x263001_1) (dset ((ji26) * 3 + (Int.tmod x16_1 3)) 2 (wrap64 ((Int.tmod (wrap64 (dget [a4_0, a4_1, a4_2, a4_3, a4_4, a4_5] ((ji26) * 3 + (Int.tmod x16_1 3)))) 36) - 17)) x263002_1) (dset ((ji26) * 3 + (Int.tmod x16_1 3)) 3 (wrap64 ((Int.tmod (wrap64 (dget [a4_0, a4_1, a4_2, a4_3, a4_4, a4_5] ((ji26) * 3 + (Int.tmod x16_1 3)))) 36) - 17)) x263003_1) (dset ((ji26) * 3 + (Int.tmod x16_1 3)) 4 (wrap64 ((Int.tmod (wrap64 (dget [a4_0, a4_1, a4_2, a4_3, a4_4, a4_5] ((ji26) * 3 + (Int.tmod x16_1 3)))) 36) - 17)) x263004_1) (dset ((ji26) * 3 + (Int.tmod x16_1 3)) 5 (wrap64 ((Int.tmod (wrap64 (dget [a4_0, a4_1, a4_2, a4_3, a4_4, a4_5] ((ji26) * 3 + (Int.tmod x16_1 3)))) 36) - 17)) x263005_1)) else (none)) else (none)) else (none)) else (none)) = some r := by first | (rw [hji26] at H; exact H) | (simp only [hji26] at H ⊢; exact H)
    have hji26w : (IntKind.i64.wrap (Int.tdiv x16_1 3)) = ji26 := (i64_w _).trans hji26
    by_cases c27 : 0 ≤ (ji26)
    case neg =>
     rw [if_neg c27] at H
     exact absurd H (by simp)
    rw [if_pos c27] at H
    have c27b0 : decide (0 ≤ (ji26)) = true := decide_eq_true c27
    clear c27
    by_cases c28 : (ji26) < 2
    case neg =>
     rw [if_neg c28] at H
     exact absurd H (by simp)
    rw [if_pos c28] at H
    have c28b0 : decide ((ji26) < 2) = true := decide_eq_true c28
    clear c28
    obtain ⟨ji29, hji29⟩ : ∃ j_ : Int, (Int.tmod x16_1 3) = j_ := ⟨_, rfl⟩
    replace H : (if 0 ≤ (ji29) then (if (ji29) < 3 then (ambidextertop_TopTimetable.l0 k1 l3 true t258 (wrap64 (x16_1 + 1)) a4_0 a4_1 a4_2 a4_3 a4_4 a4_5 t254 t255 t256 (dset ((ji26) * 3 + (ji29)) 0 (wrap64 ((Int.tmod (wrap64 (dget [a4_0, a4_1, a4_2, a4_3, a4_4, a4_5] ((ji26) * 3 + (ji29)))) 36) - 17)) x263000_1) (dset ((ji26) * 3 + (ji29)) 1 (wrap64 ((Int.tmod (wrap64 (dget [a4_0, a4_1, a4_2, a4_3, a4_4, a4_5] ((ji26) * 3 + (ji29)))) 36) - 17)) x263001_1) (dset ((ji26) * 3 + (ji29)) 2 (wrap64 ((Int.tmod (wrap64 (dget [a4_0, a4_1, a4_2, a4_3, a4_4, a4_5] ((ji26) * 3 + (ji29)))) 36) - 17)) x263002_1) (dset ((ji26) * 3 + (ji29)) 3 (wrap64 ((Int.tmod (wrap64 (dget [a4_0, a4_1, a4_2, a4_3, a4_4, a4_5] ((ji26) * 3 + (ji29)))) 36) - 17)) x263003_1) (dset ((ji26) * 3 + (ji29)) 4 (wrap64 ((Int.tmod (wrap64 (dget [a4_0, a4_1, a4_2, a4_3, a4_4, a4_5] ((ji26) * 3 + (ji29)))) 36) - 17)) x263004_1) (dset ((ji26) * 3 + (ji29)) 5 (wrap64 ((Int.tmod (wrap64 (dget [a4_0, a4_1, a4_2, a4_3, a4_4, a4_5] ((ji26) * 3 + (ji29)))) 36) - 17)) x263005_1)) else (none)) else (none)) = some r := by first | (rw [hji29] at H; exact H) | (simp only [hji29] at H ⊢; exact H)
    by_cases c30 : 0 ≤ (ji29)
    case neg =>
     rw [if_neg c30] at H
     exact absurd H (by simp)
    rw [if_pos c30] at H
    have c30b0 : decide (0 ≤ (ji29)) = true := decide_eq_true c30
    clear c30
    by_cases c31 : (ji29) < 3
    case neg =>
     rw [if_neg c31] at H
     exact absurd H (by simp)
    rw [if_pos c31] at H
    have c31b0 : decide ((ji29) < 3) = true := decide_eq_true c31
    clear c31
    have H' := Aside0.mk H
    clear H
    try go_wp2
    have n0_ := Aside0.mk (Kd.S_drew HO_13.out)
    have n1_ := Aside0.mk (blk_drew BK252.out)
    have n2_ := Aside0.mk (blk_drew BK257.out)
    have n3_ := Aside0.mk (blk_drew BK262.out)
    have n4_ := Aside0.mk (below_drew1 HB.out)
    clear HO_13
    clear BK252
    clear BK257
    clear BK262
    clear HB
    have HO_13 := n0_
    have BK252 := n1_
    have BK257 := n2_
    have BK262 := n3_
    have HB := n4_
    clear n0_ n1_ n2_ n3_ n4_
    have ppd33_0 : (0 ≤ (ji26 : Int)) = True := eq_true (of_decide_eq_true (by first | (with_reducible assumption) | assumption))
    have qqd33_0 : ((ji26 : Int) < 2) = True := eq_true (of_decide_eq_true (by first | (with_reducible assumption) | assumption))
    have ppd33_1 : (0 ≤ (ji29 : Int)) = True := eq_true (of_decide_eq_true (by first | (with_reducible assumption) | assumption))
    have qqd33_1 : ((ji29 : Int) < 3) = True := eq_true (of_decide_eq_true (by first | (with_reducible assumption) | assumption))
    have ppd34_0 : (0 ≤ (ji26 : Int)) = True := eq_true (of_decide_eq_true (by first | (with_reducible assumption) | assumption))
    have qqd34_0 : ((ji26 : Int) < 2) = True := eq_true (of_decide_eq_true (by first | (with_reducible assumption) | assumption))
    have ppd34_1 : (0 ≤ (ji29 : Int)) = True := eq_true (of_decide_eq_true (by first | (with_reducible assumption) | assumption))
    have qqd34_1 : ((ji29 : Int) < 3) = True := eq_true (of_decide_eq_true (by first | (with_reducible assumption) | assumption))
    refine start_ (n := 17) (S := fun w' => w'.cell? ⟨gb252, ((ji26) : Int).toNat * 3 + ((ji29) : Int).toNat, none⟩ = some (.int .u8 (dget [a4_0, a4_1, a4_2, a4_3, a4_4, a4_5] ((ji26) * 3 + (ji29))))) (ds := []) #[O,O,O,O,O,O,O,O,O,O,O,O,O,O,O,O,O] (by kernel_rfl) rfl rfl ((blk_cell BK252.out _).trans (dget6 (of_eq_true ppd33_0) (of_eq_true qqd33_0) (of_eq_true ppd33_1) (of_eq_true qqd33_1))) (fun hHeld => ?_); refine with_tabW ambidextertop_TopTimetable.tab12 ambidextertop_TopTimetable.bits12 (fun HT_ HW_ => ?_)
    generalize wr.drew = w32 at HO_13 BK252 BK257 BK262 HB hHeld ⊢
    refine pq_ (i := 0) (N := some 58) #[I,O,O,O,O,O,O,O,O,O,O,O,O,O,O,O,O] HT_ ?_
    refine pq_ (i := 1) (N := some 59) #[I,I,O,O,O,O,O,O,O,O,O,O,O,O,O,O,O] HT_ ?_
    refine pq_ (i := 2) (N := some 60) #[I,I,I,O,O,O,O,O,O,O,O,O,O,O,O,O,O] HT_ ?_
    refine pq_ (i := 3) (N := some 61) #[I,I,I,I,O,O,O,O,O,O,O,O,O,O,O,O,O] HT_ ?_
    refine pq_ (i := 4) (N := some 62) #[I,I,I,I,I,O,O,O,O,O,O,O,O,O,O,O,O] HT_ ?_
    refine pq_ (i := 5) (N := some 63) #[I,I,I,I,I,I,O,O,O,O,O,O,O,O,O,O,O] HT_ ?_
    refine pq_ (i := 6) (N := some 64) #[I,I,I,I,I,I,I,O,O,O,O,O,O,O,O,O,O] HT_ ?_
    refine pq_ (i := 7) (N := some 65) #[I,I,I,I,I,I,I,I,O,O,O,O,O,O,O,O,O] HT_ ?_
    refine pq_ (i := 8) (N := some 66) #[I,I,I,I,I,I,I,I,I,O,O,O,O,O,O,O,O] HT_ ?_
    refine pq_ (i := 9) (N := some 67) #[I,I,I,I,I,I,I,I,I,I,O,O,O,O,O,O,O] HT_ ?_
    refine pq_ (i := 14) (N := some 72) #[I,I,I,I,I,I,I,I,I,I,O,O,O,O,I,O,O] HT_ ?_
    refine take_ (i := 10) (N := some 68) (v := ?_) (a' := ?_) #[I,I,I,I,I,I,I,I,I,I,I,O,O,O,I,O,O] rfl rfl (take_ofW HT_.out HW_.out (by kernel_rfl)) (fun _ _ _ h => h) (Or.inl ⟨by rfl, ?_⟩) hHeld ?_ ?_
    rotate_left
    ·
     intro w' s0
     go_simp
     with_reducible rfl
    rotate_left; · (simp only [Act.put, List.setIfInBounds_toArray, List.set_cons_zero, List.set_cons_succ, i64_w, i32_w]; rfl)
    refine pq_ (i := 11) (N := some 69) #[I,I,I,I,I,I,I,I,I,I,I,I,O,O,I,O,O] HT_ ?_
    refine pq_ (i := 12) (N := some 70) #[I,I,I,I,I,I,I,I,I,I,I,I,I,O,I,O,O] HT_ ?_
    refine pq_ (i := 13) (N := some 71) #[I,I,I,I,I,I,I,I,I,I,I,I,I,I,I,O,O] HT_ ?_
    refine pq_ (i := 15) (N := some 73) #[I,I,I,I,I,I,I,I,I,I,I,I,I,I,I,I,O] HT_ ?_
    refine one_ (i := 16) (N := none) #[I,I,I,I,I,I,I,I,I,I,I,I,I,I,I,I,I] rfl rfl (one_of HT_.out (by kernel_rfl)) (by decide) (fun K hK => ?_)
    have hs35 : w32.cell? ⟨gb262, ((ji26) : Int).toNat * 3 + ((ji29) : Int).toNat, none⟩ = some (.int .i64 (dget [x263000_1, x263001_1, x263002_1, x263003_1, x263004_1, x263005_1] (ji26 * 3 + ji29))) := (blk_cell BK262.out _).trans (dget6 (of_eq_true ppd34_0) (of_eq_true qqd34_0) (of_eq_true ppd34_1) (of_eq_true qqd34_1))
    have hfs35 := blk_frozen BK262.out (((ji26) : Int).toNat * 3 + ((ji29) : Int).toNat)
    have hns35_0 := NB252_262.out
    have hns35_1 := NB257_262.out
    have hms35_0 := NB262_252.out
    have hms35_1 := NB262_257.out
    refine skip_ (w1 := ?_) (by rfl) rfl ?_ ?_
    rotate_left
    ·
     go_simp
     rfl
    refine hK.out _ _ (((cell_far (p := ⟨gb262, _, none⟩) NB252_262.out _).trans (hHeld))) (fun hHeld => ?_)
    clear hK K
    refine done_ (done_of HT_.out (by kernel_rfl)) ?_
    try go_wp2
    go_roundg k1
    case measure => have := HK1.out; omega
    case rel => exact ⟨(wrap64 (x16_1 + 1)), (dset ((ji26) * 3 + (ji29)) 0 (wrap64 ((Int.tmod (wrap64 (dget [a4_0, a4_1, a4_2, a4_3, a4_4, a4_5] ((ji26) * 3 + (ji29)))) 36) - 17)) x263000_1), (dset ((ji26) * 3 + (ji29)) 1 (wrap64 ((Int.tmod (wrap64 (dget [a4_0, a4_1, a4_2, a4_3, a4_4, a4_5] ((ji26) * 3 + (ji29)))) 36) - 17)) x263001_1), (dset ((ji26) * 3 + (ji29)) 2 (wrap64 ((Int.tmod (wrap64 (dget [a4_0, a4_1, a4_2, a4_3, a4_4, a4_5] ((ji26) * 3 + (ji29)))) 36) - 17)) x263002_1), (dset ((ji26) * 3 + (ji29)) 3 (wrap64 ((Int.tmod (wrap64 (dget [a4_0, a4_1, a4_2, a4_3, a4_4, a4_5] ((ji26) * 3 + (ji29)))) 36) - 17)) x263003_1), (dset ((ji26) * 3 + (ji29)) 4 (wrap64 ((Int.tmod (wrap64 (dget [a4_0, a4_1, a4_2, a4_3, a4_4, a4_5] ((ji26) * 3 + (ji29)))) 36) - 17)) x263004_1), (dset ((ji26) * 3 + (ji29)) 5 (wrap64 ((Int.tmod (wrap64 (dget [a4_0, a4_1, a4_2, a4_3, a4_4, a4_5] ((ji26) * 3 + (ji29)))) 36) - 17)) x263005_1), (by first | rfl | (simp; done) | (simp [*]; done)), H', ⟨by have := HK1.out; omega⟩, ⟨by (with_reducible repeat (first | apply Kd.S_alloc | apply Kd.S_drewN | apply Kd.S_drew)); exact Kd.S_mono (Kd.S_far (p := ⟨gb262, ((ji26) : Int).toNat * 3 + ((ji29) : Int).toNat, none⟩) (Kd.S_types HO_13.out BK262.out (by decide)) (fun _ hk => hk.2) (.int .i64 (wrap64 ((Int.tmod (wrap64 (dget [a4_0, a4_1, a4_2, a4_3, a4_4, a4_5] ((ji26) * 3 + (ji29)))) 36) - 17)))) (fun _ hk => trivial)⟩, ⟨by (with_reducible repeat (first | refine blk_drewN ?_ _ | refine blk_drew ?_ | refine blk_alloc ?_ _)); refine blk_far ?_ NB252_262.out _; (with_reducible repeat (first | refine blk_drewN ?_ _ | refine blk_drew ?_ | refine blk_alloc ?_ _)); exact BK252.out⟩, ⟨by (with_reducible repeat (first | refine blk_drewN ?_ _ | refine blk_drew ?_ | refine blk_alloc ?_ _)); refine blk_far ?_ NB257_262.out _; (with_reducible repeat (first | refine blk_drewN ?_ _ | refine blk_drew ?_ | refine blk_alloc ?_ _)); exact BK257.out⟩, ⟨by (with_reducible repeat (first | refine blk_drewN ?_ _ | refine blk_drew ?_ | refine blk_alloc ?_ _)); refine blk_put (cs := #[.int .i64 x263000_1, .int .i64 x263001_1, .int .i64 x263002_1, .int .i64 x263003_1, .int .i64 x263004_1, .int .i64 x263005_1]) ?_ (((ji26) : Int).toNat * 3 + ((ji29) : Int).toNat) _ (dset6 (of_eq_true ppd34_0) (of_eq_true qqd34_0) (of_eq_true ppd34_1) (of_eq_true qqd34_1) _); (with_reducible repeat (first | refine blk_drewN ?_ _ | refine blk_drew ?_ | refine blk_alloc ?_ _)); exact BK262.out⟩, ⟨by repeat (first | (with_reducible first | exact HB.out | apply below_alloc | apply pw_below_drewN | apply below_drew1 | refine below_set ?_ GE252.out | refine below_set ?_ GE257.out | refine below_set ?_ GE262.out) | exact HB.out)⟩⟩
   rw [if_neg c25] at H
   have c25b0 : decide (x16_1 < 6) = false := decide_eq_false c25
   clear c25
   replace H := Option.bind_eq_some_iff.mp H
   obtain ⟨t263, A360, H⟩ := H
   replace H : (ambidextertop_TopTimetable.l1 k1 l3 true t258 t263 0 0 t254 t255 t256 x263000_1 x263001_1 x263002_1 x263003_1 x263004_1 x263005_1) = some r := H
   have A36 := Aside0.mk A360
   clear A360
   have H' := Aside0.mk H
   clear H
   go_wp2_with (first | ((with_reducible refine gate_callee (f := 28) rfl ?_); refine goesL_ (some 75) rfl rfl Try.func28 (by kernel_rfl) rfl #[.slice A3 l3.length c3] rfl (by (try simp only [List.map_toArray, List.map_cons, List.map_nil]); first | done | rfl | (simp only [List.length_drop, List.length_take]; rfl)) ?_; (with_reducible refine (ambidexterref23_Runs.calls k1 _ _ l3 t263 _ ?side1 ?side2 A36.out).mono ?_); (case side1 => repeat (first | exact (Kd.C_below HR3.out HB.out) | (with_reducible refine Kd.C_alloc ?_ _) | (with_reducible refine Kd.C_drewN ?_ _) | (with_reducible refine Kd.C_drew ?_))); (case side2 => exact HC3.out); rintro e w37 ⟨v264, rfl, ho0, hb⟩; refine ⟨_, rfl, ?_⟩; have n0_ := Aside0.mk (Kd.S_below (by (with_reducible repeat (first | apply Kd.S_alloc | apply Kd.S_drewN | apply Kd.S_drew)); exact HO_13.out) hb); have n1_ := Aside0.mk (Kd.R_lower ho0 (below_size (by repeat (first | (with_reducible first | exact HB.out | apply below_alloc | apply pw_below_drewN | apply below_drew1 | refine below_set ?_ GE252.out | refine below_set ?_ GE257.out | refine below_set ?_ GE262.out) | exact HB.out)))); have n2_ := Aside0.mk (blk_below (g := gb252) (o := .cells #[.int .u8 a4_0, .int .u8 a4_1, .int .u8 a4_2, .int .u8 a4_3, .int .u8 a4_4, .int .u8 a4_5] 52 (0, 0)) (by (with_reducible repeat (first | refine blk_drewN ?_ _ | refine blk_drew ?_ | refine blk_alloc ?_ _)); exact BK252.out) hb); have n3_ := Aside0.mk (blk_below (g := gb257) (o := .cells #[.int .i64 t254, .int .i64 t255, .int .i64 t256] 25 (0, 0)) (by (with_reducible repeat (first | refine blk_drewN ?_ _ | refine blk_drew ?_ | refine blk_alloc ?_ _)); exact BK257.out) hb); have n4_ := Aside0.mk (blk_below (g := gb262) (o := .cells #[.int .i64 x263000_1, .int .i64 x263001_1, .int .i64 x263002_1, .int .i64 x263003_1, .int .i64 x263004_1, .int .i64 x263005_1] 59 (0, 0)) (by (with_reducible repeat (first | refine blk_drewN ?_ _ | refine blk_drew ?_ | refine blk_alloc ?_ _)); exact BK262.out) hb); have n5_ := Aside0.mk (below_step (by repeat (first | (with_reducible first | exact HB.out | apply below_alloc | apply pw_below_drewN | apply below_drew1 | refine below_set ?_ GE252.out | refine below_set ?_ GE257.out | refine below_set ?_ GE262.out) | exact HB.out)) hb); clear HO_13; clear BK252; clear BK257; clear BK262; clear HB; have HO_13 := n0_; have HO265 := n1_; have BK252 := n2_; have BK257 := n3_; have BK262 := n4_; have HB := n5_; clear n0_ n1_ n2_ n3_ n4_ n5_; (try clear hb); (try clear hb2); (try clear hk); (try clear hi); (try clear ho0)))
   go_loopg [18, 19] k1 (fun kq v18 v19 w' => ∃ (x18_2 : Int) (x19_2 : Int), v18 = .int .i64 x18_2 ∧ v19 = .int .i64 x19_2 ∧ Aside0 (ambidextertop_TopTimetable.l1 kq l3 true t258 t263 x18_2 x19_2 t254 t255 t256 x263000_1 x263001_1 x263002_1 x263003_1 x263004_1 x263005_1 = some r) ∧ Aside0 (kq ≤ k1) ∧ Aside0 (Kd.S k67 67 w' w.heap.size (fun _ => True) v259 t258) ∧ Aside0 (Kd.R k65 65 w' w.heap.size (fun _ => True) v264 t263) ∧ Aside0 (w'.heap[gb252]? = some (.cells #[.int .u8 a4_0, .int .u8 a4_1, .int .u8 a4_2, .int .u8 a4_3, .int .u8 a4_4, .int .u8 a4_5] 52 (0, 0))) ∧ Aside0 (w'.heap[gb257]? = some (.cells #[.int .i64 t254, .int .i64 t255, .int .i64 t256] 25 (0, 0))) ∧ Aside0 (w'.heap[gb262]? = some (.cells #[.int .i64 x263000_1, .int .i64 x263001_1, .int .i64 x263002_1, .int .i64 x263003_1, .int .i64 x263004_1, .int .i64 x263005_1] 59 (0, 0))) ∧ Aside0 (Below w.heap.size w w'))
   case atStart => exact ⟨(0), (0), (by first | rfl | (simp; done) | (simp [*]; done)), (by first | rfl | (simp; done) | (simp [*]; done)), H', ⟨Nat.le_refl _⟩, ⟨by (with_reducible repeat (first | apply Kd.S_alloc | apply Kd.S_drewN | apply Kd.S_drew)); exact HO_13.out⟩, ⟨by (with_reducible repeat (first | apply Kd.R_alloc | apply Kd.R_drewN | apply Kd.R_drew)); exact HO265.out⟩, ⟨by (with_reducible repeat (first | refine blk_drewN ?_ _ | refine blk_drew ?_ | refine blk_alloc ?_ _)); exact BK252.out⟩, ⟨by (with_reducible repeat (first | refine blk_drewN ?_ _ | refine blk_drew ?_ | refine blk_alloc ?_ _)); exact BK257.out⟩, ⟨by (with_reducible repeat (first | refine blk_drewN ?_ _ | refine blk_drew ?_ | refine blk_alloc ?_ _)); exact BK262.out⟩, ⟨by repeat (first | (with_reducible first | exact HB.out | apply below_alloc | apply pw_below_drewN | apply below_drew1 | refine below_set ?_ GE252.out | refine below_set ?_ GE257.out | refine below_set ?_ GE262.out) | exact HB.out)⟩⟩
   case round => as_aux_lemma =>
    clear H'
    (try clear c1); (try clear c2); (try clear p2); (try clear c3); (try clear c5); (try clear p6); (try clear c8); (try clear c8b0); (try clear c8b1); (try clear c13); (try clear c15); (try clear c16); (try clear c16b0); (try clear c16b1); (try clear c21); (try clear c25); (try clear c25b0); (try clear c26); (try clear c27); (try clear c27b0); (try clear c28); (try clear c28b0); (try clear c30); (try clear c30b0)
    (try clear c31); (try clear c31b0); (try clear hcz14_0); (try clear hcz14_1); (try clear hcz14_2); (try clear hcz22_0); (try clear hcz22_1); (try clear hcz22_2); (try clear hfz14_0); (try clear hfz14_1); (try clear hfz14_2); (try clear hfz22_0); (try clear hfz22_1); (try clear hfz22_2); (try clear p2)
    obtain ⟨x18_2, x19_2, rfl, rfl, HA, HK2, HO_13, HO_17, BK252, BK257, BK262, HB⟩ := hrel
    cases gk with
    | zero => exact absurd HA.out (by simp [ambidextertop_TopTimetable.l1])
    | succ k2 =>
     have H := HA.out
     clear HA
     simp only [ambidextertop_TopTimetable.l1] at H
     by_cases c38 : x19_2 < (t263.length : Int)
     ·
      rw [if_pos c38] at H
      have c38b0 : decide (x19_2 < (t263.length : Int)) = true := decide_eq_true c38
      clear c38
      by_cases c39 : 0 ≤ x19_2
      case neg =>
       rw [if_neg c39] at H
       exact absurd H (by simp)
      rw [if_pos c39] at H
      have c39b0 : decide (0 ≤ x19_2) = true := decide_eq_true c39
      clear c39
      replace H := Option.bind_eq_some_iff.mp H
      obtain ⟨⟨t267, t268⟩, A400, H⟩ := H
      replace H : (if t268 = true then (if x19_2 ≥ (t258.length : Int) then (some false) else (if x19_2 < (t258.length : Int) then (if ((rd_T67 t258 x19_2).f1) = x18_2 then (if (((rd_T67 t258 x19_2).f2).length : Int) = t267 then (ambidextertop_TopTimetable.l1 k2 l3 true t258 t263 (wrap64 (x18_2 + t267)) (wrap64 (x19_2 + 1)) t254 t255 t256 x263000_1 x263001_1 x263002_1 x263003_1 x263004_1 x263005_1) else (some false)) else (some false)) else (none))) else (some false)) = some r := H
      have A40 := Aside0.mk A400
      clear A400
      by_cases c41 : t268 = true
      case neg =>
       replace c41 := Bool.eq_false_iff.mpr c41
       subst c41
       have H1 : (some false) = some r := by rw [if_neg (show ¬ (false = true) by decide)] at H; exact H
       clear H
       have H := H1
       clear H1
       exact absurd HT.out (by rw [← Option.some.inj H]; decide)
      subst c41
      have H1 : (if x19_2 ≥ (t258.length : Int) then (some false) else (if x19_2 < (t258.length : Int) then (if ((rd_T67 t258 x19_2).f1) = x18_2 then (if (((rd_T67 t258 x19_2).f2).length : Int) = t267 then (ambidextertop_TopTimetable.l1 k2 l3 true t258 t263 (wrap64 (x18_2 + t267)) (wrap64 (x19_2 + 1)) t254 t255 t256 x263000_1 x263001_1 x263002_1 x263003_1 x263004_1 x263005_1) else (some false)) else (some false)) else (none))) = some r := by rw [if_pos rfl] at H; exact H
      clear H
      have H := H1
      clear H1
      by_cases c42 : x19_2 ≥ (t258.length : Int)
      ·
       rw [if_pos c42] at H
       have c42b0 : decide ((t258.length : Int) ≤ x19_2) = true := decide_eq_true c42
       clear c42
       exact absurd HT.out (by rw [← Option.some.inj H]; decide)
      rw [if_neg c42] at H
      have c42b0 : decide ((t258.length : Int) ≤ x19_2) = false := decide_eq_false c42
      clear c42
      by_cases c43 : x19_2 < (t258.length : Int)
      case neg =>
       rw [if_neg c43] at H
       exact absurd H (by simp)
      rw [if_pos c43] at H
      have c43b0 : decide (x19_2 < (t258.length : Int)) = true := decide_eq_true c43
      clear c43
      by_cases c44 : ((rd_T67 t258 x19_2).f1) = x18_2
      case neg =>
       rw [if_neg c44] at H
       have c44b0 : (((rd_T67 t258 x19_2).f1) == x18_2) = false := beq_eq_false_iff_ne.mpr c44
       have c44b1 : (((rd_T67 t258 x19_2).f1) != x18_2) = true := bne_iff_ne.mpr c44
       exact absurd HT.out (by rw [← Option.some.inj H]; decide)
      rw [if_pos c44] at H
      have c44b0 : (((rd_T67 t258 x19_2).f1) == x18_2) = true := beq_iff_eq.mpr c44
      have c44b1 : (((rd_T67 t258 x19_2).f1) != x18_2) = false := bne_eq_false_iff_eq.mpr c44
      clear c44
      by_cases c45 : (((rd_T67 t258 x19_2).f2).length : Int) = t267
      case neg =>
       rw [if_neg c45] at H
       have c45b0 : ((((rd_T67 t258 x19_2).f2).length : Int) == t267) = false := beq_eq_false_iff_ne.mpr c45
       have c45b1 : ((((rd_T67 t258 x19_2).f2).length : Int) != t267) = true := bne_iff_ne.mpr c45
       exact absurd HT.out (by rw [← Option.some.inj H]; decide)
      rw [if_pos c45] at H
      have c45b0 : ((((rd_T67 t258 x19_2).f2).length : Int) == t267) = true := beq_iff_eq.mpr c45
      have c45b1 : ((((rd_T67 t258 x19_2).f2).length : Int) != t267) = false := bne_eq_false_iff_eq.mpr c45
      clear c45
      have H' := Aside0.mk H
      clear H
      obtain ⟨Ao46, co46, eo46⟩ := Kd.R_slice HO_17.out
      subst eo46
      try go_wp2
      have n0_ := Aside0.mk (Kd.S_drew HO_13.out)
      have n1_ := Aside0.mk (Kd.R_drew HO_17.out)
      have n2_ := Aside0.mk (blk_drew BK252.out)
      have n3_ := Aside0.mk (blk_drew BK257.out)
      have n4_ := Aside0.mk (blk_drew BK262.out)
      have n5_ := Aside0.mk (below_drew1 HB.out)
      clear HO_13
      clear HO_17
      clear BK252
      clear BK257
      clear BK262
      clear HB
      have HO_13 := n0_
      have HO_17 := n1_
      have BK252 := n2_
      have BK257 := n3_
      have BK262 := n4_
      have HB := n5_
      clear n0_ n1_ n2_ n3_ n4_ n5_
      have p266 : 0 ≤ (x19_2 : Int) := of_decide_eq_true (by first | (with_reducible assumption) | assumption)
      have q266 : x19_2 < (t263.length : Int) := of_decide_eq_true (by first | (with_reducible assumption) | assumption)
      obtain ⟨ad266, e266, hx266_0, hx266_1, hx266_2, hx266_3⟩ := at_T65 (Kd.R_reads' HO_17.out).2.2 x19_2 p266 q266
      cases e266
      replace p266 := eq_true p266
      replace q266 := eq_true q266
      refine start_ (n := 13) (S := fun w' => w'.cell? ⟨gb257, 0, none⟩ = some (.int .i64 t254) ∧ w'.cell? ⟨gb257, 1, none⟩ = some (.int .i64 t255) ∧ w'.cell? ⟨gb257, 2, none⟩ = some (.int .i64 t256) ∧ w'.cell? (ad266.add ((x19_2).toNat * 4)) = some (.int .i64 ((rd_T65 t263 x19_2).f0.f0)) ∧ w'.cell? ⟨(ad266.add ((x19_2).toNat * 4)).block, (ad266.add ((x19_2).toNat * 4)).off + 1, none⟩ = some (.int .i64 ((rd_T65 t263 x19_2).f0.f1)) ∧ w'.cell? ⟨(ad266.add ((x19_2).toNat * 4)).block, (ad266.add ((x19_2).toNat * 4)).off + 2, none⟩ = some (.int .i64 ((rd_T65 t263 x19_2).f0.f2)) ∧ w'.cell? ⟨(ad266.add ((x19_2).toNat * 4)).block, (ad266.add ((x19_2).toNat * 4)).off + 3, none⟩ = some (.int .i64 ((rd_T65 t263 x19_2).f1))) (ds := []) #[O,O,O,O,O,O,O,O,O,O,O,O,O] (by kernel_rfl) rfl rfl ⟨(blk_cell BK257.out 0).trans rfl, (blk_cell BK257.out 1).trans rfl, (blk_cell BK257.out 2).trans rfl, hx266_0, hx266_1, hx266_2, hx266_3⟩ (fun hHeld => ?_); refine with_tabW ambidextertop_TopTimetable.tab18 ambidextertop_TopTimetable.bits18 (fun HT_ HW_ => ?_)
      generalize wr.drew = w47 at HO_13 HO_17 BK252 BK257 BK262 HB hx266_0 hx266_1 hx266_2 hx266_3 hHeld ⊢
      refine pq_ (i := 1) (N := some 84) #[O,I,O,O,O,O,O,O,O,O,O,O,O] HT_ ?_
      refine pq_ (i := 2) (N := some 85) #[O,I,I,O,O,O,O,O,O,O,O,O,O] HT_ ?_
      refine pq_ (i := 3) (N := some 86) #[O,I,I,I,O,O,O,O,O,O,O,O,O] HT_ ?_
      refine pq_ (i := 4) (N := some 87) #[O,I,I,I,I,O,O,O,O,O,O,O,O] HT_ ?_
      refine take_ (i := 0) (N := some 83) (v := ?_) (a' := ?_) #[I,I,I,I,I,O,O,O,O,O,O,O,O] rfl rfl (take_ofW HT_.out HW_.out (by kernel_rfl)) (fun _ _ _ h => h) (Or.inl ⟨by rfl, ?_⟩) hHeld ?_ ?_
      rotate_left; · (rintro w' ⟨s0, s1, s2, s3, s4, s5, s6⟩; go_simp; with_reducible rfl)
      rotate_left; · (simp only [Act.put, List.setIfInBounds_toArray, List.set_cons_zero, List.set_cons_succ, i64_w, i32_w]; rfl)
      refine take_ (i := 5) (N := some 88) (v := ?_) (a' := ?_) #[I,I,I,I,I,I,O,O,O,O,O,O,O] rfl rfl (take_ofW HT_.out HW_.out (by kernel_rfl)) (fun _ _ _ h => h) (Or.inl ⟨by rfl, ?_⟩) hHeld ?_ ?_
      rotate_left; · (rintro w' ⟨s0, s1, s2, s3, s4, s5, s6⟩; go_simp; with_reducible rfl)
      rotate_left; · (simp only [Act.put, List.setIfInBounds_toArray, List.set_cons_zero, List.set_cons_succ, i64_w, i32_w]; rfl)
      refine pq_ (i := 6) (N := some 89) #[I,I,I,I,I,I,I,O,O,O,O,O,O] HT_ ?_
      refine one_ (i := 7) (N := some 90) #[I,I,I,I,I,I,I,I,O,O,O,O,O] rfl rfl (one_of HT_.out (by kernel_rfl)) (by decide) (fun K hK => ?_)
      refine goes_ Try.func17 (by kernel_rfl) rfl #[.agg #[.int .i64 t254, .int .i64 t255, .int .i64 t256], .int .i64 (wrap64 (((rd_T65 t263 x19_2).f1) * 12))] (by rfl) rfl rfl (by (try simp only [List.map_toArray, List.map_cons, List.map_nil]); first | done | rfl | (simp only [List.length_drop, List.length_take]; rfl)) ?_
      with_reducible refine (mintime_Duration.calls k2 t254 t255 t256 (wrap64 (((rd_T65 t263 x19_2).f1) * 12)) t267 true _ A40.out).mono ?_
      rintro e w48 ⟨rfl, hb⟩
      have HS3_ := (hb.cell (World.block_lt_of_cell? _ _ (hHeld.2.2.2.1))).trans (hHeld.2.2.2.1)
      have HS4_ := (hb.cell (World.block_lt_of_cell? _ _ (hHeld.2.2.2.2.1))).trans (hHeld.2.2.2.2.1)
      have HS5_ := (hb.cell (World.block_lt_of_cell? _ _ (hHeld.2.2.2.2.2.1))).trans (hHeld.2.2.2.2.2.1)
      have HS6_ := (hb.cell (World.block_lt_of_cell? _ _ (hHeld.2.2.2.2.2.2))).trans (hHeld.2.2.2.2.2.2)
      refine ⟨_, rfl, ?_⟩
      have n0_ := Aside0.mk (Kd.S_below (by (with_reducible repeat (first | apply Kd.S_alloc | apply Kd.S_drewN | apply Kd.S_drew)); exact HO_13.out) hb)
      have n1_ := Aside0.mk (Kd.R_below (by (with_reducible repeat (first | apply Kd.R_alloc | apply Kd.R_drewN | apply Kd.R_drew)); exact HO_17.out) hb)
      have n2_ := Aside0.mk (blk_below (g := gb252) (o := .cells #[.int .u8 a4_0, .int .u8 a4_1, .int .u8 a4_2, .int .u8 a4_3, .int .u8 a4_4, .int .u8 a4_5] 52 (0, 0)) (by (with_reducible repeat (first | refine blk_drewN ?_ _ | refine blk_drew ?_ | refine blk_alloc ?_ _)); exact BK252.out) hb)
      have n3_ := Aside0.mk (blk_below (g := gb257) (o := .cells #[.int .i64 t254, .int .i64 t255, .int .i64 t256] 25 (0, 0)) (by (with_reducible repeat (first | refine blk_drewN ?_ _ | refine blk_drew ?_ | refine blk_alloc ?_ _)); exact BK257.out) hb)
      have n4_ := Aside0.mk (blk_below (g := gb262) (o := .cells #[.int .i64 x263000_1, .int .i64 x263001_1, .int .i64 x263002_1, .int .i64 x263003_1, .int .i64 x263004_1, .int .i64 x263005_1] 59 (0, 0)) (by (with_reducible repeat (first | refine blk_drewN ?_ _ | refine blk_drew ?_ | refine blk_alloc ?_ _)); exact BK262.out) hb)
      have n5_ := Aside0.mk (below_step (by repeat (first | (with_reducible first | exact HB.out | apply below_alloc | apply pw_below_drewN | apply below_drew1 | refine below_set ?_ GE252.out | refine below_set ?_ GE257.out | refine below_set ?_ GE262.out) | exact HB.out)) hb)
      clear HO_13
      clear HO_17
      clear BK252
      clear BK257
      clear BK262
      clear HB
      have HO_13 := n0_
      have HO_17 := n1_
      have BK252 := n2_
      have BK257 := n3_
      have BK262 := n4_
      have HB := n5_
      clear n0_ n1_ n2_ n3_ n4_ n5_
      (try clear hb)
      (try clear hb2)
      (try clear hk)
      (try clear hi)
      refine hK.out _ _ ⟨(blk_cell BK257.out 0).trans rfl, (blk_cell BK257.out 1).trans rfl, (blk_cell BK257.out 2).trans rfl, HS3_, HS4_, HS5_, HS6_⟩ (fun hHeld => ?_)
      clear hK K
      refine norm_ (a' := ?_) ?_ ?_
      rotate_left
      ·
       show Act.put _ (some 90) _ = _
       simp only [Act.put, List.setIfInBounds_toArray, List.set_cons_zero, List.set_cons_succ, i64_w, i32_w]
       rfl
      refine pq_ (i := 8) (N := some 82) #[I,I,I,I,I,I,I,I,I,O,O,O,O] HT_ ?_
      refine pq_ (i := 9) (N := some 91) #[I,I,I,I,I,I,I,I,I,I,O,O,O] HT_ ?_
      refine pq_ (i := 10) (N := some 92) #[I,I,I,I,I,I,I,I,I,I,I,O,O] HT_ ?_
      refine pq_ (i := 11) (N := some 20) #[I,I,I,I,I,I,I,I,I,I,I,I,O] HT_ ?_
      refine pq_ (i := 12) (N := some 21) #[I,I,I,I,I,I,I,I,I,I,I,I,I] HT_ ?_
      refine done_ (done_of HT_.out (by kernel_rfl)) ?_
      obtain ⟨Ao49, co49, eo49⟩ := Kd.S_slice HO_13.out
      subst eo49
      have p269 : 0 ≤ (x19_2 : Int) := of_decide_eq_true (by first | (with_reducible assumption) | assumption)
      have q269 : x19_2 < (t258.length : Int) := of_decide_eq_true (by first | (with_reducible assumption) | assumption)
      obtain ⟨ad269, A269_5, c269_5, e269, hx269_0, hx269_1, hx269_2, hx269_3, hx269_4, hx269_5, hl269_5, hi269_5⟩ := at_T67 (Kd.S_reads' HO_13.out).2.2 x19_2 p269 q269
      cases e269
      obtain ⟨ce269, hce269, hMe269, hcc269⟩ := Kd.S_get HO_13.out z67 x19_2 p269 (by first | exact q269 | exact of_decide_eq_true (by first | (with_reducible assumption) | assumption) | (have e_ := (Kd.S_reads' HO_13.out).1; omega))
      obtain ⟨ve269_5, rfl, ge269_5⟩ := k67_openM hMe269
      have hv269_5 := hcc269 5 _ rfl
      rw [add_field _ _ 5 (by omega)] at hv269_5
      replace hv269_5 := Option.some.inj (hv269_5.symm.trans hx269_5)
      rw [hv269_5] at ge269_5
      have HL269_5 := Aside0.mk (show Kd.R (Kd.int .i64) 3 _ _ _ _ ((rd_T67 t258 x19_2).f2) from ge269_5)
      clear hv269_5 ge269_5
      clear hcc269 hce269
      have HR269_5 := Aside0.mk hi269_5
      have HC269_5 := Aside0.mk hl269_5
      clear hi269_5 hl269_5
      replace p269 := eq_true p269
      replace q269 := eq_true q269
      have p270 : 0 ≤ (x19_2 : Int) := of_decide_eq_true (by first | (with_reducible assumption) | assumption)
      have q270 : x19_2 < (t258.length : Int) := of_decide_eq_true (by first | (with_reducible assumption) | assumption)
      obtain ⟨ad270, A270_5, c270_5, e270, hx270_0, hx270_1, hx270_2, hx270_3, hx270_4, hx270_5, hl270_5, hi270_5⟩ := at_T67 (Kd.S_reads' HO_13.out).2.2 x19_2 p270 q270
      obtain rfl : ad269 = ad270 := (by injection e270)
      obtain ⟨ce270, hce270, hMe270, hcc270⟩ := Kd.S_get HO_13.out z67 x19_2 p270 (by first | exact q270 | exact of_decide_eq_true (by first | (with_reducible assumption) | assumption) | (have e_ := (Kd.S_reads' HO_13.out).1; omega))
      obtain ⟨ve270_5, rfl, ge270_5⟩ := k67_openM hMe270
      have hv270_5 := hcc270 5 _ rfl
      rw [add_field _ _ 5 (by omega)] at hv270_5
      replace hv270_5 := Option.some.inj (hv270_5.symm.trans hx270_5)
      rw [hv270_5] at ge270_5
      have HL270_5 := Aside0.mk (show Kd.R (Kd.int .i64) 3 _ _ _ _ ((rd_T67 t258 x19_2).f2) from ge270_5)
      clear hv270_5 ge270_5
      clear hcc270 hce270
      have HR270_5 := Aside0.mk hi270_5
      have HC270_5 := Aside0.mk hl270_5
      clear hi270_5 hl270_5
      replace p270 := eq_true p270
      replace q270 := eq_true q270
      have ea_ := Option.some.inj (hx269_5.symm.trans hx270_5)
      injection ea_ with ea_ en_ ec_
      subst ea_
      subst ec_
      clear en_
      try go_wp2
      go_roundg k2
      case measure => have := HK1.out; have := HK2.out; omega
      case rel => exact ⟨(wrap64 (x18_2 + t267)), (wrap64 (x19_2 + 1)), (by first | rfl | (simp; done) | (simp [*]; done)), (by first | rfl | (simp; done) | (simp [*]; done)), H', ⟨by have := HK1.out; have := HK2.out; omega⟩, ⟨by (with_reducible repeat (first | apply Kd.S_alloc | apply Kd.S_drewN | apply Kd.S_drew)); exact HO_13.out⟩, ⟨by (with_reducible repeat (first | apply Kd.R_alloc | apply Kd.R_drewN | apply Kd.R_drew)); exact HO_17.out⟩, ⟨by (with_reducible repeat (first | refine blk_drewN ?_ _ | refine blk_drew ?_ | refine blk_alloc ?_ _)); exact BK252.out⟩, ⟨by (with_reducible repeat (first | refine blk_drewN ?_ _ | refine blk_drew ?_ | refine blk_alloc ?_ _)); exact BK257.out⟩, ⟨by (with_reducible repeat (first | refine blk_drewN ?_ _ | refine blk_drew ?_ | refine blk_alloc ?_ _)); exact BK262.out⟩, ⟨by repeat (first | (with_reducible first | exact HB.out | apply below_alloc | apply pw_below_drewN | apply below_drew1 | refine below_set ?_ GE252.out | refine below_set ?_ GE257.out | refine below_set ?_ GE262.out) | exact HB.out)⟩⟩
     rw [if_neg c38] at H
     have c38b0 : decide (x19_2 < (t263.length : Int)) = false := decide_eq_false c38
     clear c38
     have H' := Aside0.mk H
     clear H
     obtain ⟨Ao50, co50, eo50⟩ := Kd.R_slice HO_17.out
     subst eo50
     have hnb51 := NB262_252.out
     have hnc51 := NB252_262.out
     have hnb52 := NB262_257.out
     have hnc52 := NB257_262.out
     have hcz53_0 : wr.cell? ⟨gb262, 0, none⟩ = some (.int .i64 x263000_1) := (blk_cell BK262.out 0).trans rfl
     have hcz53_1 : wr.cell? ⟨gb262, 1, none⟩ = some (.int .i64 x263001_1) := (blk_cell BK262.out 1).trans rfl
     have hcz53_2 : wr.cell? ⟨gb262, 2, none⟩ = some (.int .i64 x263002_1) := (blk_cell BK262.out 2).trans rfl
     have hcz53_3 : wr.cell? ⟨gb262, 3, none⟩ = some (.int .i64 x263003_1) := (blk_cell BK262.out 3).trans rfl
     have hcz53_4 : wr.cell? ⟨gb262, 4, none⟩ = some (.int .i64 x263004_1) := (blk_cell BK262.out 4).trans rfl
     have hcz53_5 : wr.cell? ⟨gb262, 5, none⟩ = some (.int .i64 x263005_1) := (blk_cell BK262.out 5).trans rfl
     have hfz53_0 := blk_frozen BK262.out 0
     have hfz53_1 := blk_frozen BK262.out 1
     have hfz53_2 := blk_frozen BK262.out 2
     have hfz53_3 := blk_frozen BK262.out 3
     have hfz53_4 := blk_frozen BK262.out 4
     have hfz53_5 := blk_frozen BK262.out 5
     go_wp2_with (first | ((with_reducible refine gate_dst (N := 22) rfl ?_); (try (refine gate_guard (by rfl) ?_; dsimp only)); refine box_event ?hg (N := 22) ?hd (cs := #[.int .i64 0, .int .i64 0, .int .i64 0, .int .i64 0, .int .i64 0, .int .i64 0]) (t := 59) ?hr ?_; (case hd => rfl); (case hg => rfl); (case hr => first | (go_simp; done) | (go_simp; rfl)); intro gb271 hg w54 hbox hb; have n0_ := Aside0.mk (Kd.S_below (by (with_reducible repeat (first | apply Kd.S_alloc | apply Kd.S_drewN | apply Kd.S_drew)); exact HO_13.out) hb); have n1_ := Aside0.mk (Kd.R_below (by (with_reducible repeat (first | apply Kd.R_alloc | apply Kd.R_drewN | apply Kd.R_drew)); exact HO_17.out) hb); have n2_ := Aside0.mk (blk_below (g := gb252) (o := .cells #[.int .u8 a4_0, .int .u8 a4_1, .int .u8 a4_2, .int .u8 a4_3, .int .u8 a4_4, .int .u8 a4_5] 52 (0, 0)) (by (with_reducible repeat (first | refine blk_drewN ?_ _ | refine blk_drew ?_ | refine blk_alloc ?_ _)); exact BK252.out) hb); have n3_ := Aside0.mk (blk_below (g := gb257) (o := .cells #[.int .i64 t254, .int .i64 t255, .int .i64 t256] 25 (0, 0)) (by (with_reducible repeat (first | refine blk_drewN ?_ _ | refine blk_drew ?_ | refine blk_alloc ?_ _)); exact BK257.out) hb); have n4_ := Aside0.mk (blk_below (g := gb262) (o := .cells #[.int .i64 x263000_1, .int .i64 x263001_1, .int .i64 x263002_1, .int .i64 x263003_1, .int .i64 x263004_1, .int .i64 x263005_1] 59 (0, 0)) (by (with_reducible repeat (first | refine blk_drewN ?_ _ | refine blk_drew ?_ | refine blk_alloc ?_ _)); exact BK262.out) hb); have n5_ := Aside0.mk (below_step (by repeat (first | (with_reducible first | exact HB.out | apply below_alloc | apply pw_below_drewN | apply below_drew1 | refine below_set ?_ GE252.out | refine below_set ?_ GE257.out | refine below_set ?_ GE262.out) | exact HB.out)) hb); have n6_ := Aside0.mk (hbox); have n7_ := Aside0.mk ((by rw [hg]; exact (below_size (by repeat (first | (with_reducible first | exact HB.out | apply below_alloc | apply pw_below_drewN | apply below_drew1 | refine below_set ?_ GE252.out | refine below_set ?_ GE257.out | refine below_set ?_ GE262.out) | exact HB.out))) : w.heap.size ≤ gb271)); have n8_ := Aside0.mk ((by rw [hg]; exact (below_size (by repeat (first | (with_reducible first | exact HB.out | apply below_alloc | apply pw_below_drewN | apply below_drew1 | refine below_set ?_ GE252.out | refine below_set ?_ GE257.out | refine below_set ?_ GE262.out) | exact HB.out))) : w.heap.size ≤ gb271)); have n9_ := Aside0.mk ((by rw [hg]; exact Nat.ne_of_lt (blk_lt (g := gb252) (o := .cells #[.int .u8 a4_0, .int .u8 a4_1, .int .u8 a4_2, .int .u8 a4_3, .int .u8 a4_4, .int .u8 a4_5] 52 (0, 0)) (by (with_reducible repeat (first | refine blk_drewN ?_ _ | refine blk_drew ?_ | refine blk_alloc ?_ _)); exact BK252.out)) : gb252 ≠ gb271)); have n10_ := Aside0.mk ((by rw [hg]; exact Nat.ne_of_gt (blk_lt (g := gb252) (o := .cells #[.int .u8 a4_0, .int .u8 a4_1, .int .u8 a4_2, .int .u8 a4_3, .int .u8 a4_4, .int .u8 a4_5] 52 (0, 0)) (by (with_reducible repeat (first | refine blk_drewN ?_ _ | refine blk_drew ?_ | refine blk_alloc ?_ _)); exact BK252.out)) : gb271 ≠ gb252)); have n11_ := Aside0.mk ((by rw [hg]; exact Nat.ne_of_lt (blk_lt (g := gb257) (o := .cells #[.int .i64 t254, .int .i64 t255, .int .i64 t256] 25 (0, 0)) (by (with_reducible repeat (first | refine blk_drewN ?_ _ | refine blk_drew ?_ | refine blk_alloc ?_ _)); exact BK257.out)) : gb257 ≠ gb271)); have n12_ := Aside0.mk ((by rw [hg]; exact Nat.ne_of_gt (blk_lt (g := gb257) (o := .cells #[.int .i64 t254, .int .i64 t255, .int .i64 t256] 25 (0, 0)) (by (with_reducible repeat (first | refine blk_drewN ?_ _ | refine blk_drew ?_ | refine blk_alloc ?_ _)); exact BK257.out)) : gb271 ≠ gb257)); have n13_ := Aside0.mk ((by rw [hg]; exact Nat.ne_of_lt (blk_lt (g := gb262) (o := .cells #[.int .i64 x263000_1, .int .i64 x263001_1, .int .i64 x263002_1, .int .i64 x263003_1, .int .i64 x263004_1, .int .i64 x263005_1] 59 (0, 0)) (by (with_reducible repeat (first | refine blk_drewN ?_ _ | refine blk_drew ?_ | refine blk_alloc ?_ _)); exact BK262.out)) : gb262 ≠ gb271)); have n14_ := Aside0.mk ((by rw [hg]; exact Nat.ne_of_gt (blk_lt (g := gb262) (o := .cells #[.int .i64 x263000_1, .int .i64 x263001_1, .int .i64 x263002_1, .int .i64 x263003_1, .int .i64 x263004_1, .int .i64 x263005_1] 59 (0, 0)) (by (with_reducible repeat (first | refine blk_drewN ?_ _ | refine blk_drew ?_ | refine blk_alloc ?_ _)); exact BK262.out)) : gb271 ≠ gb262)); clear HO_13; clear HO_17; clear BK252; clear BK257; clear BK262; clear HB; have HO_13 := n0_; have HO_17 := n1_; have BK252 := n2_; have BK257 := n3_; have BK262 := n4_; have HB := n5_; have BK271 := n6_; have GW271 := n7_; have GE271 := n8_; have NB252_271 := n9_; have NB271_252 := n10_; have NB257_271 := n11_; have NB271_257 := n12_; have NB262_271 := n13_; have NB271_262 := n14_; clear n0_ n1_ n2_ n3_ n4_ n5_ n6_ n7_ n8_ n9_ n10_ n11_ n12_ n13_ n14_; clear hb hbox hg; have hnb55 := NB271_252.out; have hnc55 := NB252_271.out; have hnb56 := NB271_257.out; have hnc56 := NB257_271.out; have hnb57 := NB271_262.out; have hnc57 := NB262_271.out; have hcz58_0 : w54.cell? ⟨gb271, 0, none⟩ = some (.int .i64 0) := (blk_cell BK271.out 0).trans rfl; have hcz58_1 : w54.cell? ⟨gb271, 1, none⟩ = some (.int .i64 0) := (blk_cell BK271.out 1).trans rfl; have hcz58_2 : w54.cell? ⟨gb271, 2, none⟩ = some (.int .i64 0) := (blk_cell BK271.out 2).trans rfl; have hcz58_3 : w54.cell? ⟨gb271, 3, none⟩ = some (.int .i64 0) := (blk_cell BK271.out 3).trans rfl; have hcz58_4 : w54.cell? ⟨gb271, 4, none⟩ = some (.int .i64 0) := (blk_cell BK271.out 4).trans rfl; have hcz58_5 : w54.cell? ⟨gb271, 5, none⟩ = some (.int .i64 0) := (blk_cell BK271.out 5).trans rfl; have hfz58_0 := blk_frozen BK271.out 0; have hfz58_1 := blk_frozen BK271.out 1; have hfz58_2 := blk_frozen BK271.out 2; have hfz58_3 := blk_frozen BK271.out 3; have hfz58_4 := blk_frozen BK271.out 4; have hfz58_5 := blk_frozen BK271.out 5))
     go_loopg [23] k2 (fun kq v23 w' => ∃ (x23_3 : Int) (x272000_3 : Int) (x272001_3 : Int) (x272002_3 : Int) (x272003_3 : Int) (x272004_3 : Int) (x272005_3 : Int), v23 = .int .i64 x23_3 ∧ Aside0 (ambidextertop_TopTimetable.l2 kq l3 true t258 t263 x18_2 x23_3 t254 t255 t256 x263000_1 x263001_1 x263002_1 x263003_1 x263004_1 x263005_1 x272000_3 x272001_3 x272002_3 x272003_3 x272004_3 x272005_3 = some r) ∧ Aside0 (kq ≤ k2) ∧ Aside0 (Kd.S k67 67 w' w.heap.size (fun _ => True) v259 t258) ∧ Aside0 (Kd.R k65 65 w' w.heap.size (fun _ => True) (.slice Ao50 t263.length co50) t263) ∧ Aside0 (w'.heap[gb252]? = some (.cells #[.int .u8 a4_0, .int .u8 a4_1, .int .u8 a4_2, .int .u8 a4_3, .int .u8 a4_4, .int .u8 a4_5] 52 (0, 0))) ∧ Aside0 (w'.heap[gb257]? = some (.cells #[.int .i64 t254, .int .i64 t255, .int .i64 t256] 25 (0, 0))) ∧ Aside0 (w'.heap[gb262]? = some (.cells #[.int .i64 x263000_1, .int .i64 x263001_1, .int .i64 x263002_1, .int .i64 x263003_1, .int .i64 x263004_1, .int .i64 x263005_1] 59 (0, 0))) ∧ Aside0 (w'.heap[gb271]? = some (.cells #[.int .i64 x272000_3, .int .i64 x272001_3, .int .i64 x272002_3, .int .i64 x272003_3, .int .i64 x272004_3, .int .i64 x272005_3] 59 (0, 0))) ∧ Aside0 (Below w.heap.size w w'))
     case atStart => exact ⟨(0), (x263000_1), (x263001_1), (x263002_1), (x263003_1), (x263004_1), (x263005_1), (by first | rfl | (simp; done) | (simp [*]; done)), H', ⟨Nat.le_refl _⟩, ⟨by (with_reducible repeat (first | apply Kd.S_alloc | apply Kd.S_drewN | apply Kd.S_drew)); exact Kd.S_mono (Kd.S_far (p := ⟨gb271, 5, none⟩) (Kd.S_far (p := ⟨gb271, 4, none⟩) (Kd.S_far (p := ⟨gb271, 3, none⟩) (Kd.S_far (p := ⟨gb271, 2, none⟩) (Kd.S_far (p := ⟨gb271, 1, none⟩) (Kd.S_far (p := ⟨gb271, 0, none⟩) (Kd.S_types HO_13.out BK271.out (by decide)) (fun _ hk => hk.2) (.int .i64 x263000_1)) (fun _ hk => hk.2) (.int .i64 x263001_1)) (fun _ hk => hk.2) (.int .i64 x263002_1)) (fun _ hk => hk.2) (.int .i64 x263003_1)) (fun _ hk => hk.2) (.int .i64 x263004_1)) (fun _ hk => hk.2) (.int .i64 x263005_1)) (fun _ hk => trivial)⟩, ⟨by (with_reducible repeat (first | apply Kd.R_alloc | apply Kd.R_drewN | apply Kd.R_drew)); exact Kd.R_mono (Kd.R_far (p := ⟨gb271, 5, none⟩) (Kd.R_far (p := ⟨gb271, 4, none⟩) (Kd.R_far (p := ⟨gb271, 3, none⟩) (Kd.R_far (p := ⟨gb271, 2, none⟩) (Kd.R_far (p := ⟨gb271, 1, none⟩) (Kd.R_far (p := ⟨gb271, 0, none⟩) (Kd.R_types HO_17.out BK271.out (by decide)) (fun _ hk => hk.2) (.int .i64 x263000_1)) (fun _ hk => hk.2) (.int .i64 x263001_1)) (fun _ hk => hk.2) (.int .i64 x263002_1)) (fun _ hk => hk.2) (.int .i64 x263003_1)) (fun _ hk => hk.2) (.int .i64 x263004_1)) (fun _ hk => hk.2) (.int .i64 x263005_1)) (fun _ hk => trivial)⟩, ⟨by (with_reducible repeat (first | refine blk_drewN ?_ _ | refine blk_drew ?_ | refine blk_alloc ?_ _)); refine blk_far ?_ NB252_271.out _; (with_reducible repeat (first | refine blk_drewN ?_ _ | refine blk_drew ?_ | refine blk_alloc ?_ _)); refine blk_far ?_ NB252_271.out _; (with_reducible repeat (first | refine blk_drewN ?_ _ | refine blk_drew ?_ | refine blk_alloc ?_ _)); refine blk_far ?_ NB252_271.out _; (with_reducible repeat (first | refine blk_drewN ?_ _ | refine blk_drew ?_ | refine blk_alloc ?_ _)); refine blk_far ?_ NB252_271.out _; (with_reducible repeat (first | refine blk_drewN ?_ _ | refine blk_drew ?_ | refine blk_alloc ?_ _)); refine blk_far ?_ NB252_271.out _; (with_reducible repeat (first | refine blk_drewN ?_ _ | refine blk_drew ?_ | refine blk_alloc ?_ _)); refine blk_far ?_ NB252_271.out _; (with_reducible repeat (first | refine blk_drewN ?_ _ | refine blk_drew ?_ | refine blk_alloc ?_ _)); exact BK252.out⟩, ⟨by (with_reducible repeat (first | refine blk_drewN ?_ _ | refine blk_drew ?_ | refine blk_alloc ?_ _)); refine blk_far ?_ NB257_271.out _; (with_reducible repeat (first | refine blk_drewN ?_ _ | refine blk_drew ?_ | refine blk_alloc ?_ _)); refine blk_far ?_ NB257_271.out _; (with_reducible repeat (first | refine blk_drewN ?_ _ | refine blk_drew ?_ | refine blk_alloc ?_ _)); refine blk_far ?_ NB257_271.out _; (with_reducible repeat (first | refine blk_drewN ?_ _ | refine blk_drew ?_ | refine blk_alloc ?_ _)); refine blk_far ?_ NB257_271.out _; (with_reducible repeat (first | refine blk_drewN ?_ _ | refine blk_drew ?_ | refine blk_alloc ?_ _)); refine blk_far ?_ NB257_271.out _; (with_reducible repeat (first | refine blk_drewN ?_ _ | refine blk_drew ?_ | refine blk_alloc ?_ _)); refine blk_far ?_ NB257_271.out _; (with_reducible repeat (first | refine blk_drewN ?_ _ | refine blk_drew ?_ | refine blk_alloc ?_ _)); exact BK257.out⟩, ⟨by (with_reducible repeat (first | refine blk_drewN ?_ _ | refine blk_drew ?_ | refine blk_alloc ?_ _)); refine blk_far ?_ NB262_271.out _; (with_reducible repeat (first | refine blk_drewN ?_ _ | refine blk_drew ?_ | refine blk_alloc ?_ _)); refine blk_far ?_ NB262_271.out _; (with_reducible repeat (first | refine blk_drewN ?_ _ | refine blk_drew ?_ | refine blk_alloc ?_ _)); refine blk_far ?_ NB262_271.out _; (with_reducible repeat (first | refine blk_drewN ?_ _ | refine blk_drew ?_ | refine blk_alloc ?_ _)); refine blk_far ?_ NB262_271.out _; (with_reducible repeat (first | refine blk_drewN ?_ _ | refine blk_drew ?_ | refine blk_alloc ?_ _)); refine blk_far ?_ NB262_271.out _; (with_reducible repeat (first | refine blk_drewN ?_ _ | refine blk_drew ?_ | refine blk_alloc ?_ _)); refine blk_far ?_ NB262_271.out _; (with_reducible repeat (first | refine blk_drewN ?_ _ | refine blk_drew ?_ | refine blk_alloc ?_ _)); exact BK262.out⟩, ⟨by (with_reducible repeat (first | refine blk_drewN ?_ _ | refine blk_drew ?_ | refine blk_alloc ?_ _)); refine blk_put (cs := #[.int .i64 x263000_1, .int .i64 x263001_1, .int .i64 x263002_1, .int .i64 x263003_1, .int .i64 x263004_1, .int .i64 0]) ?_ 5 _ rfl; (with_reducible repeat (first | refine blk_drewN ?_ _ | refine blk_drew ?_ | refine blk_alloc ?_ _)); refine blk_put (cs := #[.int .i64 x263000_1, .int .i64 x263001_1, .int .i64 x263002_1, .int .i64 x263003_1, .int .i64 0, .int .i64 0]) ?_ 4 _ rfl; (with_reducible repeat (first | refine blk_drewN ?_ _ | refine blk_drew ?_ | refine blk_alloc ?_ _)); refine blk_put (cs := #[.int .i64 x263000_1, .int .i64 x263001_1, .int .i64 x263002_1, .int .i64 0, .int .i64 0, .int .i64 0]) ?_ 3 _ rfl; (with_reducible repeat (first | refine blk_drewN ?_ _ | refine blk_drew ?_ | refine blk_alloc ?_ _)); refine blk_put (cs := #[.int .i64 x263000_1, .int .i64 x263001_1, .int .i64 0, .int .i64 0, .int .i64 0, .int .i64 0]) ?_ 2 _ rfl; (with_reducible repeat (first | refine blk_drewN ?_ _ | refine blk_drew ?_ | refine blk_alloc ?_ _)); refine blk_put (cs := #[.int .i64 x263000_1, .int .i64 0, .int .i64 0, .int .i64 0, .int .i64 0, .int .i64 0]) ?_ 1 _ rfl; (with_reducible repeat (first | refine blk_drewN ?_ _ | refine blk_drew ?_ | refine blk_alloc ?_ _)); refine blk_put (cs := #[.int .i64 0, .int .i64 0, .int .i64 0, .int .i64 0, .int .i64 0, .int .i64 0]) ?_ 0 _ rfl; (with_reducible repeat (first | refine blk_drewN ?_ _ | refine blk_drew ?_ | refine blk_alloc ?_ _)); exact BK271.out⟩, ⟨by repeat (first | (with_reducible first | exact HB.out | apply below_alloc | apply pw_below_drewN | apply below_drew1 | refine below_set ?_ GE252.out | refine below_set ?_ GE257.out | refine below_set ?_ GE262.out | refine below_set ?_ GE271.out) | exact HB.out)⟩⟩
     case round => as_aux_lemma =>
      clear H'
      (try clear c1); (try clear c2); (try clear p2); (try clear q2); (try clear hx2); (try clear c3); (try clear c4); (try clear c5); (try clear p6); (try clear c8); (try clear c8b0); (try clear c8b1); (try clear c13); (try clear c15); (try clear c16); (try clear c16b0); (try clear c16b1); (try clear c17); (try clear c21); (try clear c25); (try clear c25b0); (try clear c26); (try clear p26); (try clear q26)
      (try clear hx26); (try clear c27); (try clear c27b0); (try clear p27); (try clear q27); (try clear hx27); (try clear c28); (try clear c28b0); (try clear c30); (try clear c30b0); (try clear c31); (try clear c31b0); (try clear c38); (try clear c38b0); (try clear c39); (try clear c39b0); (try clear c41); (try clear c42); (try clear c42b0); (try clear c43); (try clear c43b0); (try clear c44); (try clear c44b0)
      (try clear c44b1); (try clear c45); (try clear c45b0); (try clear c45b1); (try clear c51); (try clear c52); (try clear c55); (try clear c56); (try clear c57); (try clear hcz14_0); (try clear hcz14_1); (try clear hcz14_2); (try clear hcz22_0); (try clear hcz22_1); (try clear hcz22_2); (try clear hcz53_0); (try clear hcz53_1); (try clear hcz53_2); (try clear hcz53_3); (try clear hcz53_4); (try clear hcz53_5)
      (try clear hcz58_0); (try clear hcz58_1); (try clear hcz58_2); (try clear hcz58_3); (try clear hcz58_4); (try clear hcz58_5); (try clear hfz14_0); (try clear hfz14_1); (try clear hfz14_2); (try clear hfz22_0); (try clear hfz22_1); (try clear hfz22_2); (try clear hfz53_0); (try clear hfz53_1); (try clear hfz53_2); (try clear hfz53_3); (try clear hfz53_4); (try clear hfz53_5); (try clear hfz58_0)
      (try clear hfz58_1); (try clear hfz58_2); (try clear hfz58_3); (try clear hfz58_4); (try clear hfz58_5); (try clear hx266_0); (try clear hx266_1); (try clear hx266_2); (try clear hx266_3); (try clear hx269_0); (try clear hx269_1); (try clear hx269_2); (try clear hx269_3); (try clear hx269_4); (try clear hx269_5); (try clear hx270_0); (try clear hx270_1); (try clear hx270_2); (try clear hx270_3)
      (try clear hx270_4); (try clear hx270_5); (try clear p2); (try clear p266); (try clear p269); (try clear p270); (try clear p6); (try clear q266); (try clear q269); (try clear q270)
      obtain ⟨x23_3, x272000_3, x272001_3, x272002_3, x272003_3, x272004_3, x272005_3, rfl, HA, HK3, HO_13, HO_17, BK252, BK257, BK262, BK271, HB⟩ := hrel
      cases gk with
      | zero => exact absurd HA.out (by simp [ambidextertop_TopTimetable.l2])
      | succ k3 =>
       have H := HA.out
       clear HA
       simp only [ambidextertop_TopTimetable.l2] at H
       by_cases c59 : x23_3 < (l3.length : Int)
       ·
        rw [if_pos c59] at H
        have c59b0 : decide (x23_3 < (l3.length : Int)) = true := decide_eq_true c59
        clear c59
        by_cases c60 : 0 ≤ x23_3
        case neg =>
         rw [if_neg c60] at H
         exact absurd H (by simp)
        rw [if_pos c60] at H
        have c60b0 : decide (0 ≤ x23_3) = true := decide_eq_true c60
        clear c60
        by_cases c61 : 0 ≤ ((rd_T63 l3 x23_3).f0)
        case neg =>
         rw [if_neg c61] at H
         exact absurd H (by simp)
        rw [if_pos c61] at H
        have c61b0 : decide (0 ≤ ((rd_T63 l3 x23_3).f0)) = true := decide_eq_true c61
        clear c61
        by_cases c62 : ((rd_T63 l3 x23_3).f0) < 2
        case neg =>
         rw [if_neg c62] at H
         exact absurd H (by simp)
        rw [if_pos c62] at H
        have c62b0 : decide (((rd_T63 l3 x23_3).f0) < 2) = true := decide_eq_true c62
        clear c62
        by_cases c63 : 0 ≤ ((rd_T63 l3 x23_3).f1)
        case neg =>
         rw [if_neg c63] at H
         exact absurd H (by simp)
        rw [if_pos c63] at H
        have c63b0 : decide (0 ≤ ((rd_T63 l3 x23_3).f1)) = true := decide_eq_true c63
        clear c63
        by_cases c64 : ((rd_T63 l3 x23_3).f1) < 3
        case neg =>
         rw [if_neg c64] at H
         exact absurd H (by simp)
        rw [if_pos c64] at H
        have c64b0 : decide (((rd_T63 l3 x23_3).f1) < 3) = true := decide_eq_true c64
        clear c64
        have H' := Aside0.mk H
        clear H
        try go_wp2
        have n0_ := Aside0.mk (Kd.S_drew HO_13.out)
        have n1_ := Aside0.mk (Kd.R_drew HO_17.out)
        have n2_ := Aside0.mk (blk_drew BK252.out)
        have n3_ := Aside0.mk (blk_drew BK257.out)
        have n4_ := Aside0.mk (blk_drew BK262.out)
        have n5_ := Aside0.mk (blk_drew BK271.out)
        have n6_ := Aside0.mk (below_drew1 HB.out)
        clear HO_13
        clear HO_17
        clear BK252
        clear BK257
        clear BK262
        clear BK271
        clear HB
        have HO_13 := n0_
        have HO_17 := n1_
        have BK252 := n2_
        have BK257 := n3_
        have BK262 := n4_
        have BK271 := n5_
        have HB := n6_
        clear n0_ n1_ n2_ n3_ n4_ n5_ n6_
        have p272 : 0 ≤ (x23_3 : Int) := of_decide_eq_true (by first | (with_reducible assumption) | assumption)
        have q272 : x23_3 < (l3.length : Int) := of_decide_eq_true (by first | (with_reducible assumption) | assumption)
        obtain ⟨ad272, e272, hx272_0, hx272_1, hx272_2⟩ := at_T63 HR3.out x23_3 p272 q272
        have hw272_2 := hx272_2
        have hw272_1 := hx272_1
        have hw272_0 := hx272_0
        cases e272
        replace hx272_0 := (HB.out.cell (World.block_lt_of_cell? w _ hx272_0)).trans hx272_0
        replace hx272_1 := (HB.out.cell (World.block_lt_of_cell? w _ hx272_1)).trans hx272_1
        replace hx272_2 := (HB.out.cell (World.block_lt_of_cell? w _ hx272_2)).trans hx272_2
        replace p272 := eq_true p272
        replace q272 := eq_true q272
        have p273 : 0 ≤ (x23_3 : Int) := of_decide_eq_true (by first | (with_reducible assumption) | assumption)
        have q273 : x23_3 < (l3.length : Int) := of_decide_eq_true (by first | (with_reducible assumption) | assumption)
        obtain ⟨ad273, e273, hx273_0, hx273_1, hx273_2⟩ := at_T63 HR3.out x23_3 p273 q273
        have hw273_2 := hx273_2
        have hw273_1 := hx273_1
        have hw273_0 := hx273_0
        obtain rfl : ad272 = ad273 := (by injection e273)
        replace hx273_0 := (HB.out.cell (World.block_lt_of_cell? w _ hx273_0)).trans hx273_0
        replace hx273_1 := (HB.out.cell (World.block_lt_of_cell? w _ hx273_1)).trans hx273_1
        replace hx273_2 := (HB.out.cell (World.block_lt_of_cell? w _ hx273_2)).trans hx273_2
        replace p273 := eq_true p273
        replace q273 := eq_true q273
        have p274 : 0 ≤ (x23_3 : Int) := of_decide_eq_true (by first | (with_reducible assumption) | assumption)
        have q274 : x23_3 < (l3.length : Int) := of_decide_eq_true (by first | (with_reducible assumption) | assumption)
        obtain ⟨ad274, e274, hx274_0, hx274_1, hx274_2⟩ := at_T63 HR3.out x23_3 p274 q274
        have hw274_2 := hx274_2
        have hw274_1 := hx274_1
        have hw274_0 := hx274_0
        obtain rfl : ad272 = ad274 := (by injection e274)
        replace hx274_0 := (HB.out.cell (World.block_lt_of_cell? w _ hx274_0)).trans hx274_0
        replace hx274_1 := (HB.out.cell (World.block_lt_of_cell? w _ hx274_1)).trans hx274_1
        replace hx274_2 := (HB.out.cell (World.block_lt_of_cell? w _ hx274_2)).trans hx274_2
        replace p274 := eq_true p274
        replace q274 := eq_true q274
        have p275 : 0 ≤ (x23_3 : Int) := of_decide_eq_true (by first | (with_reducible assumption) | assumption)
        have q275 : x23_3 < (l3.length : Int) := of_decide_eq_true (by first | (with_reducible assumption) | assumption)
        obtain ⟨ad275, e275, hx275_0, hx275_1, hx275_2⟩ := at_T63 HR3.out x23_3 p275 q275
        have hw275_2 := hx275_2
        have hw275_1 := hx275_1
        have hw275_0 := hx275_0
        obtain rfl : ad272 = ad275 := (by injection e275)
        replace hx275_0 := (HB.out.cell (World.block_lt_of_cell? w _ hx275_0)).trans hx275_0
        replace hx275_1 := (HB.out.cell (World.block_lt_of_cell? w _ hx275_1)).trans hx275_1
        replace hx275_2 := (HB.out.cell (World.block_lt_of_cell? w _ hx275_2)).trans hx275_2
        replace p275 := eq_true p275
        replace q275 := eq_true q275
        have ppd66_0 : (0 ≤ ((rd_T63 l3 x23_3).f0 : Int)) = True := eq_true (of_decide_eq_true (by first | (with_reducible assumption) | assumption))
        have qqd66_0 : (((rd_T63 l3 x23_3).f0 : Int) < 2) = True := eq_true (of_decide_eq_true (by first | (with_reducible assumption) | assumption))
        have ppd66_1 : (0 ≤ ((rd_T63 l3 x23_3).f1 : Int)) = True := eq_true (of_decide_eq_true (by first | (with_reducible assumption) | assumption))
        have qqd66_1 : (((rd_T63 l3 x23_3).f1 : Int) < 3) = True := eq_true (of_decide_eq_true (by first | (with_reducible assumption) | assumption))
        have p276 : 0 ≤ (x23_3 : Int) := of_decide_eq_true (by first | (with_reducible assumption) | assumption)
        have q276 : x23_3 < (l3.length : Int) := of_decide_eq_true (by first | (with_reducible assumption) | assumption)
        obtain ⟨ad276, e276, hx276_0, hx276_1, hx276_2⟩ := at_T63 HR3.out x23_3 p276 q276
        have hw276_2 := hx276_2
        have hw276_1 := hx276_1
        have hw276_0 := hx276_0
        obtain rfl : ad272 = ad276 := (by injection e276)
        replace hx276_0 := (HB.out.cell (World.block_lt_of_cell? w _ hx276_0)).trans hx276_0
        replace hx276_1 := (HB.out.cell (World.block_lt_of_cell? w _ hx276_1)).trans hx276_1
        replace hx276_2 := (HB.out.cell (World.block_lt_of_cell? w _ hx276_2)).trans hx276_2
        replace p276 := eq_true p276
        replace q276 := eq_true q276
        have ppd67_0 : (0 ≤ ((rd_T63 l3 x23_3).f0 : Int)) = True := eq_true (of_decide_eq_true (by first | (with_reducible assumption) | assumption))
        have qqd67_0 : (((rd_T63 l3 x23_3).f0 : Int) < 2) = True := eq_true (of_decide_eq_true (by first | (with_reducible assumption) | assumption))
        have ppd67_1 : (0 ≤ ((rd_T63 l3 x23_3).f1 : Int)) = True := eq_true (of_decide_eq_true (by first | (with_reducible assumption) | assumption))
        have qqd67_1 : (((rd_T63 l3 x23_3).f1 : Int) < 3) = True := eq_true (of_decide_eq_true (by first | (with_reducible assumption) | assumption))
        refine start_ (n := 32) (S := fun w' => w'.cell? ⟨gb271, (((rd_T63 l3 x23_3).f0) : Int).toNat * 3 + (((rd_T63 l3 x23_3).f1) : Int).toNat, none⟩ = some (.int .i64 (dget [x272000_3, x272001_3, x272002_3, x272003_3, x272004_3, x272005_3] (((rd_T63 l3 x23_3).f0) * 3 + ((rd_T63 l3 x23_3).f1)))) ∧ w'.cell? (ad272.add ((x23_3).toNat * 3)) = some (.int .i64 ((rd_T63 l3 x23_3).f0)) ∧ w'.cell? ⟨(ad272.add ((x23_3).toNat * 3)).block, (ad272.add ((x23_3).toNat * 3)).off + 1, none⟩ = some (.int .i64 ((rd_T63 l3 x23_3).f1)) ∧ w'.cell? ⟨(ad272.add ((x23_3).toNat * 3)).block, (ad272.add ((x23_3).toNat * 3)).off + 2, none⟩ = some (.int .i64 ((rd_T63 l3 x23_3).f2)) ∧ w'.cell? (ad272.add ((x23_3).toNat * 3)) = some (.int .i64 ((rd_T63 l3 x23_3).f0)) ∧ w'.cell? ⟨(ad272.add ((x23_3).toNat * 3)).block, (ad272.add ((x23_3).toNat * 3)).off + 1, none⟩ = some (.int .i64 ((rd_T63 l3 x23_3).f1)) ∧ w'.cell? ⟨(ad272.add ((x23_3).toNat * 3)).block, (ad272.add ((x23_3).toNat * 3)).off + 2, none⟩ = some (.int .i64 ((rd_T63 l3 x23_3).f2)) ∧ w'.cell? (ad272.add ((x23_3).toNat * 3)) = some (.int .i64 ((rd_T63 l3 x23_3).f0)) ∧ w'.cell? ⟨(ad272.add ((x23_3).toNat * 3)).block, (ad272.add ((x23_3).toNat * 3)).off + 1, none⟩ = some (.int .i64 ((rd_T63 l3 x23_3).f1)) ∧ w'.cell? ⟨(ad272.add ((x23_3).toNat * 3)).block, (ad272.add ((x23_3).toNat * 3)).off + 2, none⟩ = some (.int .i64 ((rd_T63 l3 x23_3).f2)) ∧ w'.cell? (ad272.add ((x23_3).toNat * 3)) = some (.int .i64 ((rd_T63 l3 x23_3).f0)) ∧ w'.cell? ⟨(ad272.add ((x23_3).toNat * 3)).block, (ad272.add ((x23_3).toNat * 3)).off + 1, none⟩ = some (.int .i64 ((rd_T63 l3 x23_3).f1)) ∧ w'.cell? ⟨(ad272.add ((x23_3).toNat * 3)).block, (ad272.add ((x23_3).toNat * 3)).off + 2, none⟩ = some (.int .i64 ((rd_T63 l3 x23_3).f2)) ∧ w'.cell? (ad272.add ((x23_3).toNat * 3)) = some (.int .i64 ((rd_T63 l3 x23_3).f0)) ∧ w'.cell? ⟨(ad272.add ((x23_3).toNat * 3)).block, (ad272.add ((x23_3).toNat * 3)).off + 1, none⟩ = some (.int .i64 ((rd_T63 l3 x23_3).f1)) ∧ w'.cell? ⟨(ad272.add ((x23_3).toNat * 3)).block, (ad272.add ((x23_3).toNat * 3)).off + 2, none⟩ = some (.int .i64 ((rd_T63 l3 x23_3).f2))) (ds := [31]) #[O,O,O,O,O,O,O,O,O,O,O,O,O,O,O,O,O,O,O,O,O,O,O,O,O,O,O,O,O,O,O,O] (by kernel_rfl) rfl rfl ⟨(blk_cell BK271.out _).trans (dget6 (of_eq_true ppd66_0) (of_eq_true qqd66_0) (of_eq_true ppd66_1) (of_eq_true qqd66_1)), ((HB.out.cell (World.block_lt_of_cell? w _ hw272_0)).trans hw272_0), ((HB.out.cell (World.block_lt_of_cell? w _ hw272_1)).trans hw272_1), ((HB.out.cell (World.block_lt_of_cell? w _ hw272_2)).trans hw272_2), ((HB.out.cell (World.block_lt_of_cell? w _ hw273_0)).trans hw273_0), ((HB.out.cell (World.block_lt_of_cell? w _ hw273_1)).trans hw273_1), ((HB.out.cell (World.block_lt_of_cell? w _ hw273_2)).trans hw273_2), ((HB.out.cell (World.block_lt_of_cell? w _ hw274_0)).trans hw274_0), ((HB.out.cell (World.block_lt_of_cell? w _ hw274_1)).trans hw274_1), ((HB.out.cell (World.block_lt_of_cell? w _ hw274_2)).trans hw274_2), ((HB.out.cell (World.block_lt_of_cell? w _ hw275_0)).trans hw275_0), ((HB.out.cell (World.block_lt_of_cell? w _ hw275_1)).trans hw275_1), ((HB.out.cell (World.block_lt_of_cell? w _ hw275_2)).trans hw275_2), ((HB.out.cell (World.block_lt_of_cell? w _ hw276_0)).trans hw276_0), ((HB.out.cell (World.block_lt_of_cell? w _ hw276_1)).trans hw276_1), ((HB.out.cell (World.block_lt_of_cell? w _ hw276_2)).trans hw276_2)⟩ (fun hHeld => ?_); refine with_tabW ambidextertop_TopTimetable.tab26 ambidextertop_TopTimetable.bits26 (fun HT_ HW_ => ?_)
        generalize wr.drew = w65 at HO_13 HO_17 BK252 BK257 BK262 BK271 HB hx272_0 hx272_1 hx272_2 hx273_0 hx273_1 hx273_2 hx274_0 hx274_1 hx274_2 hx275_0 hx275_1 hx275_2 hx276_0 hx276_1 hx276_2 hHeld ⊢
        refine pq_ (i := 0) (N := some 130) #[I,O,O,O,O,O,O,O,O,O,O,O,O,O,O,O,O,O,O,O,O,O,O,O,O,O,O,O,O,O,O,O] HT_ ?_
        refine pq_ (i := 1) (N := some 131) #[I,I,O,O,O,O,O,O,O,O,O,O,O,O,O,O,O,O,O,O,O,O,O,O,O,O,O,O,O,O,O,O] HT_ ?_
        refine pq_ (i := 2) (N := some 132) #[I,I,I,O,O,O,O,O,O,O,O,O,O,O,O,O,O,O,O,O,O,O,O,O,O,O,O,O,O,O,O,O] HT_ ?_
        refine pq_ (i := 3) (N := some 133) #[I,I,I,I,O,O,O,O,O,O,O,O,O,O,O,O,O,O,O,O,O,O,O,O,O,O,O,O,O,O,O,O] HT_ ?_
        refine pq_ (i := 5) (N := some 135) #[I,I,I,I,O,I,O,O,O,O,O,O,O,O,O,O,O,O,O,O,O,O,O,O,O,O,O,O,O,O,O,O] HT_ ?_
        refine pq_ (i := 6) (N := some 136) #[I,I,I,I,O,I,I,O,O,O,O,O,O,O,O,O,O,O,O,O,O,O,O,O,O,O,O,O,O,O,O,O] HT_ ?_
        refine pq_ (i := 7) (N := some 137) #[I,I,I,I,O,I,I,I,O,O,O,O,O,O,O,O,O,O,O,O,O,O,O,O,O,O,O,O,O,O,O,O] HT_ ?_
        refine pq_ (i := 8) (N := some 138) #[I,I,I,I,O,I,I,I,I,O,O,O,O,O,O,O,O,O,O,O,O,O,O,O,O,O,O,O,O,O,O,O] HT_ ?_
        refine pq_ (i := 10) (N := some 140) #[I,I,I,I,O,I,I,I,I,O,I,O,O,O,O,O,O,O,O,O,O,O,O,O,O,O,O,O,O,O,O,O] HT_ ?_
        refine pq_ (i := 11) (N := some 141) #[I,I,I,I,O,I,I,I,I,O,I,I,O,O,O,O,O,O,O,O,O,O,O,O,O,O,O,O,O,O,O,O] HT_ ?_
        refine pq_ (i := 12) (N := some 142) #[I,I,I,I,O,I,I,I,I,O,I,I,I,O,O,O,O,O,O,O,O,O,O,O,O,O,O,O,O,O,O,O] HT_ ?_
        refine pq_ (i := 13) (N := some 143) #[I,I,I,I,O,I,I,I,I,O,I,I,I,I,O,O,O,O,O,O,O,O,O,O,O,O,O,O,O,O,O,O] HT_ ?_
        refine pq_ (i := 15) (N := some 145) #[I,I,I,I,O,I,I,I,I,O,I,I,I,I,O,I,O,O,O,O,O,O,O,O,O,O,O,O,O,O,O,O] HT_ ?_
        refine pq_ (i := 16) (N := some 146) #[I,I,I,I,O,I,I,I,I,O,I,I,I,I,O,I,I,O,O,O,O,O,O,O,O,O,O,O,O,O,O,O] HT_ ?_
        refine pq_ (i := 17) (N := some 147) #[I,I,I,I,O,I,I,I,I,O,I,I,I,I,O,I,I,I,O,O,O,O,O,O,O,O,O,O,O,O,O,O] HT_ ?_
        refine pq_ (i := 18) (N := some 148) #[I,I,I,I,O,I,I,I,I,O,I,I,I,I,O,I,I,I,I,O,O,O,O,O,O,O,O,O,O,O,O,O] HT_ ?_
        refine pq_ (i := 23) (N := some 153) #[I,I,I,I,O,I,I,I,I,O,I,I,I,I,O,I,I,I,I,O,O,O,O,I,O,O,O,O,O,O,O,O] HT_ ?_
        refine pq_ (i := 24) (N := some 154) #[I,I,I,I,O,I,I,I,I,O,I,I,I,I,O,I,I,I,I,O,O,O,O,I,I,O,O,O,O,O,O,O] HT_ ?_
        refine pq_ (i := 25) (N := some 155) #[I,I,I,I,O,I,I,I,I,O,I,I,I,I,O,I,I,I,I,O,O,O,O,I,I,I,O,O,O,O,O,O] HT_ ?_
        refine pq_ (i := 26) (N := some 156) #[I,I,I,I,O,I,I,I,I,O,I,I,I,I,O,I,I,I,I,O,O,O,O,I,I,I,I,O,O,O,O,O] HT_ ?_
        refine take_ (i := 4) (N := some 134) (v := ?_) (a' := ?_) #[I,I,I,I,I,I,I,I,I,O,I,I,I,I,O,I,I,I,I,O,O,O,O,I,I,I,I,O,O,O,O,O] rfl rfl (take_ofW HT_.out HW_.out (by kernel_rfl)) (fun _ _ _ h => h) (Or.inl ⟨by rfl, ?_⟩) hHeld ?_ ?_
        rotate_left; · (rintro w' ⟨s0, s1, s2, s3, s4, s5, s6, s7, s8, s9, s10, s11, s12, s13, s14, s15⟩; go_simp; with_reducible rfl)
        rotate_left; · (simp only [Act.put, List.setIfInBounds_toArray, List.set_cons_zero, List.set_cons_succ, i64_w, i32_w]; rfl)
        refine pq_ (i := 29) (N := some 159) #[I,I,I,I,I,I,I,I,I,O,I,I,I,I,O,I,I,I,I,O,O,O,O,I,I,I,I,O,O,I,O,O] HT_ ?_
        refine take_ (i := 9) (N := some 139) (v := ?_) (a' := ?_) #[I,I,I,I,I,I,I,I,I,I,I,I,I,I,O,I,I,I,I,O,O,O,O,I,I,I,I,O,O,I,O,O] rfl rfl (take_ofW HT_.out HW_.out (by kernel_rfl)) (fun _ _ _ h => h) (Or.inl ⟨by rfl, ?_⟩) hHeld ?_ ?_
        rotate_left; · (rintro w' ⟨s0, s1, s2, s3, s4, s5, s6, s7, s8, s9, s10, s11, s12, s13, s14, s15⟩; go_simp; with_reducible rfl)
        rotate_left; · (simp only [Act.put, List.setIfInBounds_toArray, List.set_cons_zero, List.set_cons_succ, i64_w, i32_w]; rfl)
        refine take_ (i := 14) (N := some 144) (v := ?_) (a' := ?_) #[I,I,I,I,I,I,I,I,I,I,I,I,I,I,I,I,I,I,I,O,O,O,O,I,I,I,I,O,O,I,O,O] rfl rfl (take_ofW HT_.out HW_.out (by kernel_rfl)) (fun _ _ _ h => h) (Or.inl ⟨by rfl, ?_⟩) hHeld ?_ ?_
        rotate_left; · (rintro w' ⟨s0, s1, s2, s3, s4, s5, s6, s7, s8, s9, s10, s11, s12, s13, s14, s15⟩; go_simp; with_reducible rfl)
        rotate_left; · (simp only [Act.put, List.setIfInBounds_toArray, List.set_cons_zero, List.set_cons_succ, i64_w, i32_w]; rfl)
        refine pq_ (i := 20) (N := some 150) #[I,I,I,I,I,I,I,I,I,I,I,I,I,I,I,I,I,I,I,O,I,O,O,I,I,I,I,O,O,I,O,O] HT_ ?_
        refine take_ (i := 19) (N := some 149) (v := ?_) (a' := ?_) #[I,I,I,I,I,I,I,I,I,I,I,I,I,I,I,I,I,I,I,I,I,O,O,I,I,I,I,O,O,I,O,O] rfl rfl (take_ofW HT_.out HW_.out (by kernel_rfl)) (fun _ _ _ h => h) (Or.inl ⟨by rfl, ?_⟩) hHeld ?_ ?_
        rotate_left; · (rintro w' ⟨s0, s1, s2, s3, s4, s5, s6, s7, s8, s9, s10, s11, s12, s13, s14, s15⟩; go_simp; with_reducible rfl)
        rotate_left; · (simp only [Act.put, List.setIfInBounds_toArray, List.set_cons_zero, List.set_cons_succ, i64_w, i32_w]; rfl)
        refine pq_ (i := 21) (N := some 151) #[I,I,I,I,I,I,I,I,I,I,I,I,I,I,I,I,I,I,I,I,I,I,O,I,I,I,I,O,O,I,O,O] HT_ ?_
        refine take_ (i := 22) (N := some 152) (v := ?_) (a' := ?_) #[I,I,I,I,I,I,I,I,I,I,I,I,I,I,I,I,I,I,I,I,I,I,I,I,I,I,I,O,O,I,O,O] rfl rfl (take_ofW HT_.out HW_.out (by kernel_rfl)) (fun _ _ _ h => h) (Or.inl ⟨by rfl, ?_⟩) hHeld ?_ ?_
        rotate_left; · (rintro w' ⟨s0, s1, s2, s3, s4, s5, s6, s7, s8, s9, s10, s11, s12, s13, s14, s15⟩; go_simp; with_reducible rfl)
        rotate_left; · (simp only [Act.put, List.setIfInBounds_toArray, List.set_cons_zero, List.set_cons_succ, i64_w, i32_w]; rfl)
        refine take_ (i := 27) (N := some 157) (v := ?_) (a' := ?_) #[I,I,I,I,I,I,I,I,I,I,I,I,I,I,I,I,I,I,I,I,I,I,I,I,I,I,I,I,O,I,O,O] rfl rfl (take_ofW HT_.out HW_.out (by kernel_rfl)) (fun _ _ _ h => h) (Or.inl ⟨by rfl, ?_⟩) hHeld ?_ ?_
        rotate_left; · (rintro w' ⟨s0, s1, s2, s3, s4, s5, s6, s7, s8, s9, s10, s11, s12, s13, s14, s15⟩; go_simp; with_reducible rfl)
        rotate_left; · (simp only [Act.put, List.setIfInBounds_toArray, List.set_cons_zero, List.set_cons_succ, i64_w, i32_w]; rfl)
        refine pq_ (i := 28) (N := some 158) #[I,I,I,I,I,I,I,I,I,I,I,I,I,I,I,I,I,I,I,I,I,I,I,I,I,I,I,I,I,I,O,O] HT_ ?_
        refine pq_ (i := 30) (N := some 160) #[I,I,I,I,I,I,I,I,I,I,I,I,I,I,I,I,I,I,I,I,I,I,I,I,I,I,I,I,I,I,I,O] HT_ ?_
        refine last_ (i := 31) (N := none) #[I,I,I,I,I,I,I,I,I,I,I,I,I,I,I,I,I,I,I,I,I,I,I,I,I,I,I,I,I,I,I,I] rfl rfl (one_of HT_.out (by kernel_rfl)) (by decide) (fun K hK => ?_)
        have hs68 : w65.cell? ⟨gb271, (((rd_T63 l3 x23_3).f0) : Int).toNat * 3 + (((rd_T63 l3 x23_3).f1) : Int).toNat, none⟩ = some (.int .i64 (dget [x272000_3, x272001_3, x272002_3, x272003_3, x272004_3, x272005_3] (((rd_T63 l3 x23_3).f0) * 3 + ((rd_T63 l3 x23_3).f1)))) := (blk_cell BK271.out _).trans (dget6 (of_eq_true ppd67_0) (of_eq_true qqd67_0) (of_eq_true ppd67_1) (of_eq_true qqd67_1))
        have hfs68 := blk_frozen BK271.out ((((rd_T63 l3 x23_3).f0) : Int).toNat * 3 + (((rd_T63 l3 x23_3).f1) : Int).toNat)
        have hns68_0 := NB252_271.out
        have hns68_1 := NB257_271.out
        have hns68_2 := NB262_271.out
        have hms68_0 := NB271_252.out
        have hms68_1 := NB271_257.out
        have hms68_2 := NB271_262.out
        refine skip_ (w1 := ?_) (by rfl) rfl ?_ ?_
        rotate_left
        ·
         go_simp
         rfl
        refine hK.out _ _ ?_
        clear hK K
        refine done_ (done_of HT_.out (by kernel_rfl)) ?_
        try go_wp2
        go_roundg k3
        case measure => have := HK1.out; have := HK2.out; have := HK3.out; omega
        case rel => exact ⟨(wrap64 (x23_3 + 1)), (dset (((rd_T63 l3 x23_3).f0) * 3 + ((rd_T63 l3 x23_3).f1)) 0 (wrap64 ((dget [x272000_3, x272001_3, x272002_3, x272003_3, x272004_3, x272005_3] (((rd_T63 l3 x23_3).f0) * 3 + ((rd_T63 l3 x23_3).f1))) + ((rd_T63 l3 x23_3).f2))) x272000_3), (dset (((rd_T63 l3 x23_3).f0) * 3 + ((rd_T63 l3 x23_3).f1)) 1 (wrap64 ((dget [x272000_3, x272001_3, x272002_3, x272003_3, x272004_3, x272005_3] (((rd_T63 l3 x23_3).f0) * 3 + ((rd_T63 l3 x23_3).f1))) + ((rd_T63 l3 x23_3).f2))) x272001_3), (dset (((rd_T63 l3 x23_3).f0) * 3 + ((rd_T63 l3 x23_3).f1)) 2 (wrap64 ((dget [x272000_3, x272001_3, x272002_3, x272003_3, x272004_3, x272005_3] (((rd_T63 l3 x23_3).f0) * 3 + ((rd_T63 l3 x23_3).f1))) + ((rd_T63 l3 x23_3).f2))) x272002_3), (dset (((rd_T63 l3 x23_3).f0) * 3 + ((rd_T63 l3 x23_3).f1)) 3 (wrap64 ((dget [x272000_3, x272001_3, x272002_3, x272003_3, x272004_3, x272005_3] (((rd_T63 l3 x23_3).f0) * 3 + ((rd_T63 l3 x23_3).f1))) + ((rd_T63 l3 x23_3).f2))) x272003_3), (dset (((rd_T63 l3 x23_3).f0) * 3 + ((rd_T63 l3 x23_3).f1)) 4 (wrap64 ((dget [x272000_3, x272001_3, x272002_3, x272003_3, x272004_3, x272005_3] (((rd_T63 l3 x23_3).f0) * 3 + ((rd_T63 l3 x23_3).f1))) + ((rd_T63 l3 x23_3).f2))) x272004_3), (dset (((rd_T63 l3 x23_3).f0) * 3 + ((rd_T63 l3 x23_3).f1)) 5 (wrap64 ((dget [x272000_3, x272001_3, x272002_3, x272003_3, x272004_3, x272005_3] (((rd_T63 l3 x23_3).f0) * 3 + ((rd_T63 l3 x23_3).f1))) + ((rd_T63 l3 x23_3).f2))) x272005_3), (by first | rfl | (simp; done) | (simp [*]; done)), H', ⟨by have := HK1.out; have := HK2.out; have := HK3.out; omega⟩, ⟨by (with_reducible repeat (first | apply Kd.S_alloc | apply Kd.S_drewN | apply Kd.S_drew)); exact Kd.S_mono (Kd.S_far (p := ⟨gb271, (((rd_T63 l3 x23_3).f0) : Int).toNat * 3 + (((rd_T63 l3 x23_3).f1) : Int).toNat, none⟩) (Kd.S_types HO_13.out BK271.out (by decide)) (fun _ hk => hk.2) (.int .i64 (wrap64 ((dget [x272000_3, x272001_3, x272002_3, x272003_3, x272004_3, x272005_3] (((rd_T63 l3 x23_3).f0) * 3 + ((rd_T63 l3 x23_3).f1))) + ((rd_T63 l3 x23_3).f2))))) (fun _ hk => trivial)⟩, ⟨by (with_reducible repeat (first | apply Kd.R_alloc | apply Kd.R_drewN | apply Kd.R_drew)); exact Kd.R_mono (Kd.R_far (p := ⟨gb271, (((rd_T63 l3 x23_3).f0) : Int).toNat * 3 + (((rd_T63 l3 x23_3).f1) : Int).toNat, none⟩) (Kd.R_types HO_17.out BK271.out (by decide)) (fun _ hk => hk.2) (.int .i64 (wrap64 ((dget [x272000_3, x272001_3, x272002_3, x272003_3, x272004_3, x272005_3] (((rd_T63 l3 x23_3).f0) * 3 + ((rd_T63 l3 x23_3).f1))) + ((rd_T63 l3 x23_3).f2))))) (fun _ hk => trivial)⟩, ⟨by (with_reducible repeat (first | refine blk_drewN ?_ _ | refine blk_drew ?_ | refine blk_alloc ?_ _)); refine blk_far ?_ NB252_271.out _; (with_reducible repeat (first | refine blk_drewN ?_ _ | refine blk_drew ?_ | refine blk_alloc ?_ _)); exact BK252.out⟩, ⟨by (with_reducible repeat (first | refine blk_drewN ?_ _ | refine blk_drew ?_ | refine blk_alloc ?_ _)); refine blk_far ?_ NB257_271.out _; (with_reducible repeat (first | refine blk_drewN ?_ _ | refine blk_drew ?_ | refine blk_alloc ?_ _)); exact BK257.out⟩, ⟨by (with_reducible repeat (first | refine blk_drewN ?_ _ | refine blk_drew ?_ | refine blk_alloc ?_ _)); refine blk_far ?_ NB262_271.out _; (with_reducible repeat (first | refine blk_drewN ?_ _ | refine blk_drew ?_ | refine blk_alloc ?_ _)); exact BK262.out⟩, ⟨by (with_reducible repeat (first | refine blk_drewN ?_ _ | refine blk_drew ?_ | refine blk_alloc ?_ _)); refine blk_put (cs := #[.int .i64 x272000_3, .int .i64 x272001_3, .int .i64 x272002_3, .int .i64 x272003_3, .int .i64 x272004_3, .int .i64 x272005_3]) ?_ ((((rd_T63 l3 x23_3).f0) : Int).toNat * 3 + (((rd_T63 l3 x23_3).f1) : Int).toNat) _ (dset6 (of_eq_true ppd67_0) (of_eq_true qqd67_0) (of_eq_true ppd67_1) (of_eq_true qqd67_1) _); (with_reducible repeat (first | refine blk_drewN ?_ _ | refine blk_drew ?_ | refine blk_alloc ?_ _)); exact BK271.out⟩, ⟨by repeat (first | (with_reducible first | exact HB.out | apply below_alloc | apply pw_below_drewN | apply below_drew1 | refine below_set ?_ GE252.out | refine below_set ?_ GE257.out | refine below_set ?_ GE262.out | refine below_set ?_ GE271.out) | exact HB.out)⟩⟩
       rw [if_neg c59] at H
       have c59b0 : decide (x23_3 < (l3.length : Int)) = false := decide_eq_false c59
       clear c59
       have HC69 := Aside0.mk H
       clear H
       go_upto_region 27 with (fail)
       go_cut [175] (fun v175 wc => ∃ (kq : Nat) (x175_68 : Bool), v175 = .bool x175_68 ∧ Aside0 (ambidextertop_TopTimetable.j3 kq true t258 x18_2 x175_68 t254 t255 t256 x263000_1 x263001_1 x263002_1 x263003_1 x263004_1 x263005_1 x272000_3 x272001_3 x272002_3 x272003_3 x272004_3 x272005_3 = some r) ∧ Aside0 (kq ≤ k3) ∧ Aside0 (Kd.S k67 67 wc w.heap.size (fun _ => True) v259 t258) ∧ Aside0 (wc.heap[gb252]? = some (.cells #[.int .u8 a4_0, .int .u8 a4_1, .int .u8 a4_2, .int .u8 a4_3, .int .u8 a4_4, .int .u8 a4_5] 52 (0, 0))) ∧ Aside0 (wc.heap[gb257]? = some (.cells #[.int .i64 t254, .int .i64 t255, .int .i64 t256] 25 (0, 0))) ∧ Aside0 (wc.heap[gb262]? = some (.cells #[.int .i64 x263000_1, .int .i64 x263001_1, .int .i64 x263002_1, .int .i64 x263003_1, .int .i64 x263004_1, .int .i64 x263005_1] 59 (0, 0))) ∧ Aside0 (wc.heap[gb271]? = some (.cells #[.int .i64 x272000_3, .int .i64 x272001_3, .int .i64 x272002_3, .int .i64 x272003_3, .int .i64 x272004_3, .int .i64 x272005_3] 59 (0, 0))) ∧ Aside0 (Below w.heap.size w wc))
       case first =>
        have H := HC69.out
        clear HC69
        replace H := Option.bind_eq_some_iff.mp H
        obtain ⟨t277, A700, H⟩ := H
        replace H : (if t277 = x18_2 then (if (t258.length : Int) = (t263.length : Int) then (ambidextertop_TopTimetable.j3 k3 true t258 x18_2 (decide (x18_2 > 2000)) t254 t255 t256 x263000_1 x263001_1 x263002_1 x263003_1 x263004_1 x263005_1 x272000_3 x272001_3 x272002_3 x272003_3 x272004_3 x272005_3) else (ambidextertop_TopTimetable.j3 k3 true t258 x18_2 true t254 t255 t256 x263000_1 x263001_1 x263002_1 x263003_1 x263004_1 x263005_1 x272000_3 x272001_3 x272002_3 x272003_3 x272004_3 x272005_3)) else (ambidextertop_TopTimetable.j3 k3 true t258 x18_2 true t254 t255 t256 x263000_1 x263001_1 x263002_1 x263003_1 x263004_1 x263005_1 x272000_3 x272001_3 x272002_3 x272003_3 x272004_3 x272005_3)) = some r := H
        have A70 := Aside0.mk A700
        clear A700
        by_cases c71 : t277 = x18_2
        case neg =>
         rw [if_neg c71] at H
         have c71b0 : (t277 == x18_2) = false := beq_eq_false_iff_ne.mpr c71
         have c71b1 : (t277 != x18_2) = true := bne_iff_ne.mpr c71
         (first | rw [c71b0] | (simp only [i64_w, i32_w]; rw [c71b0]) | skip)
         have H' := Aside0.mk H
         clear H
         obtain ⟨Ao77, co77, eo77⟩ := Kd.S_slice HO_13.out
         subst eo77
         go_wp2_with (first | ((with_reducible refine gate_callee (f := 29) rfl ?_); refine goesL_ (some 162) rfl rfl Try.func29 (by kernel_rfl) rfl #[.slice Ao77 t258.length co77] rfl (by (try simp only [List.map_toArray, List.map_cons, List.map_nil]); first | done | rfl | (simp only [List.length_drop, List.length_take]; rfl)) ?_; (with_reducible refine (timetable_Duration.calls k3 _ _ t258 t277 _ ?side1 ?side2 A70.out).mono ?_); (case side1 => repeat (first | exact (Kd.S_reads' HO_13.out).2.2 | (with_reducible refine Kd.C_alloc ?_ _) | (with_reducible refine Kd.C_drewN ?_ _) | (with_reducible refine Kd.C_drew ?_))); (case side2 => exact (Kd.S_reads' HO_13.out).2.1); rintro e w78 ⟨rfl, hb⟩; refine ⟨_, rfl, ?_⟩; have n0_ := Aside0.mk (Kd.S_below (by (with_reducible repeat (first | apply Kd.S_alloc | apply Kd.S_drewN | apply Kd.S_drew)); exact HO_13.out) hb); have n1_ := Aside0.mk (Kd.R_below (by (with_reducible repeat (first | apply Kd.R_alloc | apply Kd.R_drewN | apply Kd.R_drew)); exact HO_17.out) hb); have n2_ := Aside0.mk (blk_below (g := gb252) (o := .cells #[.int .u8 a4_0, .int .u8 a4_1, .int .u8 a4_2, .int .u8 a4_3, .int .u8 a4_4, .int .u8 a4_5] 52 (0, 0)) (by (with_reducible repeat (first | refine blk_drewN ?_ _ | refine blk_drew ?_ | refine blk_alloc ?_ _)); exact BK252.out) hb); have n3_ := Aside0.mk (blk_below (g := gb257) (o := .cells #[.int .i64 t254, .int .i64 t255, .int .i64 t256] 25 (0, 0)) (by (with_reducible repeat (first | refine blk_drewN ?_ _ | refine blk_drew ?_ | refine blk_alloc ?_ _)); exact BK257.out) hb); have n4_ := Aside0.mk (blk_below (g := gb262) (o := .cells #[.int .i64 x263000_1, .int .i64 x263001_1, .int .i64 x263002_1, .int .i64 x263003_1, .int .i64 x263004_1, .int .i64 x263005_1] 59 (0, 0)) (by (with_reducible repeat (first | refine blk_drewN ?_ _ | refine blk_drew ?_ | refine blk_alloc ?_ _)); exact BK262.out) hb); have n5_ := Aside0.mk (blk_below (g := gb271) (o := .cells #[.int .i64 x272000_3, .int .i64 x272001_3, .int .i64 x272002_3, .int .i64 x272003_3, .int .i64 x272004_3, .int .i64 x272005_3] 59 (0, 0)) (by (with_reducible repeat (first | refine blk_drewN ?_ _ | refine blk_drew ?_ | refine blk_alloc ?_ _)); exact BK271.out) hb); have n6_ := Aside0.mk (below_step (by repeat (first | (with_reducible first | exact HB.out | apply below_alloc | apply pw_below_drewN | apply below_drew1 | refine below_set ?_ GE252.out | refine below_set ?_ GE257.out | refine below_set ?_ GE262.out | refine below_set ?_ GE271.out) | exact HB.out)) hb); clear HO_13; clear HO_17; clear BK252; clear BK257; clear BK262; clear BK271; clear HB; have HO_13 := n0_; have HO_17 := n1_; have BK252 := n2_; have BK257 := n3_; have BK262 := n4_; have BK271 := n5_; have HB := n6_; clear n0_ n1_ n2_ n3_ n4_ n5_ n6_; (try clear hb); (try clear hb2); (try clear hk); (try clear hi)))
         go_meet
         case rel => exact ⟨_, (true), (by first | rfl | (simp; done) | (simp [*]; done)), H', ⟨by have := HK1.out; have := HK2.out; have := HK3.out; first | omega | exact Nat.le_refl _⟩, ⟨by (with_reducible repeat (first | apply Kd.S_alloc | apply Kd.S_drewN | apply Kd.S_drew)); exact HO_13.out⟩, ⟨by (with_reducible repeat (first | refine blk_drewN ?_ _ | refine blk_drew ?_ | refine blk_alloc ?_ _)); exact BK252.out⟩, ⟨by (with_reducible repeat (first | refine blk_drewN ?_ _ | refine blk_drew ?_ | refine blk_alloc ?_ _)); exact BK257.out⟩, ⟨by (with_reducible repeat (first | refine blk_drewN ?_ _ | refine blk_drew ?_ | refine blk_alloc ?_ _)); exact BK262.out⟩, ⟨by (with_reducible repeat (first | refine blk_drewN ?_ _ | refine blk_drew ?_ | refine blk_alloc ?_ _)); exact BK271.out⟩, ⟨by repeat (first | (with_reducible first | exact HB.out | apply below_alloc | apply pw_below_drewN | apply below_drew1 | refine below_set ?_ GE252.out | refine below_set ?_ GE257.out | refine below_set ?_ GE262.out | refine below_set ?_ GE271.out) | exact HB.out)⟩⟩
        rw [if_pos c71] at H
        have c71b0 : (t277 == x18_2) = true := beq_iff_eq.mpr c71
        have c71b1 : (t277 != x18_2) = false := bne_eq_false_iff_eq.mpr c71
        clear c71
        (first | rw [c71b0] | (simp only [i64_w, i32_w]; rw [c71b0]) | skip)
        by_cases c72 : (t258.length : Int) = (t263.length : Int)
        case neg =>
         rw [if_neg c72] at H
         have c72b0 : ((t258.length : Int) == (t263.length : Int)) = false := beq_eq_false_iff_ne.mpr c72
         have c72b1 : ((t258.length : Int) != (t263.length : Int)) = true := bne_iff_ne.mpr c72
         have c72b2 : (t258.length == t263.length) = false := by first | simpa using c72 | (simp at c72 ⊢; omega)
         have H' := Aside0.mk H
         clear H
         obtain ⟨Ao75, co75, eo75⟩ := Kd.S_slice HO_13.out
         subst eo75
         go_wp2_with (first | ((with_reducible refine gate_callee (f := 29) rfl ?_); refine goesL_ (some 162) rfl rfl Try.func29 (by kernel_rfl) rfl #[.slice Ao75 t258.length co75] rfl (by (try simp only [List.map_toArray, List.map_cons, List.map_nil]); first | done | rfl | (simp only [List.length_drop, List.length_take]; rfl)) ?_; (with_reducible refine (timetable_Duration.calls k3 _ _ t258 t277 _ ?side1 ?side2 A70.out).mono ?_); (case side1 => repeat (first | exact (Kd.S_reads' HO_13.out).2.2 | (with_reducible refine Kd.C_alloc ?_ _) | (with_reducible refine Kd.C_drewN ?_ _) | (with_reducible refine Kd.C_drew ?_))); (case side2 => exact (Kd.S_reads' HO_13.out).2.1); rintro e w76 ⟨rfl, hb⟩; refine ⟨_, rfl, ?_⟩; have n0_ := Aside0.mk (Kd.S_below (by (with_reducible repeat (first | apply Kd.S_alloc | apply Kd.S_drewN | apply Kd.S_drew)); exact HO_13.out) hb); have n1_ := Aside0.mk (Kd.R_below (by (with_reducible repeat (first | apply Kd.R_alloc | apply Kd.R_drewN | apply Kd.R_drew)); exact HO_17.out) hb); have n2_ := Aside0.mk (blk_below (g := gb252) (o := .cells #[.int .u8 a4_0, .int .u8 a4_1, .int .u8 a4_2, .int .u8 a4_3, .int .u8 a4_4, .int .u8 a4_5] 52 (0, 0)) (by (with_reducible repeat (first | refine blk_drewN ?_ _ | refine blk_drew ?_ | refine blk_alloc ?_ _)); exact BK252.out) hb); have n3_ := Aside0.mk (blk_below (g := gb257) (o := .cells #[.int .i64 t254, .int .i64 t255, .int .i64 t256] 25 (0, 0)) (by (with_reducible repeat (first | refine blk_drewN ?_ _ | refine blk_drew ?_ | refine blk_alloc ?_ _)); exact BK257.out) hb); have n4_ := Aside0.mk (blk_below (g := gb262) (o := .cells #[.int .i64 x263000_1, .int .i64 x263001_1, .int .i64 x263002_1, .int .i64 x263003_1, .int .i64 x263004_1, .int .i64 x263005_1] 59 (0, 0)) (by (with_reducible repeat (first | refine blk_drewN ?_ _ | refine blk_drew ?_ | refine blk_alloc ?_ _)); exact BK262.out) hb); have n5_ := Aside0.mk (blk_below (g := gb271) (o := .cells #[.int .i64 x272000_3, .int .i64 x272001_3, .int .i64 x272002_3, .int .i64 x272003_3, .int .i64 x272004_3, .int .i64 x272005_3] 59 (0, 0)) (by (with_reducible repeat (first | refine blk_drewN ?_ _ | refine blk_drew ?_ | refine blk_alloc ?_ _)); exact BK271.out) hb); have n6_ := Aside0.mk (below_step (by repeat (first | (with_reducible first | exact HB.out | apply below_alloc | apply pw_below_drewN | apply below_drew1 | refine below_set ?_ GE252.out | refine below_set ?_ GE257.out | refine below_set ?_ GE262.out | refine below_set ?_ GE271.out) | exact HB.out)) hb); clear HO_13; clear HO_17; clear BK252; clear BK257; clear BK262; clear BK271; clear HB; have HO_13 := n0_; have HO_17 := n1_; have BK252 := n2_; have BK257 := n3_; have BK262 := n4_; have BK271 := n5_; have HB := n6_; clear n0_ n1_ n2_ n3_ n4_ n5_ n6_; (try clear hb); (try clear hb2); (try clear hk); (try clear hi)))
         go_meet
         case rel => exact ⟨_, (true), (by first | rfl | (simp; done) | (simp [*]; done)), H', ⟨by have := HK1.out; have := HK2.out; have := HK3.out; first | omega | exact Nat.le_refl _⟩, ⟨by (with_reducible repeat (first | apply Kd.S_alloc | apply Kd.S_drewN | apply Kd.S_drew)); exact HO_13.out⟩, ⟨by (with_reducible repeat (first | refine blk_drewN ?_ _ | refine blk_drew ?_ | refine blk_alloc ?_ _)); exact BK252.out⟩, ⟨by (with_reducible repeat (first | refine blk_drewN ?_ _ | refine blk_drew ?_ | refine blk_alloc ?_ _)); exact BK257.out⟩, ⟨by (with_reducible repeat (first | refine blk_drewN ?_ _ | refine blk_drew ?_ | refine blk_alloc ?_ _)); exact BK262.out⟩, ⟨by (with_reducible repeat (first | refine blk_drewN ?_ _ | refine blk_drew ?_ | refine blk_alloc ?_ _)); exact BK271.out⟩, ⟨by repeat (first | (with_reducible first | exact HB.out | apply below_alloc | apply pw_below_drewN | apply below_drew1 | refine below_set ?_ GE252.out | refine below_set ?_ GE257.out | refine below_set ?_ GE262.out | refine below_set ?_ GE271.out) | exact HB.out)⟩⟩
        rw [if_pos c72] at H
        have c72b0 : ((t258.length : Int) == (t263.length : Int)) = true := beq_iff_eq.mpr c72
        have c72b1 : ((t258.length : Int) != (t263.length : Int)) = false := bne_eq_false_iff_eq.mpr c72
        have c72b2 : (t258.length == t263.length) = true := by first | simpa using c72 | (simp at c72 ⊢; omega)
        clear c72
        have H' := Aside0.mk H
        clear H
        obtain ⟨Ao73, co73, eo73⟩ := Kd.S_slice HO_13.out
        subst eo73
        go_wp2_with (first | ((with_reducible refine gate_callee (f := 29) rfl ?_); refine goesL_ (some 162) rfl rfl Try.func29 (by kernel_rfl) rfl #[.slice Ao73 t258.length co73] rfl (by (try simp only [List.map_toArray, List.map_cons, List.map_nil]); first | done | rfl | (simp only [List.length_drop, List.length_take]; rfl)) ?_; (with_reducible refine (timetable_Duration.calls k3 _ _ t258 t277 _ ?side1 ?side2 A70.out).mono ?_); (case side1 => repeat (first | exact (Kd.S_reads' HO_13.out).2.2 | (with_reducible refine Kd.C_alloc ?_ _) | (with_reducible refine Kd.C_drewN ?_ _) | (with_reducible refine Kd.C_drew ?_))); (case side2 => exact (Kd.S_reads' HO_13.out).2.1); rintro e w74 ⟨rfl, hb⟩; refine ⟨_, rfl, ?_⟩; have n0_ := Aside0.mk (Kd.S_below (by (with_reducible repeat (first | apply Kd.S_alloc | apply Kd.S_drewN | apply Kd.S_drew)); exact HO_13.out) hb); have n1_ := Aside0.mk (Kd.R_below (by (with_reducible repeat (first | apply Kd.R_alloc | apply Kd.R_drewN | apply Kd.R_drew)); exact HO_17.out) hb); have n2_ := Aside0.mk (blk_below (g := gb252) (o := .cells #[.int .u8 a4_0, .int .u8 a4_1, .int .u8 a4_2, .int .u8 a4_3, .int .u8 a4_4, .int .u8 a4_5] 52 (0, 0)) (by (with_reducible repeat (first | refine blk_drewN ?_ _ | refine blk_drew ?_ | refine blk_alloc ?_ _)); exact BK252.out) hb); have n3_ := Aside0.mk (blk_below (g := gb257) (o := .cells #[.int .i64 t254, .int .i64 t255, .int .i64 t256] 25 (0, 0)) (by (with_reducible repeat (first | refine blk_drewN ?_ _ | refine blk_drew ?_ | refine blk_alloc ?_ _)); exact BK257.out) hb); have n4_ := Aside0.mk (blk_below (g := gb262) (o := .cells #[.int .i64 x263000_1, .int .i64 x263001_1, .int .i64 x263002_1, .int .i64 x263003_1, .int .i64 x263004_1, .int .i64 x263005_1] 59 (0, 0)) (by (with_reducible repeat (first | refine blk_drewN ?_ _ | refine blk_drew ?_ | refine blk_alloc ?_ _)); exact BK262.out) hb); have n5_ := Aside0.mk (blk_below (g := gb271) (o := .cells #[.int .i64 x272000_3, .int .i64 x272001_3, .int .i64 x272002_3, .int .i64 x272003_3, .int .i64 x272004_3, .int .i64 x272005_3] 59 (0, 0)) (by (with_reducible repeat (first | refine blk_drewN ?_ _ | refine blk_drew ?_ | refine blk_alloc ?_ _)); exact BK271.out) hb); have n6_ := Aside0.mk (below_step (by repeat (first | (with_reducible first | exact HB.out | apply below_alloc | apply pw_below_drewN | apply below_drew1 | refine below_set ?_ GE252.out | refine below_set ?_ GE257.out | refine below_set ?_ GE262.out | refine below_set ?_ GE271.out) | exact HB.out)) hb); clear HO_13; clear HO_17; clear BK252; clear BK257; clear BK262; clear BK271; clear HB; have HO_13 := n0_; have HO_17 := n1_; have BK252 := n2_; have BK257 := n3_; have BK262 := n4_; have BK271 := n5_; have HB := n6_; clear n0_ n1_ n2_ n3_ n4_ n5_ n6_; (try clear hb); (try clear hb2); (try clear hk); (try clear hi)))
        go_meet
        case rel => exact ⟨_, (decide (x18_2 > 2000)), (by first | rfl | (simp; done) | (simp [*]; done)), H', ⟨by have := HK1.out; have := HK2.out; have := HK3.out; first | omega | exact Nat.le_refl _⟩, ⟨by (with_reducible repeat (first | apply Kd.S_alloc | apply Kd.S_drewN | apply Kd.S_drew)); exact HO_13.out⟩, ⟨by (with_reducible repeat (first | refine blk_drewN ?_ _ | refine blk_drew ?_ | refine blk_alloc ?_ _)); exact BK252.out⟩, ⟨by (with_reducible repeat (first | refine blk_drewN ?_ _ | refine blk_drew ?_ | refine blk_alloc ?_ _)); exact BK257.out⟩, ⟨by (with_reducible repeat (first | refine blk_drewN ?_ _ | refine blk_drew ?_ | refine blk_alloc ?_ _)); exact BK262.out⟩, ⟨by (with_reducible repeat (first | refine blk_drewN ?_ _ | refine blk_drew ?_ | refine blk_alloc ?_ _)); exact BK271.out⟩, ⟨by repeat (first | (with_reducible first | exact HB.out | apply below_alloc | apply pw_below_drewN | apply below_drew1 | refine below_set ?_ GE252.out | refine below_set ?_ GE257.out | refine below_set ?_ GE262.out | refine below_set ?_ GE271.out) | exact HB.out)⟩⟩
       case rest => as_aux_lemma =>
        clear HC69
        (try clear c1); (try clear c2); (try clear p2); (try clear q2); (try clear hx2); (try clear c3); (try clear c4); (try clear c5); (try clear c6); (try clear p6); (try clear c7); (try clear c8); (try clear c8b0); (try clear c8b1); (try clear c13); (try clear c15); (try clear c16); (try clear c16b0); (try clear c16b1); (try clear c17); (try clear c21); (try clear c25); (try clear c25b0); (try clear c26)
        (try clear p26); (try clear q26); (try clear hx26); (try clear c27); (try clear c27b0); (try clear p27); (try clear q27); (try clear hx27); (try clear c28); (try clear c28b0); (try clear c29); (try clear c30); (try clear c30b0); (try clear c31); (try clear c31b0); (try clear c38); (try clear c38b0); (try clear c39); (try clear c39b0); (try clear c41); (try clear c42); (try clear c42b0); (try clear c43)
        (try clear c43b0); (try clear c44); (try clear c44b0); (try clear c44b1); (try clear c45); (try clear c45b0); (try clear c45b1); (try clear c51); (try clear c52); (try clear c55); (try clear c56); (try clear c57); (try clear c59); (try clear c59b0); (try clear c60); (try clear c60b0); (try clear c61); (try clear c61b0); (try clear c62); (try clear c62b0); (try clear c63); (try clear c63b0)
        (try clear c64); (try clear c64b0); (try clear p64); (try clear c71); (try clear c71b0); (try clear c71b1); (try clear c72); (try clear c72b0); (try clear c72b1); (try clear c72b2); (try clear hcz14_0); (try clear hcz14_1); (try clear hcz14_2); (try clear hcz22_0); (try clear hcz22_1); (try clear hcz22_2); (try clear hcz53_0); (try clear hcz53_1); (try clear hcz53_2); (try clear hcz53_3); (try clear hcz53_4)
        (try clear hcz53_5); (try clear hcz58_0); (try clear hcz58_1); (try clear hcz58_2); (try clear hcz58_3); (try clear hcz58_4); (try clear hcz58_5); (try clear hfz14_0); (try clear hfz14_1); (try clear hfz14_2); (try clear hfz22_0); (try clear hfz22_1); (try clear hfz22_2); (try clear hfz53_0); (try clear hfz53_1); (try clear hfz53_2); (try clear hfz53_3); (try clear hfz53_4); (try clear hfz53_5)
        (try clear hfz58_0); (try clear hfz58_1); (try clear hfz58_2); (try clear hfz58_3); (try clear hfz58_4); (try clear hfz58_5); (try clear hx266_0); (try clear hx266_1); (try clear hx266_2); (try clear hx266_3); (try clear hx269_0); (try clear hx269_1); (try clear hx269_2); (try clear hx269_3); (try clear hx269_4); (try clear hx269_5); (try clear hx270_0); (try clear hx270_1); (try clear hx270_2)
        (try clear hx270_3); (try clear hx270_4); (try clear hx270_5); (try clear hx272_0); (try clear hx272_1); (try clear hx272_2); (try clear hx273_0); (try clear hx273_1); (try clear hx273_2); (try clear hx274_0); (try clear hx274_1); (try clear hx274_2); (try clear hx275_0); (try clear hx275_1); (try clear hx275_2); (try clear hx276_0); (try clear hx276_1); (try clear hx276_2); (try clear p2)
        (try clear p26); (try clear p266); (try clear p269); (try clear p27); (try clear p270); (try clear p272); (try clear p273); (try clear p274); (try clear p275); (try clear p276); (try clear p6); (try clear q2); (try clear q26); (try clear q266); (try clear q269); (try clear q27); (try clear q270); (try clear q272); (try clear q273); (try clear q274); (try clear q275); (try clear q276)
        obtain ⟨kq, x175_68, rfl, HA, HJ68, HO_13, BK252, BK257, BK262, BK271, HB⟩ := hcut
        cases kq with
        | zero => exact absurd HA.out (by simp [ambidextertop_TopTimetable.j3])
        | succ kj68 =>
         have H := HA.out
         clear HA
         simp only [ambidextertop_TopTimetable.j3] at H
         by_cases c79 : x175_68 = true
         ·
          subst c79
          have H1 : (some false) = some r := by rw [if_pos rfl] at H; exact H
          clear H
          have H := H1
          clear H1
          exact absurd HT.out (by rw [← Option.some.inj H]; decide)
         replace c79 := Bool.eq_false_iff.mpr c79
         subst c79
         have H1 : ((timetable_PositionsAt.f x263000_1 x263001_1 x263002_1 x263003_1 x263004_1 x263005_1 t258 0).bind fun bt278 => (ambidextertop_TopTimetable.l3 kj68 true t258 x18_2 1 t254 t255 t256 x263000_1 x263001_1 x263002_1 x263003_1 x263004_1 x263005_1 x272000_3 x272001_3 x272002_3 x272003_3 x272004_3 x272005_3 bt278.1 bt278.2.1 bt278.2.2.1 bt278.2.2.2.1 bt278.2.2.2.2.1 bt278.2.2.2.2.2)) = some r := by rw [if_neg (show ¬ (false = true) by decide)] at H; exact H
         clear H
         have H := H1
         clear H1
         replace H := Option.bind_eq_some_iff.mp H
         obtain ⟨⟨t278, t279, t280, t281, t282, t283⟩, A800, H⟩ := H
         replace H : (ambidextertop_TopTimetable.l3 kj68 true t258 x18_2 1 t254 t255 t256 x263000_1 x263001_1 x263002_1 x263003_1 x263004_1 x263005_1 x272000_3 x272001_3 x272002_3 x272003_3 x272004_3 x272005_3 t278 t279 t280 t281 t282 t283) = some r := H
         have A80 := Aside0.mk A800
         clear A800
         have H' := Aside0.mk H
         clear H
         have hnb81 := NB262_252.out
         have hnc81 := NB252_262.out
         have hnb82 := NB262_257.out
         have hnc82 := NB257_262.out
         have hnb83 := NB262_271.out
         have hnc83 := NB271_262.out
         have hcz84_0 : wc.cell? ⟨gb262, 0, none⟩ = some (.int .i64 x263000_1) := (blk_cell BK262.out 0).trans rfl
         have hcz84_1 : wc.cell? ⟨gb262, 1, none⟩ = some (.int .i64 x263001_1) := (blk_cell BK262.out 1).trans rfl
         have hcz84_2 : wc.cell? ⟨gb262, 2, none⟩ = some (.int .i64 x263002_1) := (blk_cell BK262.out 2).trans rfl
         have hcz84_3 : wc.cell? ⟨gb262, 3, none⟩ = some (.int .i64 x263003_1) := (blk_cell BK262.out 3).trans rfl
         have hcz84_4 : wc.cell? ⟨gb262, 4, none⟩ = some (.int .i64 x263004_1) := (blk_cell BK262.out 4).trans rfl
         have hcz84_5 : wc.cell? ⟨gb262, 5, none⟩ = some (.int .i64 x263005_1) := (blk_cell BK262.out 5).trans rfl
         have hfz84_0 := blk_frozen BK262.out 0
         have hfz84_1 := blk_frozen BK262.out 1
         have hfz84_2 := blk_frozen BK262.out 2
         have hfz84_3 := blk_frozen BK262.out 3
         have hfz84_4 := blk_frozen BK262.out 4
         have hfz84_5 := blk_frozen BK262.out 5
         obtain ⟨Ao85, co85, eo85⟩ := Kd.S_slice HO_13.out
         subst eo85
         go_wp2_with (first | ((with_reducible refine gate_callee (f := 30) rfl ?_); refine goesL_ (some 178) rfl rfl Try.func30 (by kernel_rfl) rfl #[.agg #[.int .i64 x263000_1, .int .i64 x263001_1, .int .i64 x263002_1, .int .i64 x263003_1, .int .i64 x263004_1, .int .i64 x263005_1], .slice Ao85 t258.length co85, .int .i64 0] rfl (by (try simp only [List.map_toArray, List.map_cons, List.map_nil]); first | done | rfl | (simp only [List.length_drop, List.length_take]; rfl)) ?_; (with_reducible refine (timetable_PositionsAt.calls x263000_1 x263001_1 x263002_1 x263003_1 x263004_1 x263005_1 _ _ t258 0 t278 t279 t280 t281 t282 t283 _ ?side1 ?side2 A80.out).mono ?_); (case side1 => repeat (first | exact (Kd.S_reads' HO_13.out).2.2 | (with_reducible refine Kd.C_alloc ?_ _) | (with_reducible refine Kd.C_drewN ?_ _) | (with_reducible refine Kd.C_drew ?_))); (case side2 => exact (Kd.S_reads' HO_13.out).2.1); rintro e w86 ⟨rfl, hb⟩; refine ⟨_, rfl, ?_⟩; have n0_ := Aside0.mk (Kd.S_below (by (with_reducible repeat (first | apply Kd.S_alloc | apply Kd.S_drewN | apply Kd.S_drew)); exact HO_13.out) hb); have n1_ := Aside0.mk (blk_below (g := gb252) (o := .cells #[.int .u8 a4_0, .int .u8 a4_1, .int .u8 a4_2, .int .u8 a4_3, .int .u8 a4_4, .int .u8 a4_5] 52 (0, 0)) (by (with_reducible repeat (first | refine blk_drewN ?_ _ | refine blk_drew ?_ | refine blk_alloc ?_ _)); exact BK252.out) hb); have n2_ := Aside0.mk (blk_below (g := gb257) (o := .cells #[.int .i64 t254, .int .i64 t255, .int .i64 t256] 25 (0, 0)) (by (with_reducible repeat (first | refine blk_drewN ?_ _ | refine blk_drew ?_ | refine blk_alloc ?_ _)); exact BK257.out) hb); have n3_ := Aside0.mk (blk_below (g := gb262) (o := .cells #[.int .i64 x263000_1, .int .i64 x263001_1, .int .i64 x263002_1, .int .i64 x263003_1, .int .i64 x263004_1, .int .i64 x263005_1] 59 (0, 0)) (by (with_reducible repeat (first | refine blk_drewN ?_ _ | refine blk_drew ?_ | refine blk_alloc ?_ _)); exact BK262.out) hb); have n4_ := Aside0.mk (blk_below (g := gb271) (o := .cells #[.int .i64 x272000_3, .int .i64 x272001_3, .int .i64 x272002_3, .int .i64 x272003_3, .int .i64 x272004_3, .int .i64 x272005_3] 59 (0, 0)) (by (with_reducible repeat (first | refine blk_drewN ?_ _ | refine blk_drew ?_ | refine blk_alloc ?_ _)); exact BK271.out) hb); have n5_ := Aside0.mk (below_step (by repeat (first | (with_reducible first | exact HB.out | apply below_alloc | apply pw_below_drewN | apply below_drew1 | refine below_set ?_ GE252.out | refine below_set ?_ GE257.out | refine below_set ?_ GE262.out | refine below_set ?_ GE271.out) | exact HB.out)) hb); clear HO_13; clear BK252; clear BK257; clear BK262; clear BK271; clear HB; have HO_13 := n0_; have BK252 := n1_; have BK257 := n2_; have BK262 := n3_; have BK271 := n4_; have HB := n5_; clear n0_ n1_ n2_ n3_ n4_ n5_; (try clear hb); (try clear hb2); (try clear hk); (try clear hi)) | ((with_reducible refine gate_dst (N := 24) rfl ?_); (try (refine gate_guard (by rfl) ?_; dsimp only)); refine box_event ?hg (N := 24) ?hd (cs := #[.int .i64 0, .int .i64 0, .int .i64 0, .int .i64 0, .int .i64 0, .int .i64 0]) (t := 69) ?hr ?_; (case hd => rfl); (case hg => rfl); (case hr => first | (go_simp; done) | (go_simp; rfl)); intro gb284 hg w87 hbox hb; have n0_ := Aside0.mk (Kd.S_below (by (with_reducible repeat (first | apply Kd.S_alloc | apply Kd.S_drewN | apply Kd.S_drew)); exact HO_13.out) hb); have n1_ := Aside0.mk (blk_below (g := gb252) (o := .cells #[.int .u8 a4_0, .int .u8 a4_1, .int .u8 a4_2, .int .u8 a4_3, .int .u8 a4_4, .int .u8 a4_5] 52 (0, 0)) (by (with_reducible repeat (first | refine blk_drewN ?_ _ | refine blk_drew ?_ | refine blk_alloc ?_ _)); exact BK252.out) hb); have n2_ := Aside0.mk (blk_below (g := gb257) (o := .cells #[.int .i64 t254, .int .i64 t255, .int .i64 t256] 25 (0, 0)) (by (with_reducible repeat (first | refine blk_drewN ?_ _ | refine blk_drew ?_ | refine blk_alloc ?_ _)); exact BK257.out) hb); have n3_ := Aside0.mk (blk_below (g := gb262) (o := .cells #[.int .i64 x263000_1, .int .i64 x263001_1, .int .i64 x263002_1, .int .i64 x263003_1, .int .i64 x263004_1, .int .i64 x263005_1] 59 (0, 0)) (by (with_reducible repeat (first | refine blk_drewN ?_ _ | refine blk_drew ?_ | refine blk_alloc ?_ _)); exact BK262.out) hb); have n4_ := Aside0.mk (blk_below (g := gb271) (o := .cells #[.int .i64 x272000_3, .int .i64 x272001_3, .int .i64 x272002_3, .int .i64 x272003_3, .int .i64 x272004_3, .int .i64 x272005_3] 59 (0, 0)) (by (with_reducible repeat (first | refine blk_drewN ?_ _ | refine blk_drew ?_ | refine blk_alloc ?_ _)); exact BK271.out) hb); have n5_ := Aside0.mk (below_step (by repeat (first | (with_reducible first | exact HB.out | apply below_alloc | apply pw_below_drewN | apply below_drew1 | refine below_set ?_ GE252.out | refine below_set ?_ GE257.out | refine below_set ?_ GE262.out | refine below_set ?_ GE271.out) | exact HB.out)) hb); have n6_ := Aside0.mk (hbox); have n7_ := Aside0.mk ((by rw [hg]; exact (below_size (by repeat (first | (with_reducible first | exact HB.out | apply below_alloc | apply pw_below_drewN | apply below_drew1 | refine below_set ?_ GE252.out | refine below_set ?_ GE257.out | refine below_set ?_ GE262.out | refine below_set ?_ GE271.out) | exact HB.out))) : w.heap.size ≤ gb284)); have n8_ := Aside0.mk ((by rw [hg]; exact (below_size (by repeat (first | (with_reducible first | exact HB.out | apply below_alloc | apply pw_below_drewN | apply below_drew1 | refine below_set ?_ GE252.out | refine below_set ?_ GE257.out | refine below_set ?_ GE262.out | refine below_set ?_ GE271.out) | exact HB.out))) : w.heap.size ≤ gb284)); have n9_ := Aside0.mk ((by rw [hg]; exact Nat.ne_of_lt (blk_lt (g := gb252) (o := .cells #[.int .u8 a4_0, .int .u8 a4_1, .int .u8 a4_2, .int .u8 a4_3, .int .u8 a4_4, .int .u8 a4_5] 52 (0, 0)) (by (with_reducible repeat (first | refine blk_drewN ?_ _ | refine blk_drew ?_ | refine blk_alloc ?_ _)); exact BK252.out)) : gb252 ≠ gb284)); have n10_ := Aside0.mk ((by rw [hg]; exact Nat.ne_of_gt (blk_lt (g := gb252) (o := .cells #[.int .u8 a4_0, .int .u8 a4_1, .int .u8 a4_2, .int .u8 a4_3, .int .u8 a4_4, .int .u8 a4_5] 52 (0, 0)) (by (with_reducible repeat (first | refine blk_drewN ?_ _ | refine blk_drew ?_ | refine blk_alloc ?_ _)); exact BK252.out)) : gb284 ≠ gb252)); have n11_ := Aside0.mk ((by rw [hg]; exact Nat.ne_of_lt (blk_lt (g := gb257) (o := .cells #[.int .i64 t254, .int .i64 t255, .int .i64 t256] 25 (0, 0)) (by (with_reducible repeat (first | refine blk_drewN ?_ _ | refine blk_drew ?_ | refine blk_alloc ?_ _)); exact BK257.out)) : gb257 ≠ gb284)); have n12_ := Aside0.mk ((by rw [hg]; exact Nat.ne_of_gt (blk_lt (g := gb257) (o := .cells #[.int .i64 t254, .int .i64 t255, .int .i64 t256] 25 (0, 0)) (by (with_reducible repeat (first | refine blk_drewN ?_ _ | refine blk_drew ?_ | refine blk_alloc ?_ _)); exact BK257.out)) : gb284 ≠ gb257)); have n13_ := Aside0.mk ((by rw [hg]; exact Nat.ne_of_lt (blk_lt (g := gb262) (o := .cells #[.int .i64 x263000_1, .int .i64 x263001_1, .int .i64 x263002_1, .int .i64 x263003_1, .int .i64 x263004_1, .int .i64 x263005_1] 59 (0, 0)) (by (with_reducible repeat (first | refine blk_drewN ?_ _ | refine blk_drew ?_ | refine blk_alloc ?_ _)); exact BK262.out)) : gb262 ≠ gb284)); have n14_ := Aside0.mk ((by rw [hg]; exact Nat.ne_of_gt (blk_lt (g := gb262) (o := .cells #[.int .i64 x263000_1, .int .i64 x263001_1, .int .i64 x263002_1, .int .i64 x263003_1, .int .i64 x263004_1, .int .i64 x263005_1] 59 (0, 0)) (by (with_reducible repeat (first | refine blk_drewN ?_ _ | refine blk_drew ?_ | refine blk_alloc ?_ _)); exact BK262.out)) : gb284 ≠ gb262)); have n15_ := Aside0.mk ((by rw [hg]; exact Nat.ne_of_lt (blk_lt (g := gb271) (o := .cells #[.int .i64 x272000_3, .int .i64 x272001_3, .int .i64 x272002_3, .int .i64 x272003_3, .int .i64 x272004_3, .int .i64 x272005_3] 59 (0, 0)) (by (with_reducible repeat (first | refine blk_drewN ?_ _ | refine blk_drew ?_ | refine blk_alloc ?_ _)); exact BK271.out)) : gb271 ≠ gb284)); have n16_ := Aside0.mk ((by rw [hg]; exact Nat.ne_of_gt (blk_lt (g := gb271) (o := .cells #[.int .i64 x272000_3, .int .i64 x272001_3, .int .i64 x272002_3, .int .i64 x272003_3, .int .i64 x272004_3, .int .i64 x272005_3] 59 (0, 0)) (by (with_reducible repeat (first | refine blk_drewN ?_ _ | refine blk_drew ?_ | refine blk_alloc ?_ _)); exact BK271.out)) : gb284 ≠ gb271)); clear HO_13; clear BK252; clear BK257; clear BK262; clear BK271; clear HB; have HO_13 := n0_; have BK252 := n1_; have BK257 := n2_; have BK262 := n3_; have BK271 := n4_; have HB := n5_; have BK284 := n6_; have GW284 := n7_; have GE284 := n8_; have NB252_284 := n9_; have NB284_252 := n10_; have NB257_284 := n11_; have NB284_257 := n12_; have NB262_284 := n13_; have NB284_262 := n14_; have NB271_284 := n15_; have NB284_271 := n16_; clear n0_ n1_ n2_ n3_ n4_ n5_ n6_ n7_ n8_ n9_ n10_ n11_ n12_ n13_ n14_ n15_ n16_; clear hb hbox hg; have hnb88 := NB284_252.out; have hnc88 := NB252_284.out; have hnb89 := NB284_257.out; have hnc89 := NB257_284.out; have hnb90 := NB284_262.out; have hnc90 := NB262_284.out; have hnb91 := NB284_271.out; have hnc91 := NB271_284.out; have hcz92_0 : w87.cell? ⟨gb284, 0, none⟩ = some (.int .i64 0) := (blk_cell BK284.out 0).trans rfl; have hcz92_1 : w87.cell? ⟨gb284, 1, none⟩ = some (.int .i64 0) := (blk_cell BK284.out 1).trans rfl; have hcz92_2 : w87.cell? ⟨gb284, 2, none⟩ = some (.int .i64 0) := (blk_cell BK284.out 2).trans rfl; have hcz92_3 : w87.cell? ⟨gb284, 3, none⟩ = some (.int .i64 0) := (blk_cell BK284.out 3).trans rfl; have hcz92_4 : w87.cell? ⟨gb284, 4, none⟩ = some (.int .i64 0) := (blk_cell BK284.out 4).trans rfl; have hcz92_5 : w87.cell? ⟨gb284, 5, none⟩ = some (.int .i64 0) := (blk_cell BK284.out 5).trans rfl; have hfz92_0 := blk_frozen BK284.out 0; have hfz92_1 := blk_frozen BK284.out 1; have hfz92_2 := blk_frozen BK284.out 2; have hfz92_3 := blk_frozen BK284.out 3; have hfz92_4 := blk_frozen BK284.out 4; have hfz92_5 := blk_frozen BK284.out 5))
         go_loopg [25] kj68 (fun kq v25 w' => ∃ (x25_5 : Int) (x285000_5 : Int) (x285001_5 : Int) (x285002_5 : Int) (x285003_5 : Int) (x285004_5 : Int) (x285005_5 : Int), v25 = .int .i64 x25_5 ∧ Aside0 (ambidextertop_TopTimetable.l3 kq true t258 x18_2 x25_5 t254 t255 t256 x263000_1 x263001_1 x263002_1 x263003_1 x263004_1 x263005_1 x272000_3 x272001_3 x272002_3 x272003_3 x272004_3 x272005_3 x285000_5 x285001_5 x285002_5 x285003_5 x285004_5 x285005_5 = some r) ∧ Aside0 (kq ≤ kj68) ∧ Aside0 (Kd.S k67 67 w' w.heap.size (fun _ => True) (.slice Ao85 t258.length co85) t258) ∧ Aside0 (w'.heap[gb252]? = some (.cells #[.int .u8 a4_0, .int .u8 a4_1, .int .u8 a4_2, .int .u8 a4_3, .int .u8 a4_4, .int .u8 a4_5] 52 (0, 0))) ∧ Aside0 (w'.heap[gb257]? = some (.cells #[.int .i64 t254, .int .i64 t255, .int .i64 t256] 25 (0, 0))) ∧ Aside0 (w'.heap[gb262]? = some (.cells #[.int .i64 x263000_1, .int .i64 x263001_1, .int .i64 x263002_1, .int .i64 x263003_1, .int .i64 x263004_1, .int .i64 x263005_1] 59 (0, 0))) ∧ Aside0 (w'.heap[gb271]? = some (.cells #[.int .i64 x272000_3, .int .i64 x272001_3, .int .i64 x272002_3, .int .i64 x272003_3, .int .i64 x272004_3, .int .i64 x272005_3] 59 (0, 0))) ∧ Aside0 (w'.heap[gb284]? = some (.cells #[.int .i64 x285000_5, .int .i64 x285001_5, .int .i64 x285002_5, .int .i64 x285003_5, .int .i64 x285004_5, .int .i64 x285005_5] 69 (0, 0))) ∧ Aside0 (Below w.heap.size w w'))
         case atStart => exact ⟨(1), (t278), (t279), (t280), (t281), (t282), (t283), (by first | rfl | (simp; done) | (simp [*]; done)), H', ⟨Nat.le_refl _⟩, ⟨by (with_reducible repeat (first | apply Kd.S_alloc | apply Kd.S_drewN | apply Kd.S_drew)); exact Kd.S_mono (Kd.S_far (p := ⟨gb284, 5, none⟩) (Kd.S_far (p := ⟨gb284, 4, none⟩) (Kd.S_far (p := ⟨gb284, 3, none⟩) (Kd.S_far (p := ⟨gb284, 2, none⟩) (Kd.S_far (p := ⟨gb284, 1, none⟩) (Kd.S_far (p := ⟨gb284, 0, none⟩) (Kd.S_types HO_13.out BK284.out (by decide)) (fun _ hk => hk.2) (.int .i64 t278)) (fun _ hk => hk.2) (.int .i64 t279)) (fun _ hk => hk.2) (.int .i64 t280)) (fun _ hk => hk.2) (.int .i64 t281)) (fun _ hk => hk.2) (.int .i64 t282)) (fun _ hk => hk.2) (.int .i64 t283)) (fun _ hk => trivial)⟩, ⟨by (with_reducible repeat (first | refine blk_drewN ?_ _ | refine blk_drew ?_ | refine blk_alloc ?_ _)); refine blk_far ?_ NB252_284.out _; (with_reducible repeat (first | refine blk_drewN ?_ _ | refine blk_drew ?_ | refine blk_alloc ?_ _)); refine blk_far ?_ NB252_284.out _; (with_reducible repeat (first | refine blk_drewN ?_ _ | refine blk_drew ?_ | refine blk_alloc ?_ _)); refine blk_far ?_ NB252_284.out _; (with_reducible repeat (first | refine blk_drewN ?_ _ | refine blk_drew ?_ | refine blk_alloc ?_ _)); refine blk_far ?_ NB252_284.out _; (with_reducible repeat (first | refine blk_drewN ?_ _ | refine blk_drew ?_ | refine blk_alloc ?_ _)); refine blk_far ?_ NB252_284.out _; (with_reducible repeat (first | refine blk_drewN ?_ _ | refine blk_drew ?_ | refine blk_alloc ?_ _)); refine blk_far ?_ NB252_284.out _; (with_reducible repeat (first | refine blk_drewN ?_ _ | refine blk_drew ?_ | refine blk_alloc ?_ _)); exact BK252.out⟩, ⟨by (with_reducible repeat (first | refine blk_drewN ?_ _ | refine blk_drew ?_ | refine blk_alloc ?_ _)); refine blk_far ?_ NB257_284.out _; (with_reducible repeat (first | refine blk_drewN ?_ _ | refine blk_drew ?_ | refine blk_alloc ?_ _)); refine blk_far ?_ NB257_284.out _; (with_reducible repeat (first | refine blk_drewN ?_ _ | refine blk_drew ?_ | refine blk_alloc ?_ _)); refine blk_far ?_ NB257_284.out _; (with_reducible repeat (first | refine blk_drewN ?_ _ | refine blk_drew ?_ | refine blk_alloc ?_ _)); refine blk_far ?_ NB257_284.out _; (with_reducible repeat (first | refine blk_drewN ?_ _ | refine blk_drew ?_ | refine blk_alloc ?_ _)); refine blk_far ?_ NB257_284.out _; (with_reducible repeat (first | refine blk_drewN ?_ _ | refine blk_drew ?_ | refine blk_alloc ?_ _)); refine blk_far ?_ NB257_284.out _; (with_reducible repeat (first | refine blk_drewN ?_ _ | refine blk_drew ?_ | refine blk_alloc ?_ _)); exact BK257.out⟩, ⟨by (with_reducible repeat (first | refine blk_drewN ?_ _ | refine blk_drew ?_ | refine blk_alloc ?_ _)); refine blk_far ?_ NB262_284.out _; (with_reducible repeat (first | refine blk_drewN ?_ _ | refine blk_drew ?_ | refine blk_alloc ?_ _)); refine blk_far ?_ NB262_284.out _; (with_reducible repeat (first | refine blk_drewN ?_ _ | refine blk_drew ?_ | refine blk_alloc ?_ _)); refine blk_far ?_ NB262_284.out _; (with_reducible repeat (first | refine blk_drewN ?_ _ | refine blk_drew ?_ | refine blk_alloc ?_ _)); refine blk_far ?_ NB262_284.out _; (with_reducible repeat (first | refine blk_drewN ?_ _ | refine blk_drew ?_ | refine blk_alloc ?_ _)); refine blk_far ?_ NB262_284.out _; (with_reducible repeat (first | refine blk_drewN ?_ _ | refine blk_drew ?_ | refine blk_alloc ?_ _)); refine blk_far ?_ NB262_284.out _; (with_reducible repeat (first | refine blk_drewN ?_ _ | refine blk_drew ?_ | refine blk_alloc ?_ _)); exact BK262.out⟩, ⟨by (with_reducible repeat (first | refine blk_drewN ?_ _ | refine blk_drew ?_ | refine blk_alloc ?_ _)); refine blk_far ?_ NB271_284.out _; (with_reducible repeat (first | refine blk_drewN ?_ _ | refine blk_drew ?_ | refine blk_alloc ?_ _)); refine blk_far ?_ NB271_284.out _; (with_reducible repeat (first | refine blk_drewN ?_ _ | refine blk_drew ?_ | refine blk_alloc ?_ _)); refine blk_far ?_ NB271_284.out _; (with_reducible repeat (first | refine blk_drewN ?_ _ | refine blk_drew ?_ | refine blk_alloc ?_ _)); refine blk_far ?_ NB271_284.out _; (with_reducible repeat (first | refine blk_drewN ?_ _ | refine blk_drew ?_ | refine blk_alloc ?_ _)); refine blk_far ?_ NB271_284.out _; (with_reducible repeat (first | refine blk_drewN ?_ _ | refine blk_drew ?_ | refine blk_alloc ?_ _)); refine blk_far ?_ NB271_284.out _; (with_reducible repeat (first | refine blk_drewN ?_ _ | refine blk_drew ?_ | refine blk_alloc ?_ _)); exact BK271.out⟩, ⟨by (with_reducible repeat (first | refine blk_drewN ?_ _ | refine blk_drew ?_ | refine blk_alloc ?_ _)); refine blk_put (cs := #[.int .i64 t278, .int .i64 t279, .int .i64 t280, .int .i64 t281, .int .i64 t282, .int .i64 0]) ?_ 5 _ rfl; (with_reducible repeat (first | refine blk_drewN ?_ _ | refine blk_drew ?_ | refine blk_alloc ?_ _)); refine blk_put (cs := #[.int .i64 t278, .int .i64 t279, .int .i64 t280, .int .i64 t281, .int .i64 0, .int .i64 0]) ?_ 4 _ rfl; (with_reducible repeat (first | refine blk_drewN ?_ _ | refine blk_drew ?_ | refine blk_alloc ?_ _)); refine blk_put (cs := #[.int .i64 t278, .int .i64 t279, .int .i64 t280, .int .i64 0, .int .i64 0, .int .i64 0]) ?_ 3 _ rfl; (with_reducible repeat (first | refine blk_drewN ?_ _ | refine blk_drew ?_ | refine blk_alloc ?_ _)); refine blk_put (cs := #[.int .i64 t278, .int .i64 t279, .int .i64 0, .int .i64 0, .int .i64 0, .int .i64 0]) ?_ 2 _ rfl; (with_reducible repeat (first | refine blk_drewN ?_ _ | refine blk_drew ?_ | refine blk_alloc ?_ _)); refine blk_put (cs := #[.int .i64 t278, .int .i64 0, .int .i64 0, .int .i64 0, .int .i64 0, .int .i64 0]) ?_ 1 _ rfl; (with_reducible repeat (first | refine blk_drewN ?_ _ | refine blk_drew ?_ | refine blk_alloc ?_ _)); refine blk_put (cs := #[.int .i64 0, .int .i64 0, .int .i64 0, .int .i64 0, .int .i64 0, .int .i64 0]) ?_ 0 _ rfl; (with_reducible repeat (first | refine blk_drewN ?_ _ | refine blk_drew ?_ | refine blk_alloc ?_ _)); exact BK284.out⟩, ⟨by repeat (first | (with_reducible first | exact HB.out | apply below_alloc | apply pw_below_drewN | apply below_drew1 | refine below_set ?_ GE252.out | refine below_set ?_ GE257.out | refine below_set ?_ GE262.out | refine below_set ?_ GE271.out | refine below_set ?_ GE284.out) | exact HB.out)⟩⟩
         case round => as_aux_lemma =>
          clear H'
          (try clear c1); (try clear c2); (try clear p2); (try clear q2); (try clear hx2); (try clear c3); (try clear c4); (try clear c5); (try clear c6); (try clear p6); (try clear c7); (try clear c8); (try clear c8b0); (try clear c8b1); (try clear c9); (try clear c13); (try clear c15); (try clear c16); (try clear c16b0); (try clear c16b1); (try clear c17); (try clear c21); (try clear c25); (try clear c25b0)
          (try clear c26); (try clear p26); (try clear q26); (try clear hx26); (try clear c27); (try clear c27b0); (try clear p27); (try clear q27); (try clear hx27); (try clear c28); (try clear c28b0); (try clear c29); (try clear c30); (try clear c30b0); (try clear c31); (try clear c31b0); (try clear c38); (try clear c38b0); (try clear c39); (try clear c39b0); (try clear c41); (try clear c42); (try clear c42b0)
          (try clear c43); (try clear c43b0); (try clear c44); (try clear c44b0); (try clear c44b1); (try clear c45); (try clear c45b0); (try clear c45b1); (try clear c51); (try clear c52); (try clear c55); (try clear c56); (try clear c57); (try clear c59); (try clear c59b0); (try clear c60); (try clear c60b0); (try clear c61); (try clear c61b0); (try clear c62); (try clear c62b0); (try clear c63)
          (try clear c63b0); (try clear c64); (try clear c64b0); (try clear p64); (try clear c71); (try clear c71b0); (try clear c71b1); (try clear c72); (try clear c72b0); (try clear c72b1); (try clear c72b2); (try clear c79); (try clear c81); (try clear c82); (try clear c83); (try clear c88); (try clear c89); (try clear c90); (try clear c91); (try clear hcz14_0); (try clear hcz14_1); (try clear hcz14_2)
          (try clear hcz22_0); (try clear hcz22_1); (try clear hcz22_2); (try clear hcz53_0); (try clear hcz53_1); (try clear hcz53_2); (try clear hcz53_3); (try clear hcz53_4); (try clear hcz53_5); (try clear hcz58_0); (try clear hcz58_1); (try clear hcz58_2); (try clear hcz58_3); (try clear hcz58_4); (try clear hcz58_5); (try clear hcz84_0); (try clear hcz84_1); (try clear hcz84_2); (try clear hcz84_3)
          (try clear hcz84_4); (try clear hcz84_5); (try clear hcz92_0); (try clear hcz92_1); (try clear hcz92_2); (try clear hcz92_3); (try clear hcz92_4); (try clear hcz92_5); (try clear hfz14_0); (try clear hfz14_1); (try clear hfz14_2); (try clear hfz22_0); (try clear hfz22_1); (try clear hfz22_2); (try clear hfz53_0); (try clear hfz53_1); (try clear hfz53_2); (try clear hfz53_3); (try clear hfz53_4)
          (try clear hfz53_5); (try clear hfz58_0); (try clear hfz58_1); (try clear hfz58_2); (try clear hfz58_3); (try clear hfz58_4); (try clear hfz58_5); (try clear hfz84_0); (try clear hfz84_1); (try clear hfz84_2); (try clear hfz84_3); (try clear hfz84_4); (try clear hfz84_5); (try clear hfz92_0); (try clear hfz92_1); (try clear hfz92_2); (try clear hfz92_3); (try clear hfz92_4); (try clear hfz92_5)
          (try clear hx266_0); (try clear hx266_1); (try clear hx266_2); (try clear hx266_3); (try clear hx269_0); (try clear hx269_1); (try clear hx269_2); (try clear hx269_3); (try clear hx269_4); (try clear hx269_5); (try clear hx270_0); (try clear hx270_1); (try clear hx270_2); (try clear hx270_3); (try clear hx270_4); (try clear hx270_5); (try clear hx272_0); (try clear hx272_1); (try clear hx272_2)
          (try clear hx273_0); (try clear hx273_1); (try clear hx273_2); (try clear hx274_0); (try clear hx274_1); (try clear hx274_2); (try clear hx275_0); (try clear hx275_1); (try clear hx275_2); (try clear hx276_0); (try clear hx276_1); (try clear hx276_2); (try clear p2); (try clear p26); (try clear p266); (try clear p269); (try clear p27); (try clear p270); (try clear p272); (try clear p273)
          (try clear p274); (try clear p275); (try clear p276); (try clear p6); (try clear p64); (try clear q2); (try clear q26); (try clear q266); (try clear q269); (try clear q27); (try clear q270); (try clear q272); (try clear q273); (try clear q274); (try clear q275); (try clear q276)
          obtain ⟨x25_5, x285000_5, x285001_5, x285002_5, x285003_5, x285004_5, x285005_5, rfl, HA, HK5, HO_13, BK252, BK257, BK262, BK271, BK284, HB⟩ := hrel
          cases gk with
          | zero => exact absurd HA.out (by simp [ambidextertop_TopTimetable.l3])
          | succ k5 =>
           have H := HA.out
           clear HA
           simp only [ambidextertop_TopTimetable.l3] at H
           by_cases c93 : x25_5 ≤ (wrap64 (x18_2 + 1))
           case neg =>
            rw [if_neg c93] at H
            have c93b0 : decide (x25_5 ≤ (wrap64 (x18_2 + 1))) = false := decide_eq_false c93
            clear c93
            have H' := Aside0.mk H
            clear H
            go_wp2
            go_loopg [30] k5 (fun kq v30 w' => ∃ (x30_6 : Int), v30 = .int .i64 x30_6 ∧ Aside0 (ambidextertop_TopTimetable.l5 kq true x30_6 x272000_3 x272001_3 x272002_3 x272003_3 x272004_3 x272005_3 x285000_5 x285001_5 x285002_5 x285003_5 x285004_5 x285005_5 = some r) ∧ Aside0 (kq ≤ k5) ∧ Aside0 (w'.heap[gb252]? = some (.cells #[.int .u8 a4_0, .int .u8 a4_1, .int .u8 a4_2, .int .u8 a4_3, .int .u8 a4_4, .int .u8 a4_5] 52 (0, 0))) ∧ Aside0 (w'.heap[gb257]? = some (.cells #[.int .i64 t254, .int .i64 t255, .int .i64 t256] 25 (0, 0))) ∧ Aside0 (w'.heap[gb262]? = some (.cells #[.int .i64 x263000_1, .int .i64 x263001_1, .int .i64 x263002_1, .int .i64 x263003_1, .int .i64 x263004_1, .int .i64 x263005_1] 59 (0, 0))) ∧ Aside0 (w'.heap[gb271]? = some (.cells #[.int .i64 x272000_3, .int .i64 x272001_3, .int .i64 x272002_3, .int .i64 x272003_3, .int .i64 x272004_3, .int .i64 x272005_3] 59 (0, 0))) ∧ Aside0 (w'.heap[gb284]? = some (.cells #[.int .i64 x285000_5, .int .i64 x285001_5, .int .i64 x285002_5, .int .i64 x285003_5, .int .i64 x285004_5, .int .i64 x285005_5] 69 (0, 0))) ∧ Aside0 (Below w.heap.size w w'))
            case atStart => exact ⟨(0), (by first | rfl | (simp; done) | (simp [*]; done)), H', ⟨Nat.le_refl _⟩, ⟨by (with_reducible repeat (first | refine blk_drewN ?_ _ | refine blk_drew ?_ | refine blk_alloc ?_ _)); exact BK252.out⟩, ⟨by (with_reducible repeat (first | refine blk_drewN ?_ _ | refine blk_drew ?_ | refine blk_alloc ?_ _)); exact BK257.out⟩, ⟨by (with_reducible repeat (first | refine blk_drewN ?_ _ | refine blk_drew ?_ | refine blk_alloc ?_ _)); exact BK262.out⟩, ⟨by (with_reducible repeat (first | refine blk_drewN ?_ _ | refine blk_drew ?_ | refine blk_alloc ?_ _)); exact BK271.out⟩, ⟨by (with_reducible repeat (first | refine blk_drewN ?_ _ | refine blk_drew ?_ | refine blk_alloc ?_ _)); exact BK284.out⟩, ⟨by repeat (first | (with_reducible first | exact HB.out | apply below_alloc | apply pw_below_drewN | apply below_drew1 | refine below_set ?_ GE252.out | refine below_set ?_ GE257.out | refine below_set ?_ GE262.out | refine below_set ?_ GE271.out | refine below_set ?_ GE284.out) | exact HB.out)⟩⟩
            case round => as_aux_lemma =>
             clear H'
             (try clear c1); (try clear c2); (try clear p2); (try clear q2); (try clear hx2); (try clear c3); (try clear c4); (try clear c5); (try clear c6); (try clear p6); (try clear c7); (try clear c8); (try clear c8b0); (try clear c8b1); (try clear c9); (try clear c10); (try clear c11); (try clear c12); (try clear c13); (try clear c14); (try clear c15); (try clear c16); (try clear c16b0); (try clear c16b1)
             (try clear c17); (try clear c21); (try clear c25); (try clear c25b0); (try clear c26); (try clear p26); (try clear q26); (try clear hx26); (try clear c27); (try clear c27b0); (try clear p27); (try clear q27); (try clear hx27); (try clear c28); (try clear c28b0); (try clear c29); (try clear c30); (try clear c30b0); (try clear c31); (try clear c31b0); (try clear c38); (try clear c38b0); (try clear c39)
             (try clear c39b0); (try clear c41); (try clear c42); (try clear c42b0); (try clear c43); (try clear c43b0); (try clear c44); (try clear c44b0); (try clear c44b1); (try clear c45); (try clear c45b0); (try clear c45b1); (try clear c51); (try clear c52); (try clear c55); (try clear c56); (try clear c57); (try clear c59); (try clear c59b0); (try clear c60); (try clear c60b0); (try clear c61)
             (try clear c61b0); (try clear c62); (try clear c62b0); (try clear c63); (try clear c63b0); (try clear c64); (try clear c64b0); (try clear p64); (try clear c71); (try clear c71b0); (try clear c71b1); (try clear c72); (try clear c72b0); (try clear c72b1); (try clear c72b2); (try clear c79); (try clear c81); (try clear c82); (try clear c83); (try clear c88); (try clear c89); (try clear c90)
             (try clear c91); (try clear c93); (try clear c93b0); (try clear c95); (try clear c96); (try clear c97); (try clear c98); (try clear c102); (try clear c103); (try clear c104); (try clear c105); (try clear c106); (try clear c108); (try clear c108b0); (try clear c110); (try clear c110b0); (try clear c111); (try clear c111b0); (try clear c113); (try clear c113b0); (try clear c114); (try clear c114b0)
             (try clear c119); (try clear c119b0); (try clear c120); (try clear c121); (try clear c122); (try clear c123); (try clear c124); (try clear c126); (try clear c127); (try clear c128); (try clear c129); (try clear c130); (try clear c132); (try clear c133); (try clear c133b0); (try clear c133b1); (try clear c134); (try clear c134b0); (try clear c135); (try clear c136); (try clear c137); (try clear c138)
             (try clear c139); (try clear c141); (try clear c142); (try clear c143); (try clear c144); (try clear hcz107_0); (try clear hcz107_1); (try clear hcz107_2); (try clear hcz107_3); (try clear hcz107_4); (try clear hcz107_5); (try clear hcz125_0); (try clear hcz125_1); (try clear hcz125_2); (try clear hcz131_0); (try clear hcz131_1); (try clear hcz131_2); (try clear hcz140_0); (try clear hcz140_1)
             (try clear hcz140_2); (try clear hcz140_3); (try clear hcz140_4); (try clear hcz140_5); (try clear hcz145_0); (try clear hcz145_1); (try clear hcz145_2); (try clear hcz145_3); (try clear hcz145_4); (try clear hcz145_5); (try clear hcz14_0); (try clear hcz14_1); (try clear hcz14_2); (try clear hcz22_0); (try clear hcz22_1); (try clear hcz22_2); (try clear hcz53_0); (try clear hcz53_1); (try clear hcz53_2)
             (try clear hcz53_3); (try clear hcz53_4); (try clear hcz53_5); (try clear hcz58_0); (try clear hcz58_1); (try clear hcz58_2); (try clear hcz58_3); (try clear hcz58_4); (try clear hcz58_5); (try clear hcz84_0); (try clear hcz84_1); (try clear hcz84_2); (try clear hcz84_3); (try clear hcz84_4); (try clear hcz84_5); (try clear hcz92_0); (try clear hcz92_1); (try clear hcz92_2); (try clear hcz92_3)
             (try clear hcz92_4); (try clear hcz92_5); (try clear hcz99_0); (try clear hcz99_1); (try clear hcz99_2); (try clear hcz99_3); (try clear hcz99_4); (try clear hcz99_5); (try clear hfz107_0); (try clear hfz107_1); (try clear hfz107_2); (try clear hfz107_3); (try clear hfz107_4); (try clear hfz107_5); (try clear hfz125_0); (try clear hfz125_1); (try clear hfz125_2); (try clear hfz131_0); (try clear hfz131_1)
             (try clear hfz131_2); (try clear hfz140_0); (try clear hfz140_1); (try clear hfz140_2); (try clear hfz140_3); (try clear hfz140_4); (try clear hfz140_5); (try clear hfz145_0); (try clear hfz145_1); (try clear hfz145_2); (try clear hfz145_3); (try clear hfz145_4); (try clear hfz145_5); (try clear hfz14_0); (try clear hfz14_1); (try clear hfz14_2); (try clear hfz22_0); (try clear hfz22_1)
             (try clear hfz22_2); (try clear hfz53_0); (try clear hfz53_1); (try clear hfz53_2); (try clear hfz53_3); (try clear hfz53_4); (try clear hfz53_5); (try clear hfz58_0); (try clear hfz58_1); (try clear hfz58_2); (try clear hfz58_3); (try clear hfz58_4); (try clear hfz58_5); (try clear hfz84_0); (try clear hfz84_1); (try clear hfz84_2); (try clear hfz84_3); (try clear hfz84_4); (try clear hfz84_5)
             (try clear hfz92_0); (try clear hfz92_1); (try clear hfz92_2); (try clear hfz92_3); (try clear hfz92_4); (try clear hfz92_5); (try clear hfz99_0); (try clear hfz99_1); (try clear hfz99_2); (try clear hfz99_3); (try clear hfz99_4); (try clear hfz99_5); (try clear hx266_0); (try clear hx266_1); (try clear hx266_2); (try clear hx266_3); (try clear hx269_0); (try clear hx269_1); (try clear hx269_2)
             (try clear hx269_3); (try clear hx269_4); (try clear hx269_5); (try clear hx270_0); (try clear hx270_1); (try clear hx270_2); (try clear hx270_3); (try clear hx270_4); (try clear hx270_5); (try clear hx272_0); (try clear hx272_1); (try clear hx272_2); (try clear hx273_0); (try clear hx273_1); (try clear hx273_2); (try clear hx274_0); (try clear hx274_1); (try clear hx274_2); (try clear hx275_0)
             (try clear hx275_1); (try clear hx275_2); (try clear hx276_0); (try clear hx276_1); (try clear hx276_2); (try clear p2); (try clear p26); (try clear p266); (try clear p269); (try clear p27); (try clear p270); (try clear p272); (try clear p273); (try clear p274); (try clear p275); (try clear p276); (try clear p6); (try clear p64); (try clear q2); (try clear q26); (try clear q266); (try clear q269)
             (try clear q27); (try clear q270); (try clear q272); (try clear q273); (try clear q274); (try clear q275); (try clear q276)
             obtain ⟨x30_6, rfl, HA, HK6, BK252, BK257, BK262, BK271, BK284, HB⟩ := hrel
             cases gk with
             | zero => exact absurd HA.out (by simp [ambidextertop_TopTimetable.l5])
             | succ k6 =>
              have H := HA.out
              clear HA
              simp only [ambidextertop_TopTimetable.l5] at H
              by_cases c146 : x30_6 < 6
              case neg =>
               rw [if_neg c146] at H
               have c146b0 : decide (x30_6 < 6) = false := decide_eq_false c146
               clear c146
               obtain rfl := Option.some.inj H
               go_wp2
               go_ret
               exact ⟨by first | rfl | (simp [errW_none, errW_some] <;> rfl) | (simp [*, errW_none, errW_some] <;> rfl), by repeat (first | (with_reducible first | exact HB.out | apply below_alloc | apply pw_below_drewN | apply below_drew1 | refine below_set ?_ GE252.out | refine below_set ?_ GE257.out | refine below_set ?_ GE262.out | refine below_set ?_ GE271.out | refine below_set ?_ GE284.out) | exact HB.out)⟩
              rw [if_pos c146] at H
              have c146b0 : decide (x30_6 < 6) = true := decide_eq_true c146
              clear c146
              obtain ⟨ji147, hji147⟩ : ∃ j_ : Int, (wrap64 (Int.tdiv x30_6 3)) = j_ := ⟨_, rfl⟩
              replace H : (if 0 ≤ (ji147) then (if (ji147) < 2 then (if 0 ≤ (Int.tmod x30_6 3) then (if (Int.tmod x30_6 3) < 3 then (if (dget [x285000_5, x285001_5, x285002_5, x285003_5, x285004_5, x285005_5] ((ji147) * 3 + (Int.tmod x30_6 3))) = (wrap64 (12 * (dget [x272000_3, x272001_3, x272002_3, x272003_3, x272004_3, x272005_3] ((ji147) * 3 + (Int.tmod x30_6 3))))) then (ambidextertop_TopTimetable.l5 k6 true (wrap64 (x30_6 + 1)) x272000_3 x272001_3 x272002_3 x272003_3 x272004_3 x272005_3 x285000_5 x285001_5 x285002_5 x285003_5 x285004_5 x285005_5) else (some false)) else (none)) else (none)) else (none)) else (none)) = some r := by first | (rw [hji147] at H; exact H) | (simp only [hji147] at H ⊢; exact H)
              have hji147w : (IntKind.i64.wrap (Int.tdiv x30_6 3)) = ji147 := (i64_w _).trans hji147
              by_cases c148 : 0 ≤ (ji147)
              case neg =>
               rw [if_neg c148] at H
               exact absurd H (by simp)
              rw [if_pos c148] at H
              have c148b0 : decide (0 ≤ (ji147)) = true := decide_eq_true c148
              clear c148
              by_cases c149 : (ji147) < 2
              case neg =>
               rw [if_neg c149] at H
               exact absurd H (by simp)
              rw [if_pos c149] at H
              have c149b0 : decide ((ji147) < 2) = true := decide_eq_true c149
              clear c149
              obtain ⟨ji150, hji150⟩ : ∃ j_ : Int, (Int.tmod x30_6 3) = j_ := ⟨_, rfl⟩
              replace H : (if 0 ≤ (ji150) then (if (ji150) < 3 then (if (dget [x285000_5, x285001_5, x285002_5, x285003_5, x285004_5, x285005_5] ((ji147) * 3 + (ji150))) = (wrap64 (12 * (dget [x272000_3, x272001_3, x272002_3, x272003_3, x272004_3, x272005_3] ((ji147) * 3 + (ji150))))) then (ambidextertop_TopTimetable.l5 k6 true (wrap64 (x30_6 + 1)) x272000_3 x272001_3 x272002_3 x272003_3 x272004_3 x272005_3 x285000_5 x285001_5 x285002_5 x285003_5 x285004_5 x285005_5) else (some false)) else (none)) else (none)) = some r := by first | (rw [hji150] at H; exact H) | (simp only [hji150] at H ⊢; exact H)
              by_cases c151 : 0 ≤ (ji150)
              case neg =>
               rw [if_neg c151] at H
               exact absurd H (by simp)
              rw [if_pos c151] at H
              have c151b0 : decide (0 ≤ (ji150)) = true := decide_eq_true c151
              clear c151
              by_cases c152 : (ji150) < 3
              case neg =>
               rw [if_neg c152] at H
               exact absurd H (by simp)
              rw [if_pos c152] at H
              have c152b0 : decide ((ji150) < 3) = true := decide_eq_true c152
              clear c152
              by_cases c153 : (dget [x285000_5, x285001_5, x285002_5, x285003_5, x285004_5, x285005_5] ((ji147) * 3 + (ji150))) = (wrap64 (12 * (dget [x272000_3, x272001_3, x272002_3, x272003_3, x272004_3, x272005_3] ((ji147) * 3 + (ji150)))))
              case neg =>
               rw [if_neg c153] at H
               have c153b0 : ((dget [x285000_5, x285001_5, x285002_5, x285003_5, x285004_5, x285005_5] ((ji147) * 3 + (ji150))) == (wrap64 (12 * (dget [x272000_3, x272001_3, x272002_3, x272003_3, x272004_3, x272005_3] ((ji147) * 3 + (ji150)))))) = false := beq_eq_false_iff_ne.mpr c153
               have c153b1 : ((dget [x285000_5, x285001_5, x285002_5, x285003_5, x285004_5, x285005_5] ((ji147) * 3 + (ji150))) != (wrap64 (12 * (dget [x272000_3, x272001_3, x272002_3, x272003_3, x272004_3, x272005_3] ((ji147) * 3 + (ji150)))))) = true := bne_iff_ne.mpr c153
               exact absurd HT.out (by rw [← Option.some.inj H]; decide)
              rw [if_pos c153] at H
              have c153b0 : ((dget [x285000_5, x285001_5, x285002_5, x285003_5, x285004_5, x285005_5] ((ji147) * 3 + (ji150))) == (wrap64 (12 * (dget [x272000_3, x272001_3, x272002_3, x272003_3, x272004_3, x272005_3] ((ji147) * 3 + (ji150)))))) = true := beq_iff_eq.mpr c153
              have c153b1 : ((dget [x285000_5, x285001_5, x285002_5, x285003_5, x285004_5, x285005_5] ((ji147) * 3 + (ji150))) != (wrap64 (12 * (dget [x272000_3, x272001_3, x272002_3, x272003_3, x272004_3, x272005_3] ((ji147) * 3 + (ji150)))))) = false := bne_eq_false_iff_eq.mpr c153
              clear c153
              have H' := Aside0.mk H
              clear H
              try go_wp2
              have n0_ := Aside0.mk (blk_drew BK252.out)
              have n1_ := Aside0.mk (blk_drew BK257.out)
              have n2_ := Aside0.mk (blk_drew BK262.out)
              have n3_ := Aside0.mk (blk_drew BK271.out)
              have n4_ := Aside0.mk (blk_drew BK284.out)
              have n5_ := Aside0.mk (below_drew1 HB.out)
              clear BK252
              clear BK257
              clear BK262
              clear BK271
              clear BK284
              clear HB
              have BK252 := n0_
              have BK257 := n1_
              have BK262 := n2_
              have BK271 := n3_
              have BK284 := n4_
              have HB := n5_
              clear n0_ n1_ n2_ n3_ n4_ n5_
              have ppd155_0 : (0 ≤ (ji147 : Int)) = True := eq_true (of_decide_eq_true (by first | (with_reducible assumption) | assumption))
              have qqd155_0 : ((ji147 : Int) < 2) = True := eq_true (of_decide_eq_true (by first | (with_reducible assumption) | assumption))
              have ppd155_1 : (0 ≤ (ji150 : Int)) = True := eq_true (of_decide_eq_true (by first | (with_reducible assumption) | assumption))
              have qqd155_1 : ((ji150 : Int) < 3) = True := eq_true (of_decide_eq_true (by first | (with_reducible assumption) | assumption))
              have ppd156_0 : (0 ≤ (ji147 : Int)) = True := eq_true (of_decide_eq_true (by first | (with_reducible assumption) | assumption))
              have qqd156_0 : ((ji147 : Int) < 2) = True := eq_true (of_decide_eq_true (by first | (with_reducible assumption) | assumption))
              have ppd156_1 : (0 ≤ (ji150 : Int)) = True := eq_true (of_decide_eq_true (by first | (with_reducible assumption) | assumption))
              have qqd156_1 : ((ji150 : Int) < 3) = True := eq_true (of_decide_eq_true (by first | (with_reducible assumption) | assumption))
              refine start_ (n := 16) (S := fun w' => w'.cell? ⟨gb284, ((ji147) : Int).toNat * 3 + ((ji150) : Int).toNat, none⟩ = some (.int .i64 (dget [x285000_5, x285001_5, x285002_5, x285003_5, x285004_5, x285005_5] ((ji147) * 3 + (ji150)))) ∧ w'.cell? ⟨gb271, ((ji147) : Int).toNat * 3 + ((ji150) : Int).toNat, none⟩ = some (.int .i64 (dget [x272000_3, x272001_3, x272002_3, x272003_3, x272004_3, x272005_3] ((ji147) * 3 + (ji150))))) (ds := []) #[O,O,O,O,O,O,O,O,O,O,O,O,O,O,O,O] (by kernel_rfl) rfl rfl ⟨(blk_cell BK284.out _).trans (dget6 (of_eq_true ppd155_0) (of_eq_true qqd155_0) (of_eq_true ppd155_1) (of_eq_true qqd155_1)), (blk_cell BK271.out _).trans (dget6 (of_eq_true ppd156_0) (of_eq_true qqd156_0) (of_eq_true ppd156_1) (of_eq_true qqd156_1))⟩ (fun hHeld => ?_); refine with_tabW ambidextertop_TopTimetable.tab49 ambidextertop_TopTimetable.bits49 (fun HT_ HW_ => ?_)
              generalize wr.drew = w154 at BK252 BK257 BK262 BK271 BK284 HB hHeld ⊢
              refine pq_ (i := 0) (N := some 230) #[I,O,O,O,O,O,O,O,O,O,O,O,O,O,O,O] HT_ ?_
              refine pq_ (i := 1) (N := some 231) #[I,I,O,O,O,O,O,O,O,O,O,O,O,O,O,O] HT_ ?_
              refine pq_ (i := 2) (N := some 232) #[I,I,I,O,O,O,O,O,O,O,O,O,O,O,O,O] HT_ ?_
              refine pq_ (i := 3) (N := some 233) #[I,I,I,I,O,O,O,O,O,O,O,O,O,O,O,O] HT_ ?_
              refine pq_ (i := 4) (N := some 234) #[I,I,I,I,I,O,O,O,O,O,O,O,O,O,O,O] HT_ ?_
              refine pq_ (i := 5) (N := some 235) #[I,I,I,I,I,I,O,O,O,O,O,O,O,O,O,O] HT_ ?_
              refine pq_ (i := 7) (N := some 237) #[I,I,I,I,I,I,O,I,O,O,O,O,O,O,O,O] HT_ ?_
              refine pq_ (i := 8) (N := some 238) #[I,I,I,I,I,I,O,I,I,O,O,O,O,O,O,O] HT_ ?_
              refine pq_ (i := 9) (N := some 239) #[I,I,I,I,I,I,O,I,I,I,O,O,O,O,O,O] HT_ ?_
              refine pq_ (i := 10) (N := some 240) #[I,I,I,I,I,I,O,I,I,I,I,O,O,O,O,O] HT_ ?_
              refine pq_ (i := 11) (N := some 241) #[I,I,I,I,I,I,O,I,I,I,I,I,O,O,O,O] HT_ ?_
              refine pq_ (i := 12) (N := some 242) #[I,I,I,I,I,I,O,I,I,I,I,I,I,O,O,O] HT_ ?_
              refine take_ (i := 6) (N := some 236) (v := ?_) (a' := ?_) #[I,I,I,I,I,I,I,I,I,I,I,I,I,O,O,O] rfl rfl (take_ofW HT_.out HW_.out (by kernel_rfl)) (fun _ _ _ h => h) (Or.inl ⟨by rfl, ?_⟩) hHeld ?_ ?_
              rotate_left; · (rintro w' ⟨s0, s1⟩; go_simp; with_reducible rfl)
              rotate_left; · (simp only [Act.put, List.setIfInBounds_toArray, List.set_cons_zero, List.set_cons_succ, i64_w, i32_w]; rfl)
              refine take_ (i := 13) (N := some 243) (v := ?_) (a' := ?_) #[I,I,I,I,I,I,I,I,I,I,I,I,I,I,O,O] rfl rfl (take_ofW HT_.out HW_.out (by kernel_rfl)) (fun _ _ _ h => h) (Or.inl ⟨by rfl, ?_⟩) hHeld ?_ ?_
              rotate_left; · (rintro w' ⟨s0, s1⟩; go_simp; with_reducible rfl)
              rotate_left; · (simp only [Act.put, List.setIfInBounds_toArray, List.set_cons_zero, List.set_cons_succ, i64_w, i32_w]; rfl)
              refine pq_ (i := 14) (N := some 244) #[I,I,I,I,I,I,I,I,I,I,I,I,I,I,I,O] HT_ ?_
              refine pq_ (i := 15) (N := some 245) #[I,I,I,I,I,I,I,I,I,I,I,I,I,I,I,I] HT_ ?_
              refine done_ (done_of HT_.out (by kernel_rfl)) ?_
              try go_wp2
              go_roundg k6
              case measure => have := HK1.out; have := HK2.out; have := HK3.out; have := HJ68.out; have := HK5.out; have := HK6.out; omega
              case rel => exact ⟨(wrap64 (x30_6 + 1)), (by first | rfl | (simp; done) | (simp [*]; done)), H', ⟨by have := HK1.out; have := HK2.out; have := HK3.out; have := HJ68.out; have := HK5.out; have := HK6.out; omega⟩, ⟨by (with_reducible repeat (first | refine blk_drewN ?_ _ | refine blk_drew ?_ | refine blk_alloc ?_ _)); exact BK252.out⟩, ⟨by (with_reducible repeat (first | refine blk_drewN ?_ _ | refine blk_drew ?_ | refine blk_alloc ?_ _)); exact BK257.out⟩, ⟨by (with_reducible repeat (first | refine blk_drewN ?_ _ | refine blk_drew ?_ | refine blk_alloc ?_ _)); exact BK262.out⟩, ⟨by (with_reducible repeat (first | refine blk_drewN ?_ _ | refine blk_drew ?_ | refine blk_alloc ?_ _)); exact BK271.out⟩, ⟨by (with_reducible repeat (first | refine blk_drewN ?_ _ | refine blk_drew ?_ | refine blk_alloc ?_ _)); exact BK284.out⟩, ⟨by repeat (first | (with_reducible first | exact HB.out | apply below_alloc | apply pw_below_drewN | apply below_drew1 | refine below_set ?_ GE252.out | refine below_set ?_ GE257.out | refine below_set ?_ GE262.out | refine below_set ?_ GE271.out | refine below_set ?_ GE284.out) | exact HB.out)⟩⟩
           rw [if_pos c93] at H
           have c93b0 : decide (x25_5 ≤ (wrap64 (x18_2 + 1))) = true := decide_eq_true c93
           clear c93
           replace H := Option.bind_eq_some_iff.mp H
           obtain ⟨⟨t285, t286, t287, t288, t289, t290⟩, A940, H⟩ := H
           replace H : (ambidextertop_TopTimetable.l4 k5 true t258 x18_2 x25_5 0 0 t254 t255 t256 x263000_1 x263001_1 x263002_1 x263003_1 x263004_1 x263005_1 x272000_3 x272001_3 x272002_3 x272003_3 x272004_3 x272005_3 x285000_5 x285001_5 x285002_5 x285003_5 x285004_5 x285005_5 t285 t286 t287 t288 t289 t290) = some r := H
           have A94 := Aside0.mk A940
           clear A940
           have H' := Aside0.mk H
           clear H
           have hnb95 := NB262_252.out
           have hnc95 := NB252_262.out
           have hnb96 := NB262_257.out
           have hnc96 := NB257_262.out
           have hnb97 := NB262_271.out
           have hnc97 := NB271_262.out
           have hnb98 := NB262_284.out
           have hnc98 := NB284_262.out
           have hcz99_0 : wr.cell? ⟨gb262, 0, none⟩ = some (.int .i64 x263000_1) := (blk_cell BK262.out 0).trans rfl
           have hcz99_1 : wr.cell? ⟨gb262, 1, none⟩ = some (.int .i64 x263001_1) := (blk_cell BK262.out 1).trans rfl
           have hcz99_2 : wr.cell? ⟨gb262, 2, none⟩ = some (.int .i64 x263002_1) := (blk_cell BK262.out 2).trans rfl
           have hcz99_3 : wr.cell? ⟨gb262, 3, none⟩ = some (.int .i64 x263003_1) := (blk_cell BK262.out 3).trans rfl
           have hcz99_4 : wr.cell? ⟨gb262, 4, none⟩ = some (.int .i64 x263004_1) := (blk_cell BK262.out 4).trans rfl
           have hcz99_5 : wr.cell? ⟨gb262, 5, none⟩ = some (.int .i64 x263005_1) := (blk_cell BK262.out 5).trans rfl
           have hfz99_0 := blk_frozen BK262.out 0
           have hfz99_1 := blk_frozen BK262.out 1
           have hfz99_2 := blk_frozen BK262.out 2
           have hfz99_3 := blk_frozen BK262.out 3
           have hfz99_4 := blk_frozen BK262.out 4
           have hfz99_5 := blk_frozen BK262.out 5
           go_wp2_with (first | ((with_reducible refine gate_callee (f := 30) rfl ?_); refine goesL_ (some 188) rfl rfl Try.func30 (by kernel_rfl) rfl #[.agg #[.int .i64 x263000_1, .int .i64 x263001_1, .int .i64 x263002_1, .int .i64 x263003_1, .int .i64 x263004_1, .int .i64 x263005_1], .slice Ao85 t258.length co85, .int .i64 x25_5] rfl (by (try simp only [List.map_toArray, List.map_cons, List.map_nil]); first | done | rfl | (simp only [List.length_drop, List.length_take]; rfl)) ?_; (with_reducible refine (timetable_PositionsAt.calls x263000_1 x263001_1 x263002_1 x263003_1 x263004_1 x263005_1 _ _ t258 x25_5 t285 t286 t287 t288 t289 t290 _ ?side1 ?side2 A94.out).mono ?_); (case side1 => repeat (first | exact (Kd.S_reads' HO_13.out).2.2 | (with_reducible refine Kd.C_alloc ?_ _) | (with_reducible refine Kd.C_drewN ?_ _) | (with_reducible refine Kd.C_drew ?_))); (case side2 => exact (Kd.S_reads' HO_13.out).2.1); rintro e w100 ⟨rfl, hb⟩; refine ⟨_, rfl, ?_⟩; have n0_ := Aside0.mk (Kd.S_below (by (with_reducible repeat (first | apply Kd.S_alloc | apply Kd.S_drewN | apply Kd.S_drew)); exact HO_13.out) hb); have n1_ := Aside0.mk (blk_below (g := gb252) (o := .cells #[.int .u8 a4_0, .int .u8 a4_1, .int .u8 a4_2, .int .u8 a4_3, .int .u8 a4_4, .int .u8 a4_5] 52 (0, 0)) (by (with_reducible repeat (first | refine blk_drewN ?_ _ | refine blk_drew ?_ | refine blk_alloc ?_ _)); exact BK252.out) hb); have n2_ := Aside0.mk (blk_below (g := gb257) (o := .cells #[.int .i64 t254, .int .i64 t255, .int .i64 t256] 25 (0, 0)) (by (with_reducible repeat (first | refine blk_drewN ?_ _ | refine blk_drew ?_ | refine blk_alloc ?_ _)); exact BK257.out) hb); have n3_ := Aside0.mk (blk_below (g := gb262) (o := .cells #[.int .i64 x263000_1, .int .i64 x263001_1, .int .i64 x263002_1, .int .i64 x263003_1, .int .i64 x263004_1, .int .i64 x263005_1] 59 (0, 0)) (by (with_reducible repeat (first | refine blk_drewN ?_ _ | refine blk_drew ?_ | refine blk_alloc ?_ _)); exact BK262.out) hb); have n4_ := Aside0.mk (blk_below (g := gb271) (o := .cells #[.int .i64 x272000_3, .int .i64 x272001_3, .int .i64 x272002_3, .int .i64 x272003_3, .int .i64 x272004_3, .int .i64 x272005_3] 59 (0, 0)) (by (with_reducible repeat (first | refine blk_drewN ?_ _ | refine blk_drew ?_ | refine blk_alloc ?_ _)); exact BK271.out) hb); have n5_ := Aside0.mk (blk_below (g := gb284) (o := .cells #[.int .i64 x285000_5, .int .i64 x285001_5, .int .i64 x285002_5, .int .i64 x285003_5, .int .i64 x285004_5, .int .i64 x285005_5] 69 (0, 0)) (by (with_reducible repeat (first | refine blk_drewN ?_ _ | refine blk_drew ?_ | refine blk_alloc ?_ _)); exact BK284.out) hb); have n6_ := Aside0.mk (below_step (by repeat (first | (with_reducible first | exact HB.out | apply below_alloc | apply pw_below_drewN | apply below_drew1 | refine below_set ?_ GE252.out | refine below_set ?_ GE257.out | refine below_set ?_ GE262.out | refine below_set ?_ GE271.out | refine below_set ?_ GE284.out) | exact HB.out)) hb); clear HO_13; clear BK252; clear BK257; clear BK262; clear BK271; clear BK284; clear HB; have HO_13 := n0_; have BK252 := n1_; have BK257 := n2_; have BK262 := n3_; have BK271 := n4_; have BK284 := n5_; have HB := n6_; clear n0_ n1_ n2_ n3_ n4_ n5_ n6_; (try clear hb); (try clear hb2); (try clear hk); (try clear hi)) | ((with_reducible refine gate_dst (N := 26) rfl ?_); (try (refine gate_guard (by rfl) ?_; dsimp only)); refine box_event ?hg (N := 26) ?hd (cs := #[.int .i64 0, .int .i64 0, .int .i64 0, .int .i64 0, .int .i64 0, .int .i64 0]) (t := 69) ?hr ?_; (case hd => rfl); (case hg => rfl); (case hr => first | (go_simp; done) | (go_simp; rfl)); intro gb291 hg w101 hbox hb; have n0_ := Aside0.mk (Kd.S_below (by (with_reducible repeat (first | apply Kd.S_alloc | apply Kd.S_drewN | apply Kd.S_drew)); exact HO_13.out) hb); have n1_ := Aside0.mk (blk_below (g := gb252) (o := .cells #[.int .u8 a4_0, .int .u8 a4_1, .int .u8 a4_2, .int .u8 a4_3, .int .u8 a4_4, .int .u8 a4_5] 52 (0, 0)) (by (with_reducible repeat (first | refine blk_drewN ?_ _ | refine blk_drew ?_ | refine blk_alloc ?_ _)); exact BK252.out) hb); have n2_ := Aside0.mk (blk_below (g := gb257) (o := .cells #[.int .i64 t254, .int .i64 t255, .int .i64 t256] 25 (0, 0)) (by (with_reducible repeat (first | refine blk_drewN ?_ _ | refine blk_drew ?_ | refine blk_alloc ?_ _)); exact BK257.out) hb); have n3_ := Aside0.mk (blk_below (g := gb262) (o := .cells #[.int .i64 x263000_1, .int .i64 x263001_1, .int .i64 x263002_1, .int .i64 x263003_1, .int .i64 x263004_1, .int .i64 x263005_1] 59 (0, 0)) (by (with_reducible repeat (first | refine blk_drewN ?_ _ | refine blk_drew ?_ | refine blk_alloc ?_ _)); exact BK262.out) hb); have n4_ := Aside0.mk (blk_below (g := gb271) (o := .cells #[.int .i64 x272000_3, .int .i64 x272001_3, .int .i64 x272002_3, .int .i64 x272003_3, .int .i64 x272004_3, .int .i64 x272005_3] 59 (0, 0)) (by (with_reducible repeat (first | refine blk_drewN ?_ _ | refine blk_drew ?_ | refine blk_alloc ?_ _)); exact BK271.out) hb); have n5_ := Aside0.mk (blk_below (g := gb284) (o := .cells #[.int .i64 x285000_5, .int .i64 x285001_5, .int .i64 x285002_5, .int .i64 x285003_5, .int .i64 x285004_5, .int .i64 x285005_5] 69 (0, 0)) (by (with_reducible repeat (first | refine blk_drewN ?_ _ | refine blk_drew ?_ | refine blk_alloc ?_ _)); exact BK284.out) hb); have n6_ := Aside0.mk (below_step (by repeat (first | (with_reducible first | exact HB.out | apply below_alloc | apply pw_below_drewN | apply below_drew1 | refine below_set ?_ GE252.out | refine below_set ?_ GE257.out | refine below_set ?_ GE262.out | refine below_set ?_ GE271.out | refine below_set ?_ GE284.out) | exact HB.out)) hb); have n7_ := Aside0.mk (hbox); have n8_ := Aside0.mk ((by rw [hg]; exact (below_size (by repeat (first | (with_reducible first | exact HB.out | apply below_alloc | apply pw_below_drewN | apply below_drew1 | refine below_set ?_ GE252.out | refine below_set ?_ GE257.out | refine below_set ?_ GE262.out | refine below_set ?_ GE271.out | refine below_set ?_ GE284.out) | exact HB.out))) : w.heap.size ≤ gb291)); have n9_ := Aside0.mk ((by rw [hg]; exact (below_size (by repeat (first | (with_reducible first | exact HB.out | apply below_alloc | apply pw_below_drewN | apply below_drew1 | refine below_set ?_ GE252.out | refine below_set ?_ GE257.out | refine below_set ?_ GE262.out | refine below_set ?_ GE271.out | refine below_set ?_ GE284.out) | exact HB.out))) : w.heap.size ≤ gb291)); have n10_ := Aside0.mk ((by rw [hg]; exact Nat.ne_of_lt (blk_lt (g := gb252) (o := .cells #[.int .u8 a4_0, .int .u8 a4_1, .int .u8 a4_2, .int .u8 a4_3, .int .u8 a4_4, .int .u8 a4_5] 52 (0, 0)) (by (with_reducible repeat (first | refine blk_drewN ?_ _ | refine blk_drew ?_ | refine blk_alloc ?_ _)); exact BK252.out)) : gb252 ≠ gb291)); have n11_ := Aside0.mk ((by rw [hg]; exact Nat.ne_of_gt (blk_lt (g := gb252) (o := .cells #[.int .u8 a4_0, .int .u8 a4_1, .int .u8 a4_2, .int .u8 a4_3, .int .u8 a4_4, .int .u8 a4_5] 52 (0, 0)) (by (with_reducible repeat (first | refine blk_drewN ?_ _ | refine blk_drew ?_ | refine blk_alloc ?_ _)); exact BK252.out)) : gb291 ≠ gb252)); have n12_ := Aside0.mk ((by rw [hg]; exact Nat.ne_of_lt (blk_lt (g := gb257) (o := .cells #[.int .i64 t254, .int .i64 t255, .int .i64 t256] 25 (0, 0)) (by (with_reducible repeat (first | refine blk_drewN ?_ _ | refine blk_drew ?_ | refine blk_alloc ?_ _)); exact BK257.out)) : gb257 ≠ gb291)); have n13_ := Aside0.mk ((by rw [hg]; exact Nat.ne_of_gt (blk_lt (g := gb257) (o := .cells #[.int .i64 t254, .int .i64 t255, .int .i64 t256] 25 (0, 0)) (by (with_reducible repeat (first | refine blk_drewN ?_ _ | refine blk_drew ?_ | refine blk_alloc ?_ _)); exact BK257.out)) : gb291 ≠ gb257)); have n14_ := Aside0.mk ((by rw [hg]; exact Nat.ne_of_lt (blk_lt (g := gb262) (o := .cells #[.int .i64 x263000_1, .int .i64 x263001_1, .int .i64 x263002_1, .int .i64 x263003_1, .int .i64 x263004_1, .int .i64 x263005_1] 59 (0, 0)) (by (with_reducible repeat (first | refine blk_drewN ?_ _ | refine blk_drew ?_ | refine blk_alloc ?_ _)); exact BK262.out)) : gb262 ≠ gb291)); have n15_ := Aside0.mk ((by rw [hg]; exact Nat.ne_of_gt (blk_lt (g := gb262) (o := .cells #[.int .i64 x263000_1, .int .i64 x263001_1, .int .i64 x263002_1, .int .i64 x263003_1, .int .i64 x263004_1, .int .i64 x263005_1] 59 (0, 0)) (by (with_reducible repeat (first | refine blk_drewN ?_ _ | refine blk_drew ?_ | refine blk_alloc ?_ _)); exact BK262.out)) : gb291 ≠ gb262)); have n16_ := Aside0.mk ((by rw [hg]; exact Nat.ne_of_lt (blk_lt (g := gb271) (o := .cells #[.int .i64 x272000_3, .int .i64 x272001_3, .int .i64 x272002_3, .int .i64 x272003_3, .int .i64 x272004_3, .int .i64 x272005_3] 59 (0, 0)) (by (with_reducible repeat (first | refine blk_drewN ?_ _ | refine blk_drew ?_ | refine blk_alloc ?_ _)); exact BK271.out)) : gb271 ≠ gb291)); have n17_ := Aside0.mk ((by rw [hg]; exact Nat.ne_of_gt (blk_lt (g := gb271) (o := .cells #[.int .i64 x272000_3, .int .i64 x272001_3, .int .i64 x272002_3, .int .i64 x272003_3, .int .i64 x272004_3, .int .i64 x272005_3] 59 (0, 0)) (by (with_reducible repeat (first | refine blk_drewN ?_ _ | refine blk_drew ?_ | refine blk_alloc ?_ _)); exact BK271.out)) : gb291 ≠ gb271)); have n18_ := Aside0.mk ((by rw [hg]; exact Nat.ne_of_lt (blk_lt (g := gb284) (o := .cells #[.int .i64 x285000_5, .int .i64 x285001_5, .int .i64 x285002_5, .int .i64 x285003_5, .int .i64 x285004_5, .int .i64 x285005_5] 69 (0, 0)) (by (with_reducible repeat (first | refine blk_drewN ?_ _ | refine blk_drew ?_ | refine blk_alloc ?_ _)); exact BK284.out)) : gb284 ≠ gb291)); have n19_ := Aside0.mk ((by rw [hg]; exact Nat.ne_of_gt (blk_lt (g := gb284) (o := .cells #[.int .i64 x285000_5, .int .i64 x285001_5, .int .i64 x285002_5, .int .i64 x285003_5, .int .i64 x285004_5, .int .i64 x285005_5] 69 (0, 0)) (by (with_reducible repeat (first | refine blk_drewN ?_ _ | refine blk_drew ?_ | refine blk_alloc ?_ _)); exact BK284.out)) : gb291 ≠ gb284)); clear HO_13; clear BK252; clear BK257; clear BK262; clear BK271; clear BK284; clear HB; have HO_13 := n0_; have BK252 := n1_; have BK257 := n2_; have BK262 := n3_; have BK271 := n4_; have BK284 := n5_; have HB := n6_; have BK291 := n7_; have GW291 := n8_; have GE291 := n9_; have NB252_291 := n10_; have NB291_252 := n11_; have NB257_291 := n12_; have NB291_257 := n13_; have NB262_291 := n14_; have NB291_262 := n15_; have NB271_291 := n16_; have NB291_271 := n17_; have NB284_291 := n18_; have NB291_284 := n19_; clear n0_ n1_ n2_ n3_ n4_ n5_ n6_ n7_ n8_ n9_ n10_ n11_ n12_ n13_ n14_ n15_ n16_ n17_ n18_ n19_; clear hb hbox hg; have hnb102 := NB291_252.out; have hnc102 := NB252_291.out; have hnb103 := NB291_257.out; have hnc103 := NB257_291.out; have hnb104 := NB291_262.out; have hnc104 := NB262_291.out; have hnb105 := NB291_271.out; have hnc105 := NB271_291.out; have hnb106 := NB291_284.out; have hnc106 := NB284_291.out; have hcz107_0 : w101.cell? ⟨gb291, 0, none⟩ = some (.int .i64 0) := (blk_cell BK291.out 0).trans rfl; have hcz107_1 : w101.cell? ⟨gb291, 1, none⟩ = some (.int .i64 0) := (blk_cell BK291.out 1).trans rfl; have hcz107_2 : w101.cell? ⟨gb291, 2, none⟩ = some (.int .i64 0) := (blk_cell BK291.out 2).trans rfl; have hcz107_3 : w101.cell? ⟨gb291, 3, none⟩ = some (.int .i64 0) := (blk_cell BK291.out 3).trans rfl; have hcz107_4 : w101.cell? ⟨gb291, 4, none⟩ = some (.int .i64 0) := (blk_cell BK291.out 4).trans rfl; have hcz107_5 : w101.cell? ⟨gb291, 5, none⟩ = some (.int .i64 0) := (blk_cell BK291.out 5).trans rfl; have hfz107_0 := blk_frozen BK291.out 0; have hfz107_1 := blk_frozen BK291.out 1; have hfz107_2 := blk_frozen BK291.out 2; have hfz107_3 := blk_frozen BK291.out 3; have hfz107_4 := blk_frozen BK291.out 4; have hfz107_5 := blk_frozen BK291.out 5))
           go_loopg [27, 28] k5 (fun kq v27 v28 w' => ∃ (x27_6 : Int) (x28_6 : Int), v27 = .int .i64 x27_6 ∧ v28 = .int .i64 x28_6 ∧ Aside0 (ambidextertop_TopTimetable.l4 kq true t258 x18_2 x25_5 x27_6 x28_6 t254 t255 t256 x263000_1 x263001_1 x263002_1 x263003_1 x263004_1 x263005_1 x272000_3 x272001_3 x272002_3 x272003_3 x272004_3 x272005_3 x285000_5 x285001_5 x285002_5 x285003_5 x285004_5 x285005_5 t285 t286 t287 t288 t289 t290 = some r) ∧ Aside0 (kq ≤ k5) ∧ Aside0 (Kd.S k67 67 w' w.heap.size (fun _ => True) (.slice Ao85 t258.length co85) t258) ∧ Aside0 (w'.heap[gb252]? = some (.cells #[.int .u8 a4_0, .int .u8 a4_1, .int .u8 a4_2, .int .u8 a4_3, .int .u8 a4_4, .int .u8 a4_5] 52 (0, 0))) ∧ Aside0 (w'.heap[gb257]? = some (.cells #[.int .i64 t254, .int .i64 t255, .int .i64 t256] 25 (0, 0))) ∧ Aside0 (w'.heap[gb262]? = some (.cells #[.int .i64 x263000_1, .int .i64 x263001_1, .int .i64 x263002_1, .int .i64 x263003_1, .int .i64 x263004_1, .int .i64 x263005_1] 59 (0, 0))) ∧ Aside0 (w'.heap[gb271]? = some (.cells #[.int .i64 x272000_3, .int .i64 x272001_3, .int .i64 x272002_3, .int .i64 x272003_3, .int .i64 x272004_3, .int .i64 x272005_3] 59 (0, 0))) ∧ Aside0 (w'.heap[gb284]? = some (.cells #[.int .i64 x285000_5, .int .i64 x285001_5, .int .i64 x285002_5, .int .i64 x285003_5, .int .i64 x285004_5, .int .i64 x285005_5] 69 (0, 0))) ∧ Aside0 (w'.heap[gb291]? = some (.cells #[.int .i64 t285, .int .i64 t286, .int .i64 t287, .int .i64 t288, .int .i64 t289, .int .i64 t290] 69 (0, 0))) ∧ Aside0 (Below w.heap.size w w'))
           case atStart => exact ⟨(0), (0), (by first | rfl | (simp; done) | (simp [*]; done)), (by first | rfl | (simp; done) | (simp [*]; done)), H', ⟨Nat.le_refl _⟩, ⟨by (with_reducible repeat (first | apply Kd.S_alloc | apply Kd.S_drewN | apply Kd.S_drew)); exact Kd.S_mono (Kd.S_far (p := ⟨gb291, 5, none⟩) (Kd.S_far (p := ⟨gb291, 4, none⟩) (Kd.S_far (p := ⟨gb291, 3, none⟩) (Kd.S_far (p := ⟨gb291, 2, none⟩) (Kd.S_far (p := ⟨gb291, 1, none⟩) (Kd.S_far (p := ⟨gb291, 0, none⟩) (Kd.S_types HO_13.out BK291.out (by decide)) (fun _ hk => hk.2) (.int .i64 t285)) (fun _ hk => hk.2) (.int .i64 t286)) (fun _ hk => hk.2) (.int .i64 t287)) (fun _ hk => hk.2) (.int .i64 t288)) (fun _ hk => hk.2) (.int .i64 t289)) (fun _ hk => hk.2) (.int .i64 t290)) (fun _ hk => trivial)⟩, ⟨by (with_reducible repeat (first | refine blk_drewN ?_ _ | refine blk_drew ?_ | refine blk_alloc ?_ _)); refine blk_far ?_ NB252_291.out _; (with_reducible repeat (first | refine blk_drewN ?_ _ | refine blk_drew ?_ | refine blk_alloc ?_ _)); refine blk_far ?_ NB252_291.out _; (with_reducible repeat (first | refine blk_drewN ?_ _ | refine blk_drew ?_ | refine blk_alloc ?_ _)); refine blk_far ?_ NB252_291.out _; (with_reducible repeat (first | refine blk_drewN ?_ _ | refine blk_drew ?_ | refine blk_alloc ?_ _)); refine blk_far ?_ NB252_291.out _; (with_reducible repeat (first | refine blk_drewN ?_ _ | refine blk_drew ?_ | refine blk_alloc ?_ _)); refine blk_far ?_ NB252_291.out _; (with_reducible repeat (first | refine blk_drewN ?_ _ | refine blk_drew ?_ | refine blk_alloc ?_ _)); refine blk_far ?_ NB252_291.out _; (with_reducible repeat (first | refine blk_drewN ?_ _ | refine blk_drew ?_ | refine blk_alloc ?_ _)); exact BK252.out⟩, ⟨by (with_reducible repeat (first | refine blk_drewN ?_ _ | refine blk_drew ?_ | refine blk_alloc ?_ _)); refine blk_far ?_ NB257_291.out _; (with_reducible repeat (first | refine blk_drewN ?_ _ | refine blk_drew ?_ | refine blk_alloc ?_ _)); refine blk_far ?_ NB257_291.out _; (with_reducible repeat (first | refine blk_drewN ?_ _ | refine blk_drew ?_ | refine blk_alloc ?_ _)); refine blk_far ?_ NB257_291.out _; (with_reducible repeat (first | refine blk_drewN ?_ _ | refine blk_drew ?_ | refine blk_alloc ?_ _)); refine blk_far ?_ NB257_291.out _; (with_reducible repeat (first | refine blk_drewN ?_ _ | refine blk_drew ?_ | refine blk_alloc ?_ _)); refine blk_far ?_ NB257_291.out _; (with_reducible repeat (first | refine blk_drewN ?_ _ | refine blk_drew ?_ | refine blk_alloc ?_ _)); refine blk_far ?_ NB257_291.out _; (with_reducible repeat (first | refine blk_drewN ?_ _ | refine blk_drew ?_ | refine blk_alloc ?_ _)); exact BK257.out⟩, ⟨by (with_reducible repeat (first | refine blk_drewN ?_ _ | refine blk_drew ?_ | refine blk_alloc ?_ _)); refine blk_far ?_ NB262_291.out _; (with_reducible repeat (first | refine blk_drewN ?_ _ | refine blk_drew ?_ | refine blk_alloc ?_ _)); refine blk_far ?_ NB262_291.out _; (with_reducible repeat (first | refine blk_drewN ?_ _ | refine blk_drew ?_ | refine blk_alloc ?_ _)); refine blk_far ?_ NB262_291.out _; (with_reducible repeat (first | refine blk_drewN ?_ _ | refine blk_drew ?_ | refine blk_alloc ?_ _)); refine blk_far ?_ NB262_291.out _; (with_reducible repeat (first | refine blk_drewN ?_ _ | refine blk_drew ?_ | refine blk_alloc ?_ _)); refine blk_far ?_ NB262_291.out _; (with_reducible repeat (first | refine blk_drewN ?_ _ | refine blk_drew ?_ | refine blk_alloc ?_ _)); refine blk_far ?_ NB262_291.out _; (with_reducible repeat (first | refine blk_drewN ?_ _ | refine blk_drew ?_ | refine blk_alloc ?_ _)); exact BK262.out⟩, ⟨by (with_reducible repeat (first | refine blk_drewN ?_ _ | refine blk_drew ?_ | refine blk_alloc ?_ _)); refine blk_far ?_ NB271_291.out _; (with_reducible repeat (first | refine blk_drewN ?_ _ | refine blk_drew ?_ | refine blk_alloc ?_ _)); refine blk_far ?_ NB271_291.out _; (with_reducible repeat (first | refine blk_drewN ?_ _ | refine blk_drew ?_ | refine blk_alloc ?_ _)); refine blk_far ?_ NB271_291.out _; (with_reducible repeat (first | refine blk_drewN ?_ _ | refine blk_drew ?_ | refine blk_alloc ?_ _)); refine blk_far ?_ NB271_291.out _; (with_reducible repeat (first | refine blk_drewN ?_ _ | refine blk_drew ?_ | refine blk_alloc ?_ _)); refine blk_far ?_ NB271_291.out _; (with_reducible repeat (first | refine blk_drewN ?_ _ | refine blk_drew ?_ | refine blk_alloc ?_ _)); refine blk_far ?_ NB271_291.out _; (with_reducible repeat (first | refine blk_drewN ?_ _ | refine blk_drew ?_ | refine blk_alloc ?_ _)); exact BK271.out⟩, ⟨by (with_reducible repeat (first | refine blk_drewN ?_ _ | refine blk_drew ?_ | refine blk_alloc ?_ _)); refine blk_far ?_ NB284_291.out _; (with_reducible repeat (first | refine blk_drewN ?_ _ | refine blk_drew ?_ | refine blk_alloc ?_ _)); refine blk_far ?_ NB284_291.out _; (with_reducible repeat (first | refine blk_drewN ?_ _ | refine blk_drew ?_ | refine blk_alloc ?_ _)); refine blk_far ?_ NB284_291.out _; (with_reducible repeat (first | refine blk_drewN ?_ _ | refine blk_drew ?_ | refine blk_alloc ?_ _)); refine blk_far ?_ NB284_291.out _; (with_reducible repeat (first | refine blk_drewN ?_ _ | refine blk_drew ?_ | refine blk_alloc ?_ _)); refine blk_far ?_ NB284_291.out _; (with_reducible repeat (first | refine blk_drewN ?_ _ | refine blk_drew ?_ | refine blk_alloc ?_ _)); refine blk_far ?_ NB284_291.out _; (with_reducible repeat (first | refine blk_drewN ?_ _ | refine blk_drew ?_ | refine blk_alloc ?_ _)); exact BK284.out⟩, ⟨by (with_reducible repeat (first | refine blk_drewN ?_ _ | refine blk_drew ?_ | refine blk_alloc ?_ _)); refine blk_put (cs := #[.int .i64 t285, .int .i64 t286, .int .i64 t287, .int .i64 t288, .int .i64 t289, .int .i64 0]) ?_ 5 _ rfl; (with_reducible repeat (first | refine blk_drewN ?_ _ | refine blk_drew ?_ | refine blk_alloc ?_ _)); refine blk_put (cs := #[.int .i64 t285, .int .i64 t286, .int .i64 t287, .int .i64 t288, .int .i64 0, .int .i64 0]) ?_ 4 _ rfl; (with_reducible repeat (first | refine blk_drewN ?_ _ | refine blk_drew ?_ | refine blk_alloc ?_ _)); refine blk_put (cs := #[.int .i64 t285, .int .i64 t286, .int .i64 t287, .int .i64 0, .int .i64 0, .int .i64 0]) ?_ 3 _ rfl; (with_reducible repeat (first | refine blk_drewN ?_ _ | refine blk_drew ?_ | refine blk_alloc ?_ _)); refine blk_put (cs := #[.int .i64 t285, .int .i64 t286, .int .i64 0, .int .i64 0, .int .i64 0, .int .i64 0]) ?_ 2 _ rfl; (with_reducible repeat (first | refine blk_drewN ?_ _ | refine blk_drew ?_ | refine blk_alloc ?_ _)); refine blk_put (cs := #[.int .i64 t285, .int .i64 0, .int .i64 0, .int .i64 0, .int .i64 0, .int .i64 0]) ?_ 1 _ rfl; (with_reducible repeat (first | refine blk_drewN ?_ _ | refine blk_drew ?_ | refine blk_alloc ?_ _)); refine blk_put (cs := #[.int .i64 0, .int .i64 0, .int .i64 0, .int .i64 0, .int .i64 0, .int .i64 0]) ?_ 0 _ rfl; (with_reducible repeat (first | refine blk_drewN ?_ _ | refine blk_drew ?_ | refine blk_alloc ?_ _)); exact BK291.out⟩, ⟨by repeat (first | (with_reducible first | exact HB.out | apply below_alloc | apply pw_below_drewN | apply below_drew1 | refine below_set ?_ GE252.out | refine below_set ?_ GE257.out | refine below_set ?_ GE262.out | refine below_set ?_ GE271.out | refine below_set ?_ GE284.out | refine below_set ?_ GE291.out) | exact HB.out)⟩⟩
           case round => as_aux_lemma =>
            clear H'
            (try clear c1); (try clear c2); (try clear p2); (try clear q2); (try clear hx2); (try clear c3); (try clear c4); (try clear c5); (try clear c6); (try clear p6); (try clear c7); (try clear c8); (try clear c8b0); (try clear c8b1); (try clear c9); (try clear c10); (try clear c13); (try clear c15); (try clear c16); (try clear c16b0); (try clear c16b1); (try clear c17); (try clear c21); (try clear c25)
            (try clear c25b0); (try clear c26); (try clear p26); (try clear q26); (try clear hx26); (try clear c27); (try clear c27b0); (try clear p27); (try clear q27); (try clear hx27); (try clear c28); (try clear c28b0); (try clear c29); (try clear c30); (try clear c30b0); (try clear c31); (try clear c31b0); (try clear c38); (try clear c38b0); (try clear c39); (try clear c39b0); (try clear c41)
            (try clear c42); (try clear c42b0); (try clear c43); (try clear c43b0); (try clear c44); (try clear c44b0); (try clear c44b1); (try clear c45); (try clear c45b0); (try clear c45b1); (try clear c51); (try clear c52); (try clear c55); (try clear c56); (try clear c57); (try clear c59); (try clear c59b0); (try clear c60); (try clear c60b0); (try clear c61); (try clear c61b0); (try clear c62)
            (try clear c62b0); (try clear c63); (try clear c63b0); (try clear c64); (try clear c64b0); (try clear p64); (try clear c71); (try clear c71b0); (try clear c71b1); (try clear c72); (try clear c72b0); (try clear c72b1); (try clear c72b2); (try clear c79); (try clear c81); (try clear c82); (try clear c83); (try clear c88); (try clear c89); (try clear c90); (try clear c91); (try clear c93)
            (try clear c93b0); (try clear c95); (try clear c96); (try clear c97); (try clear c98); (try clear c102); (try clear c103); (try clear c104); (try clear c105); (try clear c106); (try clear hcz107_0); (try clear hcz107_1); (try clear hcz107_2); (try clear hcz107_3); (try clear hcz107_4); (try clear hcz107_5); (try clear hcz14_0); (try clear hcz14_1); (try clear hcz14_2); (try clear hcz22_0)
            (try clear hcz22_1); (try clear hcz22_2); (try clear hcz53_0); (try clear hcz53_1); (try clear hcz53_2); (try clear hcz53_3); (try clear hcz53_4); (try clear hcz53_5); (try clear hcz58_0); (try clear hcz58_1); (try clear hcz58_2); (try clear hcz58_3); (try clear hcz58_4); (try clear hcz58_5); (try clear hcz84_0); (try clear hcz84_1); (try clear hcz84_2); (try clear hcz84_3); (try clear hcz84_4)
            (try clear hcz84_5); (try clear hcz92_0); (try clear hcz92_1); (try clear hcz92_2); (try clear hcz92_3); (try clear hcz92_4); (try clear hcz92_5); (try clear hcz99_0); (try clear hcz99_1); (try clear hcz99_2); (try clear hcz99_3); (try clear hcz99_4); (try clear hcz99_5); (try clear hfz107_0); (try clear hfz107_1); (try clear hfz107_2); (try clear hfz107_3); (try clear hfz107_4); (try clear hfz107_5)
            (try clear hfz14_0); (try clear hfz14_1); (try clear hfz14_2); (try clear hfz22_0); (try clear hfz22_1); (try clear hfz22_2); (try clear hfz53_0); (try clear hfz53_1); (try clear hfz53_2); (try clear hfz53_3); (try clear hfz53_4); (try clear hfz53_5); (try clear hfz58_0); (try clear hfz58_1); (try clear hfz58_2); (try clear hfz58_3); (try clear hfz58_4); (try clear hfz58_5); (try clear hfz84_0)
            (try clear hfz84_1); (try clear hfz84_2); (try clear hfz84_3); (try clear hfz84_4); (try clear hfz84_5); (try clear hfz92_0); (try clear hfz92_1); (try clear hfz92_2); (try clear hfz92_3); (try clear hfz92_4); (try clear hfz92_5); (try clear hfz99_0); (try clear hfz99_1); (try clear hfz99_2); (try clear hfz99_3); (try clear hfz99_4); (try clear hfz99_5); (try clear hx266_0); (try clear hx266_1)
            (try clear hx266_2); (try clear hx266_3); (try clear hx269_0); (try clear hx269_1); (try clear hx269_2); (try clear hx269_3); (try clear hx269_4); (try clear hx269_5); (try clear hx270_0); (try clear hx270_1); (try clear hx270_2); (try clear hx270_3); (try clear hx270_4); (try clear hx270_5); (try clear hx272_0); (try clear hx272_1); (try clear hx272_2); (try clear hx273_0); (try clear hx273_1)
            (try clear hx273_2); (try clear hx274_0); (try clear hx274_1); (try clear hx274_2); (try clear hx275_0); (try clear hx275_1); (try clear hx275_2); (try clear hx276_0); (try clear hx276_1); (try clear hx276_2); (try clear p2); (try clear p26); (try clear p266); (try clear p269); (try clear p27); (try clear p270); (try clear p272); (try clear p273); (try clear p274); (try clear p275); (try clear p276)
            (try clear p6); (try clear p64); (try clear q2); (try clear q26); (try clear q266); (try clear q269); (try clear q27); (try clear q270); (try clear q272); (try clear q273); (try clear q274); (try clear q275); (try clear q276)
            obtain ⟨x27_6, x28_6, rfl, rfl, HA, HK6, HO_13, BK252, BK257, BK262, BK271, BK284, BK291, HB⟩ := hrel
            cases gk with
            | zero => exact absurd HA.out (by simp [ambidextertop_TopTimetable.l4])
            | succ k6 =>
             have H := HA.out
             clear HA
             simp only [ambidextertop_TopTimetable.l4] at H
             by_cases c108 : x28_6 < 6
             case neg =>
              rw [if_neg c108] at H
              have c108b0 : decide (x28_6 < 6) = false := decide_eq_false c108
              clear c108
              by_cases c134 : x27_6 > 1
              ·
               rw [if_pos c134] at H
               have c134b0 : decide (1 < x27_6) = true := decide_eq_true c134
               clear c134
               exact absurd HT.out (by rw [← Option.some.inj H]; decide)
              rw [if_neg c134] at H
              have c134b0 : decide (1 < x27_6) = false := decide_eq_false c134
              clear c134
              have H' := Aside0.mk H
              clear H
              have hnb135 := NB291_252.out
              have hnc135 := NB252_291.out
              have hnb136 := NB291_257.out
              have hnc136 := NB257_291.out
              have hnb137 := NB291_262.out
              have hnc137 := NB262_291.out
              have hnb138 := NB291_271.out
              have hnc138 := NB271_291.out
              have hnb139 := NB291_284.out
              have hnc139 := NB284_291.out
              have hcz140_0 : wr.cell? ⟨gb291, 0, none⟩ = some (.int .i64 t285) := (blk_cell BK291.out 0).trans rfl
              have hcz140_1 : wr.cell? ⟨gb291, 1, none⟩ = some (.int .i64 t286) := (blk_cell BK291.out 1).trans rfl
              have hcz140_2 : wr.cell? ⟨gb291, 2, none⟩ = some (.int .i64 t287) := (blk_cell BK291.out 2).trans rfl
              have hcz140_3 : wr.cell? ⟨gb291, 3, none⟩ = some (.int .i64 t288) := (blk_cell BK291.out 3).trans rfl
              have hcz140_4 : wr.cell? ⟨gb291, 4, none⟩ = some (.int .i64 t289) := (blk_cell BK291.out 4).trans rfl
              have hcz140_5 : wr.cell? ⟨gb291, 5, none⟩ = some (.int .i64 t290) := (blk_cell BK291.out 5).trans rfl
              have hfz140_0 := blk_frozen BK291.out 0
              have hfz140_1 := blk_frozen BK291.out 1
              have hfz140_2 := blk_frozen BK291.out 2
              have hfz140_3 := blk_frozen BK291.out 3
              have hfz140_4 := blk_frozen BK291.out 4
              have hfz140_5 := blk_frozen BK291.out 5
              have hnb141 := NB284_252.out
              have hnc141 := NB252_284.out
              have hnb142 := NB284_257.out
              have hnc142 := NB257_284.out
              have hnb143 := NB284_262.out
              have hnc143 := NB262_284.out
              have hnb144 := NB284_271.out
              have hnc144 := NB271_284.out
              have hcz145_0 : wr.cell? ⟨gb284, 0, none⟩ = some (.int .i64 x285000_5) := (blk_cell BK284.out 0).trans rfl
              have hcz145_1 : wr.cell? ⟨gb284, 1, none⟩ = some (.int .i64 x285001_5) := (blk_cell BK284.out 1).trans rfl
              have hcz145_2 : wr.cell? ⟨gb284, 2, none⟩ = some (.int .i64 x285002_5) := (blk_cell BK284.out 2).trans rfl
              have hcz145_3 : wr.cell? ⟨gb284, 3, none⟩ = some (.int .i64 x285003_5) := (blk_cell BK284.out 3).trans rfl
              have hcz145_4 : wr.cell? ⟨gb284, 4, none⟩ = some (.int .i64 x285004_5) := (blk_cell BK284.out 4).trans rfl
              have hcz145_5 : wr.cell? ⟨gb284, 5, none⟩ = some (.int .i64 x285005_5) := (blk_cell BK284.out 5).trans rfl
              have hfz145_0 := blk_frozen BK284.out 0
              have hfz145_1 := blk_frozen BK284.out 1
              have hfz145_2 := blk_frozen BK284.out 2
              have hfz145_3 := blk_frozen BK284.out 3
              have hfz145_4 := blk_frozen BK284.out 4
              have hfz145_5 := blk_frozen BK284.out 5
              go_wp2
              go_roundg k6
              case measure => have := HK1.out; have := HK2.out; have := HK3.out; have := HJ68.out; have := HK5.out; have := HK6.out; omega
              case rel => exact ⟨(wrap64 (x25_5 + 1)), (t285), (t286), (t287), (t288), (t289), (t290), (by first | rfl | (simp; done) | (simp [*]; done)), H', ⟨by have := HK1.out; have := HK2.out; have := HK3.out; have := HJ68.out; have := HK5.out; have := HK6.out; omega⟩, ⟨by (with_reducible repeat (first | apply Kd.S_alloc | apply Kd.S_drewN | apply Kd.S_drew)); exact Kd.S_mono (Kd.S_far (p := ⟨gb284, 5, none⟩) (Kd.S_far (p := ⟨gb284, 4, none⟩) (Kd.S_far (p := ⟨gb284, 3, none⟩) (Kd.S_far (p := ⟨gb284, 2, none⟩) (Kd.S_far (p := ⟨gb284, 1, none⟩) (Kd.S_far (p := ⟨gb284, 0, none⟩) (Kd.S_types HO_13.out BK284.out (by decide)) (fun _ hk => hk.2) (.int .i64 t285)) (fun _ hk => hk.2) (.int .i64 t286)) (fun _ hk => hk.2) (.int .i64 t287)) (fun _ hk => hk.2) (.int .i64 t288)) (fun _ hk => hk.2) (.int .i64 t289)) (fun _ hk => hk.2) (.int .i64 t290)) (fun _ hk => trivial)⟩, ⟨by (with_reducible repeat (first | refine blk_drewN ?_ _ | refine blk_drew ?_ | refine blk_alloc ?_ _)); refine blk_far ?_ NB252_284.out _; (with_reducible repeat (first | refine blk_drewN ?_ _ | refine blk_drew ?_ | refine blk_alloc ?_ _)); refine blk_far ?_ NB252_284.out _; (with_reducible repeat (first | refine blk_drewN ?_ _ | refine blk_drew ?_ | refine blk_alloc ?_ _)); refine blk_far ?_ NB252_284.out _; (with_reducible repeat (first | refine blk_drewN ?_ _ | refine blk_drew ?_ | refine blk_alloc ?_ _)); refine blk_far ?_ NB252_284.out _; (with_reducible repeat (first | refine blk_drewN ?_ _ | refine blk_drew ?_ | refine blk_alloc ?_ _)); refine blk_far ?_ NB252_284.out _; (with_reducible repeat (first | refine blk_drewN ?_ _ | refine blk_drew ?_ | refine blk_alloc ?_ _)); refine blk_far ?_ NB252_284.out _; (with_reducible repeat (first | refine blk_drewN ?_ _ | refine blk_drew ?_ | refine blk_alloc ?_ _)); exact BK252.out⟩, ⟨by (with_reducible repeat (first | refine blk_drewN ?_ _ | refine blk_drew ?_ | refine blk_alloc ?_ _)); refine blk_far ?_ NB257_284.out _; (with_reducible repeat (first | refine blk_drewN ?_ _ | refine blk_drew ?_ | refine blk_alloc ?_ _)); refine blk_far ?_ NB257_284.out _; (with_reducible repeat (first | refine blk_drewN ?_ _ | refine blk_drew ?_ | refine blk_alloc ?_ _)); refine blk_far ?_ NB257_284.out _; (with_reducible repeat (first | refine blk_drewN ?_ _ | refine blk_drew ?_ | refine blk_alloc ?_ _)); refine blk_far ?_ NB257_284.out _; (with_reducible repeat (first | refine blk_drewN ?_ _ | refine blk_drew ?_ | refine blk_alloc ?_ _)); refine blk_far ?_ NB257_284.out _; (with_reducible repeat (first | refine blk_drewN ?_ _ | refine blk_drew ?_ | refine blk_alloc ?_ _)); refine blk_far ?_ NB257_284.out _; (with_reducible repeat (first | refine blk_drewN ?_ _ | refine blk_drew ?_ | refine blk_alloc ?_ _)); exact BK257.out⟩, ⟨by (with_reducible repeat (first | refine blk_drewN ?_ _ | refine blk_drew ?_ | refine blk_alloc ?_ _)); refine blk_far ?_ NB262_284.out _; (with_reducible repeat (first | refine blk_drewN ?_ _ | refine blk_drew ?_ | refine blk_alloc ?_ _)); refine blk_far ?_ NB262_284.out _; (with_reducible repeat (first | refine blk_drewN ?_ _ | refine blk_drew ?_ | refine blk_alloc ?_ _)); refine blk_far ?_ NB262_284.out _; (with_reducible repeat (first | refine blk_drewN ?_ _ | refine blk_drew ?_ | refine blk_alloc ?_ _)); refine blk_far ?_ NB262_284.out _; (with_reducible repeat (first | refine blk_drewN ?_ _ | refine blk_drew ?_ | refine blk_alloc ?_ _)); refine blk_far ?_ NB262_284.out _; (with_reducible repeat (first | refine blk_drewN ?_ _ | refine blk_drew ?_ | refine blk_alloc ?_ _)); refine blk_far ?_ NB262_284.out _; (with_reducible repeat (first | refine blk_drewN ?_ _ | refine blk_drew ?_ | refine blk_alloc ?_ _)); exact BK262.out⟩, ⟨by (with_reducible repeat (first | refine blk_drewN ?_ _ | refine blk_drew ?_ | refine blk_alloc ?_ _)); refine blk_far ?_ NB271_284.out _; (with_reducible repeat (first | refine blk_drewN ?_ _ | refine blk_drew ?_ | refine blk_alloc ?_ _)); refine blk_far ?_ NB271_284.out _; (with_reducible repeat (first | refine blk_drewN ?_ _ | refine blk_drew ?_ | refine blk_alloc ?_ _)); refine blk_far ?_ NB271_284.out _; (with_reducible repeat (first | refine blk_drewN ?_ _ | refine blk_drew ?_ | refine blk_alloc ?_ _)); refine blk_far ?_ NB271_284.out _; (with_reducible repeat (first | refine blk_drewN ?_ _ | refine blk_drew ?_ | refine blk_alloc ?_ _)); refine blk_far ?_ NB271_284.out _; (with_reducible repeat (first | refine blk_drewN ?_ _ | refine blk_drew ?_ | refine blk_alloc ?_ _)); refine blk_far ?_ NB271_284.out _; (with_reducible repeat (first | refine blk_drewN ?_ _ | refine blk_drew ?_ | refine blk_alloc ?_ _)); exact BK271.out⟩, ⟨by (with_reducible repeat (first | refine blk_drewN ?_ _ | refine blk_drew ?_ | refine blk_alloc ?_ _)); refine blk_put (cs := #[.int .i64 t285, .int .i64 t286, .int .i64 t287, .int .i64 t288, .int .i64 t289, .int .i64 x285005_5]) ?_ 5 _ rfl; (with_reducible repeat (first | refine blk_drewN ?_ _ | refine blk_drew ?_ | refine blk_alloc ?_ _)); refine blk_put (cs := #[.int .i64 t285, .int .i64 t286, .int .i64 t287, .int .i64 t288, .int .i64 x285004_5, .int .i64 x285005_5]) ?_ 4 _ rfl; (with_reducible repeat (first | refine blk_drewN ?_ _ | refine blk_drew ?_ | refine blk_alloc ?_ _)); refine blk_put (cs := #[.int .i64 t285, .int .i64 t286, .int .i64 t287, .int .i64 x285003_5, .int .i64 x285004_5, .int .i64 x285005_5]) ?_ 3 _ rfl; (with_reducible repeat (first | refine blk_drewN ?_ _ | refine blk_drew ?_ | refine blk_alloc ?_ _)); refine blk_put (cs := #[.int .i64 t285, .int .i64 t286, .int .i64 x285002_5, .int .i64 x285003_5, .int .i64 x285004_5, .int .i64 x285005_5]) ?_ 2 _ rfl; (with_reducible repeat (first | refine blk_drewN ?_ _ | refine blk_drew ?_ | refine blk_alloc ?_ _)); refine blk_put (cs := #[.int .i64 t285, .int .i64 x285001_5, .int .i64 x285002_5, .int .i64 x285003_5, .int .i64 x285004_5, .int .i64 x285005_5]) ?_ 1 _ rfl; (with_reducible repeat (first | refine blk_drewN ?_ _ | refine blk_drew ?_ | refine blk_alloc ?_ _)); refine blk_put (cs := #[.int .i64 x285000_5, .int .i64 x285001_5, .int .i64 x285002_5, .int .i64 x285003_5, .int .i64 x285004_5, .int .i64 x285005_5]) ?_ 0 _ rfl; (with_reducible repeat (first | refine blk_drewN ?_ _ | refine blk_drew ?_ | refine blk_alloc ?_ _)); exact BK284.out⟩, ⟨by repeat (first | (with_reducible first | exact HB.out | apply below_alloc | apply pw_below_drewN | apply below_drew1 | refine below_set ?_ GE252.out | refine below_set ?_ GE257.out | refine below_set ?_ GE262.out | refine below_set ?_ GE271.out | refine below_set ?_ GE284.out | refine below_set ?_ GE291.out) | exact HB.out)⟩⟩
             rw [if_pos c108] at H
             have c108b0 : decide (x28_6 < 6) = true := decide_eq_true c108
             clear c108
             obtain ⟨ji109, hji109⟩ : ∃ j_ : Int, (wrap64 (Int.tdiv x28_6 3)) = j_ := ⟨_, rfl⟩
             replace H : (if 0 ≤ (ji109) then (if (ji109) < 2 then (if 0 ≤ (Int.tmod x28_6 3) then (if (Int.tmod x28_6 3) < 3 then (if (wrap64 ((dget [t285, t286, t287, t288, t289, t290] ((ji109) * 3 + (Int.tmod x28_6 3))) - (dget [x285000_5, x285001_5, x285002_5, x285003_5, x285004_5, x285005_5] ((ji109) * 3 + (Int.tmod x28_6 3))))) > t254 then (ambidextertop_TopTimetable.j6 k6 true t258 x18_2 x25_5 x27_6 x28_6 (wrap64 ((dget [t285, t286, t287, t288, t289, t290] ((ji109) * 3 + (Int.tmod x28_6 3))) - (dget [x285000_5, x285001_5, x285002_5, x285003_5, x285004_5, x285005_5] ((ji109) * 3 + (Int.tmod x28_6 3))))) true t254 t255 t256 x263000_1 x263001_1 x263002_1 x263003_1 x263004_1 x263005_1 x272000_3 x272001_3 x272002_3 x272003_3 x272004_3 x272005_3 x285000_5 x285001_5 x285002_5 x285003_5 x285004_5 x285005_5 t285 t286 t287 t288 t289 t290) else (ambidextertop_TopTimetable.j6 k6 true t258 x18_2 x25_5 x27_6 x28_6 (wrap64 ((dget [t285, t286, t287, t288, t289, t290] ((ji109) * 3 + (Int.tmod x28_6 3))) - (dget [x285000_5, x285001_5, x285002_5, x285003_5, x285004_5, x285005_5] ((ji109) * 3 + (Int.tmod x28_6 3))))) (decide ((wrap64 ((dget [t285, t286, t287, t288, t289, t290] ((ji109) * 3 + (Int.tmod x28_6 3))) - (dget [x285000_5, x285001_5, x285002_5, x285003_5, x285004_5, x285005_5] ((ji109) * 3 + (Int.tmod x28_6 3))))) < (wrap64 (-t254)))) t254 t255 t256 x263000_1 x263001_1 x263002_1 x263003_1 x263004_1 x263005_1 x272000_3 x272001_3 x272002_3 x272003_3 x272004_3 x272005_3 x285000_5 x285001_5 x285002_5 x285003_5 x285004_5 x285005_5 t285 t286 t287 t288 t289 t290)) else (none)) else (none)) else (none)) else (none)) = some r := by first | (rw [hji109] at H; exact H) | (simp only [hji109] at H ⊢; exact H)
             have hji109w : (IntKind.i64.wrap (Int.tdiv x28_6 3)) = ji109 := (i64_w _).trans hji109
             by_cases c110 : 0 ≤ (ji109)
             case neg =>
              rw [if_neg c110] at H
              exact absurd H (by simp)
             rw [if_pos c110] at H
             have c110b0 : decide (0 ≤ (ji109)) = true := decide_eq_true c110
             clear c110
             by_cases c111 : (ji109) < 2
             case neg =>
              rw [if_neg c111] at H
              exact absurd H (by simp)
             rw [if_pos c111] at H
             have c111b0 : decide ((ji109) < 2) = true := decide_eq_true c111
             clear c111
             obtain ⟨ji112, hji112⟩ : ∃ j_ : Int, (Int.tmod x28_6 3) = j_ := ⟨_, rfl⟩
             replace H : (if 0 ≤ (ji112) then (if (ji112) < 3 then (if (wrap64 ((dget [t285, t286, t287, t288, t289, t290] ((ji109) * 3 + (ji112))) - (dget [x285000_5, x285001_5, x285002_5, x285003_5, x285004_5, x285005_5] ((ji109) * 3 + (ji112))))) > t254 then (ambidextertop_TopTimetable.j6 k6 true t258 x18_2 x25_5 x27_6 x28_6 (wrap64 ((dget [t285, t286, t287, t288, t289, t290] ((ji109) * 3 + (ji112))) - (dget [x285000_5, x285001_5, x285002_5, x285003_5, x285004_5, x285005_5] ((ji109) * 3 + (ji112))))) true t254 t255 t256 x263000_1 x263001_1 x263002_1 x263003_1 x263004_1 x263005_1 x272000_3 x272001_3 x272002_3 x272003_3 x272004_3 x272005_3 x285000_5 x285001_5 x285002_5 x285003_5 x285004_5 x285005_5 t285 t286 t287 t288 t289 t290) else (ambidextertop_TopTimetable.j6 k6 true t258 x18_2 x25_5 x27_6 x28_6 (wrap64 ((dget [t285, t286, t287, t288, t289, t290] ((ji109) * 3 + (ji112))) - (dget [x285000_5, x285001_5, x285002_5, x285003_5, x285004_5, x285005_5] ((ji109) * 3 + (ji112))))) (decide ((wrap64 ((dget [t285, t286, t287, t288, t289, t290] ((ji109) * 3 + (ji112))) - (dget [x285000_5, x285001_5, x285002_5, x285003_5, x285004_5, x285005_5] ((ji109) * 3 + (ji112))))) < (wrap64 (-t254)))) t254 t255 t256 x263000_1 x263001_1 x263002_1 x263003_1 x263004_1 x263005_1 x272000_3 x272001_3 x272002_3 x272003_3 x272004_3 x272005_3 x285000_5 x285001_5 x285002_5 x285003_5 x285004_5 x285005_5 t285 t286 t287 t288 t289 t290)) else (none)) else (none)) = some r := by first | (rw [hji112] at H; exact H) | (simp only [hji112] at H ⊢; exact H)
             by_cases c113 : 0 ≤ (ji112)
             case neg =>
              rw [if_neg c113] at H
              exact absurd H (by simp)
             rw [if_pos c113] at H
             have c113b0 : decide (0 ≤ (ji112)) = true := decide_eq_true c113
             clear c113
             by_cases c114 : (ji112) < 3
             case neg =>
              rw [if_neg c114] at H
              exact absurd H (by simp)
             rw [if_pos c114] at H
             have c114b0 : decide ((ji112) < 3) = true := decide_eq_true c114
             clear c114
             have HC115 := Aside0.mk H
             clear H
             try go_wp2
             have n0_ := Aside0.mk (Kd.S_drew HO_13.out)
             have n1_ := Aside0.mk (blk_drew BK252.out)
             have n2_ := Aside0.mk (blk_drew BK257.out)
             have n3_ := Aside0.mk (blk_drew BK262.out)
             have n4_ := Aside0.mk (blk_drew BK271.out)
             have n5_ := Aside0.mk (blk_drew BK284.out)
             have n6_ := Aside0.mk (blk_drew BK291.out)
             have n7_ := Aside0.mk (below_drew1 HB.out)
             clear HO_13
             clear BK252
             clear BK257
             clear BK262
             clear BK271
             clear BK284
             clear BK291
             clear HB
             have HO_13 := n0_
             have BK252 := n1_
             have BK257 := n2_
             have BK262 := n3_
             have BK271 := n4_
             have BK284 := n5_
             have BK291 := n6_
             have HB := n7_
             clear n0_ n1_ n2_ n3_ n4_ n5_ n6_ n7_
             have ppd117_0 : (0 ≤ (ji109 : Int)) = True := eq_true (of_decide_eq_true (by first | (with_reducible assumption) | assumption))
             have qqd117_0 : ((ji109 : Int) < 2) = True := eq_true (of_decide_eq_true (by first | (with_reducible assumption) | assumption))
             have ppd117_1 : (0 ≤ (ji112 : Int)) = True := eq_true (of_decide_eq_true (by first | (with_reducible assumption) | assumption))
             have qqd117_1 : ((ji112 : Int) < 3) = True := eq_true (of_decide_eq_true (by first | (with_reducible assumption) | assumption))
             have ppd118_0 : (0 ≤ (ji109 : Int)) = True := eq_true (of_decide_eq_true (by first | (with_reducible assumption) | assumption))
             have qqd118_0 : ((ji109 : Int) < 2) = True := eq_true (of_decide_eq_true (by first | (with_reducible assumption) | assumption))
             have ppd118_1 : (0 ≤ (ji112 : Int)) = True := eq_true (of_decide_eq_true (by first | (with_reducible assumption) | assumption))
             have qqd118_1 : ((ji112 : Int) < 3) = True := eq_true (of_decide_eq_true (by first | (with_reducible assumption) | assumption))
             refine start_ (n := 16) (S := fun w' => w'.cell? ⟨gb291, ((ji109) : Int).toNat * 3 + ((ji112) : Int).toNat, none⟩ = some (.int .i64 (dget [t285, t286, t287, t288, t289, t290] ((ji109) * 3 + (ji112)))) ∧ w'.cell? ⟨gb284, ((ji109) : Int).toNat * 3 + ((ji112) : Int).toNat, none⟩ = some (.int .i64 (dget [x285000_5, x285001_5, x285002_5, x285003_5, x285004_5, x285005_5] ((ji109) * 3 + (ji112))))) (ds := []) #[O,O,O,O,O,O,O,O,O,O,O,O,O,O,O,O] (by kernel_rfl) rfl rfl ⟨(blk_cell BK291.out _).trans (dget6 (of_eq_true ppd117_0) (of_eq_true qqd117_0) (of_eq_true ppd117_1) (of_eq_true qqd117_1)), (blk_cell BK284.out _).trans (dget6 (of_eq_true ppd118_0) (of_eq_true qqd118_0) (of_eq_true ppd118_1) (of_eq_true qqd118_1))⟩ (fun hHeld => ?_); refine with_tabW ambidextertop_TopTimetable.tab38 ambidextertop_TopTimetable.bits38 (fun HT_ HW_ => ?_)
             generalize wr.drew = w116 at HO_13 BK252 BK257 BK262 BK271 BK284 BK291 HB hHeld ⊢
             refine pq_ (i := 0) (N := some 193) #[I,O,O,O,O,O,O,O,O,O,O,O,O,O,O,O] HT_ ?_
             refine pq_ (i := 1) (N := some 194) #[I,I,O,O,O,O,O,O,O,O,O,O,O,O,O,O] HT_ ?_
             refine pq_ (i := 2) (N := some 195) #[I,I,I,O,O,O,O,O,O,O,O,O,O,O,O,O] HT_ ?_
             refine pq_ (i := 3) (N := some 196) #[I,I,I,I,O,O,O,O,O,O,O,O,O,O,O,O] HT_ ?_
             refine pq_ (i := 4) (N := some 197) #[I,I,I,I,I,O,O,O,O,O,O,O,O,O,O,O] HT_ ?_
             refine pq_ (i := 5) (N := some 198) #[I,I,I,I,I,I,O,O,O,O,O,O,O,O,O,O] HT_ ?_
             refine pq_ (i := 7) (N := some 200) #[I,I,I,I,I,I,O,I,O,O,O,O,O,O,O,O] HT_ ?_
             refine pq_ (i := 8) (N := some 201) #[I,I,I,I,I,I,O,I,I,O,O,O,O,O,O,O] HT_ ?_
             refine pq_ (i := 9) (N := some 202) #[I,I,I,I,I,I,O,I,I,I,O,O,O,O,O,O] HT_ ?_
             refine pq_ (i := 10) (N := some 203) #[I,I,I,I,I,I,O,I,I,I,I,O,O,O,O,O] HT_ ?_
             refine pq_ (i := 11) (N := some 204) #[I,I,I,I,I,I,O,I,I,I,I,I,O,O,O,O] HT_ ?_
             refine pq_ (i := 12) (N := some 205) #[I,I,I,I,I,I,O,I,I,I,I,I,I,O,O,O] HT_ ?_
             refine take_ (i := 6) (N := some 199) (v := ?_) (a' := ?_) #[I,I,I,I,I,I,I,I,I,I,I,I,I,O,O,O] rfl rfl (take_ofW HT_.out HW_.out (by kernel_rfl)) (fun _ _ _ h => h) (Or.inl ⟨by rfl, ?_⟩) hHeld ?_ ?_
             rotate_left; · (rintro w' ⟨s0, s1⟩; go_simp; with_reducible rfl)
             rotate_left; · (simp only [Act.put, List.setIfInBounds_toArray, List.set_cons_zero, List.set_cons_succ, i64_w, i32_w]; rfl)
             refine take_ (i := 13) (N := some 206) (v := ?_) (a' := ?_) #[I,I,I,I,I,I,I,I,I,I,I,I,I,I,O,O] rfl rfl (take_ofW HT_.out HW_.out (by kernel_rfl)) (fun _ _ _ h => h) (Or.inl ⟨by rfl, ?_⟩) hHeld ?_ ?_
             rotate_left; · (rintro w' ⟨s0, s1⟩; go_simp; with_reducible rfl)
             rotate_left; · (simp only [Act.put, List.setIfInBounds_toArray, List.set_cons_zero, List.set_cons_succ, i64_w, i32_w]; rfl)
             refine pq_ (i := 14) (N := some 207) #[I,I,I,I,I,I,I,I,I,I,I,I,I,I,I,O] HT_ ?_
             refine pq_ (i := 15) (N := some 29) #[I,I,I,I,I,I,I,I,I,I,I,I,I,I,I,I] HT_ ?_
             refine done_ (done_of HT_.out (by kernel_rfl)) ?_
             go_upto_region 39 with (fail)
             go_cut [218] (fun v218 wc => ∃ (kq : Nat) (x218_114 : Bool), v218 = .bool x218_114 ∧ Aside0 (ambidextertop_TopTimetable.j6 kq true t258 x18_2 x25_5 x27_6 x28_6 (wrap64 ((dget [t285, t286, t287, t288, t289, t290] ((ji109) * 3 + (ji112))) - (dget [x285000_5, x285001_5, x285002_5, x285003_5, x285004_5, x285005_5] ((ji109) * 3 + (ji112))))) x218_114 t254 t255 t256 x263000_1 x263001_1 x263002_1 x263003_1 x263004_1 x263005_1 x272000_3 x272001_3 x272002_3 x272003_3 x272004_3 x272005_3 x285000_5 x285001_5 x285002_5 x285003_5 x285004_5 x285005_5 t285 t286 t287 t288 t289 t290 = some r) ∧ Aside0 (kq ≤ k6) ∧ Aside0 (Kd.S k67 67 wc w.heap.size (fun _ => True) (.slice Ao85 t258.length co85) t258) ∧ Aside0 (wc.heap[gb252]? = some (.cells #[.int .u8 a4_0, .int .u8 a4_1, .int .u8 a4_2, .int .u8 a4_3, .int .u8 a4_4, .int .u8 a4_5] 52 (0, 0))) ∧ Aside0 (wc.heap[gb257]? = some (.cells #[.int .i64 t254, .int .i64 t255, .int .i64 t256] 25 (0, 0))) ∧ Aside0 (wc.heap[gb262]? = some (.cells #[.int .i64 x263000_1, .int .i64 x263001_1, .int .i64 x263002_1, .int .i64 x263003_1, .int .i64 x263004_1, .int .i64 x263005_1] 59 (0, 0))) ∧ Aside0 (wc.heap[gb271]? = some (.cells #[.int .i64 x272000_3, .int .i64 x272001_3, .int .i64 x272002_3, .int .i64 x272003_3, .int .i64 x272004_3, .int .i64 x272005_3] 59 (0, 0))) ∧ Aside0 (wc.heap[gb284]? = some (.cells #[.int .i64 x285000_5, .int .i64 x285001_5, .int .i64 x285002_5, .int .i64 x285003_5, .int .i64 x285004_5, .int .i64 x285005_5] 69 (0, 0))) ∧ Aside0 (wc.heap[gb291]? = some (.cells #[.int .i64 t285, .int .i64 t286, .int .i64 t287, .int .i64 t288, .int .i64 t289, .int .i64 t290] 69 (0, 0))) ∧ Aside0 (Below w.heap.size w wc))
             case first =>
              have H := HC115.out
              clear HC115
              by_cases c119 : (wrap64 ((dget [t285, t286, t287, t288, t289, t290] ((ji109) * 3 + (ji112))) - (dget [x285000_5, x285001_5, x285002_5, x285003_5, x285004_5, x285005_5] ((ji109) * 3 + (ji112))))) > t254
              ·
               rw [if_pos c119] at H
               have c119b0 : decide (t254 < (wrap64 ((dget [t285, t286, t287, t288, t289, t290] ((ji109) * 3 + (ji112))) - (dget [x285000_5, x285001_5, x285002_5, x285003_5, x285004_5, x285005_5] ((ji109) * 3 + (ji112)))))) = true := decide_eq_true c119
               clear c119
               (first | rw [c119b0] | (simp only [i64_w, i32_w]; rw [c119b0]) | skip)
               have H' := Aside0.mk H
               clear H
               have hnb120 := NB257_252.out
               have hnc120 := NB252_257.out
               have hnb121 := NB257_262.out
               have hnc121 := NB262_257.out
               have hnb122 := NB257_271.out
               have hnc122 := NB271_257.out
               have hnb123 := NB257_284.out
               have hnc123 := NB284_257.out
               have hnb124 := NB257_291.out
               have hnc124 := NB291_257.out
               have hcz125_0 : w116.cell? ⟨gb257, 0, none⟩ = some (.int .i64 t254) := (blk_cell BK257.out 0).trans rfl
               have hcz125_1 : w116.cell? ⟨gb257, 1, none⟩ = some (.int .i64 t255) := (blk_cell BK257.out 1).trans rfl
               have hcz125_2 : w116.cell? ⟨gb257, 2, none⟩ = some (.int .i64 t256) := (blk_cell BK257.out 2).trans rfl
               have hfz125_0 := blk_frozen BK257.out 0
               have hfz125_1 := blk_frozen BK257.out 1
               have hfz125_2 := blk_frozen BK257.out 2
               go_wp2
               go_meet
               case rel => exact ⟨_, (true), (by first | rfl | (simp; done) | (simp [*]; done)), H', ⟨by have := HK1.out; have := HK2.out; have := HK3.out; have := HJ68.out; have := HK5.out; have := HK6.out; first | omega | exact Nat.le_refl _⟩, ⟨by (with_reducible repeat (first | apply Kd.S_alloc | apply Kd.S_drewN | apply Kd.S_drew)); exact HO_13.out⟩, ⟨by (with_reducible repeat (first | refine blk_drewN ?_ _ | refine blk_drew ?_ | refine blk_alloc ?_ _)); exact BK252.out⟩, ⟨by (with_reducible repeat (first | refine blk_drewN ?_ _ | refine blk_drew ?_ | refine blk_alloc ?_ _)); exact BK257.out⟩, ⟨by (with_reducible repeat (first | refine blk_drewN ?_ _ | refine blk_drew ?_ | refine blk_alloc ?_ _)); exact BK262.out⟩, ⟨by (with_reducible repeat (first | refine blk_drewN ?_ _ | refine blk_drew ?_ | refine blk_alloc ?_ _)); exact BK271.out⟩, ⟨by (with_reducible repeat (first | refine blk_drewN ?_ _ | refine blk_drew ?_ | refine blk_alloc ?_ _)); exact BK284.out⟩, ⟨by (with_reducible repeat (first | refine blk_drewN ?_ _ | refine blk_drew ?_ | refine blk_alloc ?_ _)); exact BK291.out⟩, ⟨by repeat (first | (with_reducible first | exact HB.out | apply below_alloc | apply pw_below_drewN | apply below_drew1 | refine below_set ?_ GE252.out | refine below_set ?_ GE257.out | refine below_set ?_ GE262.out | refine below_set ?_ GE271.out | refine below_set ?_ GE284.out | refine below_set ?_ GE291.out) | exact HB.out)⟩⟩
              rw [if_neg c119] at H
              have c119b0 : decide (t254 < (wrap64 ((dget [t285, t286, t287, t288, t289, t290] ((ji109) * 3 + (ji112))) - (dget [x285000_5, x285001_5, x285002_5, x285003_5, x285004_5, x285005_5] ((ji109) * 3 + (ji112)))))) = false := decide_eq_false c119
              clear c119
              (first | rw [c119b0] | (simp only [i64_w, i32_w]; rw [c119b0]) | skip)
              have H' := Aside0.mk H
              clear H
              have hnb126 := NB257_252.out
              have hnc126 := NB252_257.out
              have hnb127 := NB257_262.out
              have hnc127 := NB262_257.out
              have hnb128 := NB257_271.out
              have hnc128 := NB271_257.out
              have hnb129 := NB257_284.out
              have hnc129 := NB284_257.out
              have hnb130 := NB257_291.out
              have hnc130 := NB291_257.out
              have hcz131_0 : w116.cell? ⟨gb257, 0, none⟩ = some (.int .i64 t254) := (blk_cell BK257.out 0).trans rfl
              have hcz131_1 : w116.cell? ⟨gb257, 1, none⟩ = some (.int .i64 t255) := (blk_cell BK257.out 1).trans rfl
              have hcz131_2 : w116.cell? ⟨gb257, 2, none⟩ = some (.int .i64 t256) := (blk_cell BK257.out 2).trans rfl
              have hfz131_0 := blk_frozen BK257.out 0
              have hfz131_1 := blk_frozen BK257.out 1
              have hfz131_2 := blk_frozen BK257.out 2
              go_wp2
              go_meet
              case rel => exact ⟨_, (decide ((wrap64 ((dget [t285, t286, t287, t288, t289, t290] ((ji109) * 3 + (ji112))) - (dget [x285000_5, x285001_5, x285002_5, x285003_5, x285004_5, x285005_5] ((ji109) * 3 + (ji112))))) < (wrap64 (-t254)))), (by first | rfl | (simp; done) | (simp only [← hji109, ← hji112] <;> (first | rfl | simp)) | (simp [*]; done)), H', ⟨by have := HK1.out; have := HK2.out; have := HK3.out; have := HJ68.out; have := HK5.out; have := HK6.out; first | omega | exact Nat.le_refl _⟩, ⟨by (with_reducible repeat (first | apply Kd.S_alloc | apply Kd.S_drewN | apply Kd.S_drew)); exact HO_13.out⟩, ⟨by (with_reducible repeat (first | refine blk_drewN ?_ _ | refine blk_drew ?_ | refine blk_alloc ?_ _)); exact BK252.out⟩, ⟨by (with_reducible repeat (first | refine blk_drewN ?_ _ | refine blk_drew ?_ | refine blk_alloc ?_ _)); exact BK257.out⟩, ⟨by (with_reducible repeat (first | refine blk_drewN ?_ _ | refine blk_drew ?_ | refine blk_alloc ?_ _)); exact BK262.out⟩, ⟨by (with_reducible repeat (first | refine blk_drewN ?_ _ | refine blk_drew ?_ | refine blk_alloc ?_ _)); exact BK271.out⟩, ⟨by (with_reducible repeat (first | refine blk_drewN ?_ _ | refine blk_drew ?_ | refine blk_alloc ?_ _)); exact BK284.out⟩, ⟨by (with_reducible repeat (first | refine blk_drewN ?_ _ | refine blk_drew ?_ | refine blk_alloc ?_ _)); exact BK291.out⟩, ⟨by repeat (first | (with_reducible first | exact HB.out | apply below_alloc | apply pw_below_drewN | apply below_drew1 | refine below_set ?_ GE252.out | refine below_set ?_ GE257.out | refine below_set ?_ GE262.out | refine below_set ?_ GE271.out | refine below_set ?_ GE284.out | refine below_set ?_ GE291.out) | exact HB.out)⟩⟩
             case rest => as_aux_lemma =>
              clear HC115
              (try clear c1); (try clear c2); (try clear p2); (try clear q2); (try clear hx2); (try clear c3); (try clear c4); (try clear c5); (try clear c6); (try clear p6); (try clear c7); (try clear c8); (try clear c8b0); (try clear c8b1); (try clear c9); (try clear c10); (try clear c11); (try clear c12); (try clear c13); (try clear c15); (try clear c16); (try clear c16b0); (try clear c16b1); (try clear c17)
              (try clear c21); (try clear c25); (try clear c25b0); (try clear c26); (try clear p26); (try clear q26); (try clear hx26); (try clear c27); (try clear c27b0); (try clear p27); (try clear q27); (try clear hx27); (try clear c28); (try clear c28b0); (try clear c29); (try clear c30); (try clear c30b0); (try clear c31); (try clear c31b0); (try clear c38); (try clear c38b0); (try clear c39)
              (try clear c39b0); (try clear c41); (try clear c42); (try clear c42b0); (try clear c43); (try clear c43b0); (try clear c44); (try clear c44b0); (try clear c44b1); (try clear c45); (try clear c45b0); (try clear c45b1); (try clear c51); (try clear c52); (try clear c55); (try clear c56); (try clear c57); (try clear c59); (try clear c59b0); (try clear c60); (try clear c60b0); (try clear c61)
              (try clear c61b0); (try clear c62); (try clear c62b0); (try clear c63); (try clear c63b0); (try clear c64); (try clear c64b0); (try clear p64); (try clear c71); (try clear c71b0); (try clear c71b1); (try clear c72); (try clear c72b0); (try clear c72b1); (try clear c72b2); (try clear c79); (try clear c81); (try clear c82); (try clear c83); (try clear c88); (try clear c89); (try clear c90)
              (try clear c91); (try clear c93); (try clear c93b0); (try clear c95); (try clear c96); (try clear c97); (try clear c98); (try clear c102); (try clear c103); (try clear c104); (try clear c105); (try clear c106); (try clear c108); (try clear c108b0); (try clear c110); (try clear c110b0); (try clear c111); (try clear c111b0); (try clear c113); (try clear c113b0); (try clear c114); (try clear c114b0)
              (try clear c119); (try clear c119b0); (try clear c120); (try clear c121); (try clear c122); (try clear c123); (try clear c124); (try clear c126); (try clear c127); (try clear c128); (try clear c129); (try clear c130); (try clear hcz107_0); (try clear hcz107_1); (try clear hcz107_2); (try clear hcz107_3); (try clear hcz107_4); (try clear hcz107_5); (try clear hcz125_0); (try clear hcz125_1)
              (try clear hcz125_2); (try clear hcz131_0); (try clear hcz131_1); (try clear hcz131_2); (try clear hcz14_0); (try clear hcz14_1); (try clear hcz14_2); (try clear hcz22_0); (try clear hcz22_1); (try clear hcz22_2); (try clear hcz53_0); (try clear hcz53_1); (try clear hcz53_2); (try clear hcz53_3); (try clear hcz53_4); (try clear hcz53_5); (try clear hcz58_0); (try clear hcz58_1); (try clear hcz58_2)
              (try clear hcz58_3); (try clear hcz58_4); (try clear hcz58_5); (try clear hcz84_0); (try clear hcz84_1); (try clear hcz84_2); (try clear hcz84_3); (try clear hcz84_4); (try clear hcz84_5); (try clear hcz92_0); (try clear hcz92_1); (try clear hcz92_2); (try clear hcz92_3); (try clear hcz92_4); (try clear hcz92_5); (try clear hcz99_0); (try clear hcz99_1); (try clear hcz99_2); (try clear hcz99_3)
              (try clear hcz99_4); (try clear hcz99_5); (try clear hfz107_0); (try clear hfz107_1); (try clear hfz107_2); (try clear hfz107_3); (try clear hfz107_4); (try clear hfz107_5); (try clear hfz125_0); (try clear hfz125_1); (try clear hfz125_2); (try clear hfz131_0); (try clear hfz131_1); (try clear hfz131_2); (try clear hfz14_0); (try clear hfz14_1); (try clear hfz14_2); (try clear hfz22_0)
              (try clear hfz22_1); (try clear hfz22_2); (try clear hfz53_0); (try clear hfz53_1); (try clear hfz53_2); (try clear hfz53_3); (try clear hfz53_4); (try clear hfz53_5); (try clear hfz58_0); (try clear hfz58_1); (try clear hfz58_2); (try clear hfz58_3); (try clear hfz58_4); (try clear hfz58_5); (try clear hfz84_0); (try clear hfz84_1); (try clear hfz84_2); (try clear hfz84_3); (try clear hfz84_4)
              (try clear hfz84_5); (try clear hfz92_0); (try clear hfz92_1); (try clear hfz92_2); (try clear hfz92_3); (try clear hfz92_4); (try clear hfz92_5); (try clear hfz99_0); (try clear hfz99_1); (try clear hfz99_2); (try clear hfz99_3); (try clear hfz99_4); (try clear hfz99_5); (try clear hx266_0); (try clear hx266_1); (try clear hx266_2); (try clear hx266_3); (try clear hx269_0); (try clear hx269_1)
              (try clear hx269_2); (try clear hx269_3); (try clear hx269_4); (try clear hx269_5); (try clear hx270_0); (try clear hx270_1); (try clear hx270_2); (try clear hx270_3); (try clear hx270_4); (try clear hx270_5); (try clear hx272_0); (try clear hx272_1); (try clear hx272_2); (try clear hx273_0); (try clear hx273_1); (try clear hx273_2); (try clear hx274_0); (try clear hx274_1); (try clear hx274_2)
              (try clear hx275_0); (try clear hx275_1); (try clear hx275_2); (try clear hx276_0); (try clear hx276_1); (try clear hx276_2); (try clear p2); (try clear p26); (try clear p266); (try clear p269); (try clear p27); (try clear p270); (try clear p272); (try clear p273); (try clear p274); (try clear p275); (try clear p276); (try clear p6); (try clear p64); (try clear q2); (try clear q26); (try clear q266)
              (try clear q269); (try clear q27); (try clear q270); (try clear q272); (try clear q273); (try clear q274); (try clear q275); (try clear q276)
              obtain ⟨kq, x218_114, rfl, HA, HJ114, HO_13, BK252, BK257, BK262, BK271, BK284, BK291, HB⟩ := hcut
              cases kq with
              | zero => exact absurd HA.out (by simp [ambidextertop_TopTimetable.j6])
              | succ kj114 =>
               have H := HA.out
               clear HA
               simp only [ambidextertop_TopTimetable.j6] at H
               by_cases c132 : x218_114 = true
               ·
                subst c132
                have H1 : (some false) = some r := by rw [if_pos rfl] at H; exact H
                clear H
                have H := H1
                clear H1
                exact absurd HT.out (by rw [← Option.some.inj H]; decide)
               replace c132 := Bool.eq_false_iff.mpr c132
               subst c132
               have H1 : (if (wrap64 ((dget [t285, t286, t287, t288, t289, t290] ((ji109) * 3 + (ji112))) - (dget [x285000_5, x285001_5, x285002_5, x285003_5, x285004_5, x285005_5] ((ji109) * 3 + (ji112))))) = 0 then (ambidextertop_TopTimetable.l4 kj114 true t258 x18_2 x25_5 x27_6 (wrap64 (x28_6 + 1)) t254 t255 t256 x263000_1 x263001_1 x263002_1 x263003_1 x263004_1 x263005_1 x272000_3 x272001_3 x272002_3 x272003_3 x272004_3 x272005_3 x285000_5 x285001_5 x285002_5 x285003_5 x285004_5 x285005_5 t285 t286 t287 t288 t289 t290) else (ambidextertop_TopTimetable.l4 kj114 true t258 x18_2 x25_5 (wrap64 (x27_6 + 1)) (wrap64 (x28_6 + 1)) t254 t255 t256 x263000_1 x263001_1 x263002_1 x263003_1 x263004_1 x263005_1 x272000_3 x272001_3 x272002_3 x272003_3 x272004_3 x272005_3 x285000_5 x285001_5 x285002_5 x285003_5 x285004_5 x285005_5 t285 t286 t287 t288 t289 t290)) = some r := by rw [if_neg (show ¬ (false = true) by decide)] at H; exact H
               clear H
               have H := H1
               clear H1
               by_cases c133 : (wrap64 ((dget [t285, t286, t287, t288, t289, t290] ((ji109) * 3 + (ji112))) - (dget [x285000_5, x285001_5, x285002_5, x285003_5, x285004_5, x285005_5] ((ji109) * 3 + (ji112))))) = 0
               case neg =>
                rw [if_neg c133] at H
                have c133b0 : ((wrap64 ((dget [t285, t286, t287, t288, t289, t290] ((ji109) * 3 + (ji112))) - (dget [x285000_5, x285001_5, x285002_5, x285003_5, x285004_5, x285005_5] ((ji109) * 3 + (ji112))))) == 0) = false := beq_eq_false_iff_ne.mpr c133
                have c133b1 : ((wrap64 ((dget [t285, t286, t287, t288, t289, t290] ((ji109) * 3 + (ji112))) - (dget [x285000_5, x285001_5, x285002_5, x285003_5, x285004_5, x285005_5] ((ji109) * 3 + (ji112))))) != 0) = true := bne_iff_ne.mpr c133
                have H' := Aside0.mk H
                clear H
                go_wp2
                go_roundg kj114
                case measure => have := HK1.out; have := HK2.out; have := HK3.out; have := HJ68.out; have := HK5.out; have := HK6.out; have := HJ114.out; omega
                case rel => exact ⟨(wrap64 (x27_6 + 1)), (wrap64 (x28_6 + 1)), (by first | rfl | (simp; done) | (simp [*]; done)), (by first | rfl | (simp; done) | (simp [*]; done)), H', ⟨by have := HK1.out; have := HK2.out; have := HK3.out; have := HJ68.out; have := HK5.out; have := HK6.out; have := HJ114.out; omega⟩, ⟨by (with_reducible repeat (first | apply Kd.S_alloc | apply Kd.S_drewN | apply Kd.S_drew)); exact HO_13.out⟩, ⟨by (with_reducible repeat (first | refine blk_drewN ?_ _ | refine blk_drew ?_ | refine blk_alloc ?_ _)); exact BK252.out⟩, ⟨by (with_reducible repeat (first | refine blk_drewN ?_ _ | refine blk_drew ?_ | refine blk_alloc ?_ _)); exact BK257.out⟩, ⟨by (with_reducible repeat (first | refine blk_drewN ?_ _ | refine blk_drew ?_ | refine blk_alloc ?_ _)); exact BK262.out⟩, ⟨by (with_reducible repeat (first | refine blk_drewN ?_ _ | refine blk_drew ?_ | refine blk_alloc ?_ _)); exact BK271.out⟩, ⟨by (with_reducible repeat (first | refine blk_drewN ?_ _ | refine blk_drew ?_ | refine blk_alloc ?_ _)); exact BK284.out⟩, ⟨by (with_reducible repeat (first | refine blk_drewN ?_ _ | refine blk_drew ?_ | refine blk_alloc ?_ _)); exact BK291.out⟩, ⟨by repeat (first | (with_reducible first | exact HB.out | apply below_alloc | apply pw_below_drewN | apply below_drew1 | refine below_set ?_ GE252.out | refine below_set ?_ GE257.out | refine below_set ?_ GE262.out | refine below_set ?_ GE271.out | refine below_set ?_ GE284.out | refine below_set ?_ GE291.out) | exact HB.out)⟩⟩
               rw [if_pos c133] at H
               have c133b0 : ((wrap64 ((dget [t285, t286, t287, t288, t289, t290] ((ji109) * 3 + (ji112))) - (dget [x285000_5, x285001_5, x285002_5, x285003_5, x285004_5, x285005_5] ((ji109) * 3 + (ji112))))) == 0) = true := beq_iff_eq.mpr c133
               have c133b1 : ((wrap64 ((dget [t285, t286, t287, t288, t289, t290] ((ji109) * 3 + (ji112))) - (dget [x285000_5, x285001_5, x285002_5, x285003_5, x285004_5, x285005_5] ((ji109) * 3 + (ji112))))) != 0) = false := bne_eq_false_iff_eq.mpr c133
               clear c133
               have H' := Aside0.mk H
               clear H
               go_wp2
               go_roundg kj114
               case measure => have := HK1.out; have := HK2.out; have := HK3.out; have := HJ68.out; have := HK5.out; have := HK6.out; have := HJ114.out; omega
               case rel => exact ⟨(x27_6), (wrap64 (x28_6 + 1)), (by first | rfl | (simp; done) | (simp [*]; done)), (by first | rfl | (simp; done) | (simp [*]; done)), H', ⟨by have := HK1.out; have := HK2.out; have := HK3.out; have := HJ68.out; have := HK5.out; have := HK6.out; have := HJ114.out; omega⟩, ⟨by (with_reducible repeat (first | apply Kd.S_alloc | apply Kd.S_drewN | apply Kd.S_drew)); exact HO_13.out⟩, ⟨by (with_reducible repeat (first | refine blk_drewN ?_ _ | refine blk_drew ?_ | refine blk_alloc ?_ _)); exact BK252.out⟩, ⟨by (with_reducible repeat (first | refine blk_drewN ?_ _ | refine blk_drew ?_ | refine blk_alloc ?_ _)); exact BK257.out⟩, ⟨by (with_reducible repeat (first | refine blk_drewN ?_ _ | refine blk_drew ?_ | refine blk_alloc ?_ _)); exact BK262.out⟩, ⟨by (with_reducible repeat (first | refine blk_drewN ?_ _ | refine blk_drew ?_ | refine blk_alloc ?_ _)); exact BK271.out⟩, ⟨by (with_reducible repeat (first | refine blk_drewN ?_ _ | refine blk_drew ?_ | refine blk_alloc ?_ _)); exact BK284.out⟩, ⟨by (with_reducible repeat (first | refine blk_drewN ?_ _ | refine blk_drew ?_ | refine blk_alloc ?_ _)); exact BK291.out⟩, ⟨by repeat (first | (with_reducible first | exact HB.out | apply below_alloc | apply pw_below_drewN | apply below_drew1 | refine below_set ?_ GE252.out | refine below_set ?_ GE257.out | refine below_set ?_ GE262.out | refine below_set ?_ GE271.out | refine below_set ?_ GE284.out | refine below_set ?_ GE291.out) | exact HB.out)⟩⟩
end Go.Proofs.Ytmmaodlngnjmlaa.P
