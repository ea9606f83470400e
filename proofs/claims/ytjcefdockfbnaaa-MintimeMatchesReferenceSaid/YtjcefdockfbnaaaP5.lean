-- Written by this session's own program, for this seat. Lean checks it.
import Derived.Test.YtjcefdockfbnaaaP0
import Derived.Test.YtjcefdockfbnaaaP1
import Derived.Test.YtjcefdockfbnaaaP2
import Derived.Test.YtjcefdockfbnaaaP3
import Derived.Test.YtjcefdockfbnaaaP4
namespace Go.Proofs.Ytjcefdockfbnaaa.P
open Go.RowKit Go.Proofs.YtjcefdockfbnaaaW.PrintWords Go.Proofs.YtjcefdockfbnaaaW.PrintLast Go.Proofs.YtjcefdockfbnaaaW.PrintMore
attribute [local go_sem] max2_int min2_int max_two min_two max_three min_three max_four min_four   -- for this text's walks alone
set_option linter.unusedVariables false
set_option linter.unusedSimpArgs false

/-! ### ambidexterref21_May: function 42 -/
def ambidexterref21_May.f (a0_0 : Int) (a0_1 : Int) (a0_2 : Int) : Option (Bool) := if a0_0 ≥ 1 then (if a0_0 ≤ 8 then (if a0_1 ≥ 1 then (if a0_1 ≤ 4 then (if a0_2 ≥ 1 then (some (decide (a0_2 ≤ 2))) else (some false)) else (some false)) else (some false)) else (some false)) else (some false)
set_option maxHeartbeats 8000000 in
set_option maxRecDepth 100000 in
theorem ambidexterref21_May.calls (a0_0 : Int) (a0_1 : Int) (a0_2 : Int) (r : Bool) (w : World) (h : ambidexterref21_May.f a0_0 a0_1 a0_2 = some r) :
    Calls Try.prog 42 #[.agg #[.int .i64 a0_0, .int .i64 a0_1, .int .i64 a0_2]] w fun e w' => e = .returned (.bool r) ∧ Below w.heap.size w w' := by
  have hu23 := Try.underlying23
  have HB := Aside0.mk (Below.refl w.heap.size w)
  have H : (if a0_0 ≥ 1 then (if a0_0 ≤ 8 then (if a0_1 ≥ 1 then (if a0_1 ≤ 4 then (if a0_2 ≥ 1 then (some (decide (a0_2 ≤ 2))) else (some false)) else (some false)) else (some false)) else (some false)) else (some false)) = some r := h
  clear h
  by_cases c2 : a0_0 ≥ 1
  · rw [if_pos c2] at H
    have c2b0 : decide (1 ≤ a0_0) = true := decide_eq_true c2
    clear c2
    by_cases c3 : a0_0 ≤ 8
    · rw [if_pos c3] at H
      have c3b0 : decide (a0_0 ≤ 8) = true := decide_eq_true c3
      clear c3
      by_cases c4 : a0_1 ≥ 1
      · rw [if_pos c4] at H
        have c4b0 : decide (1 ≤ a0_1) = true := decide_eq_true c4
        clear c4
        by_cases c5 : a0_1 ≤ 4
        · rw [if_pos c5] at H
          have c5b0 : decide (a0_1 ≤ 4) = true := decide_eq_true c5
          clear c5
          by_cases c6 : a0_2 ≥ 1
          · rw [if_pos c6] at H
            have c6b0 : decide (1 ≤ a0_2) = true := decide_eq_true c6
            clear c6
            obtain rfl := Option.some.inj H
            go_enter Try.func42, Try.ntmps42
            go_wp2_with (first | ((with_reducible refine gate_dst (N := 1) rfl ?_); refine box_event ?hg (N := 1) ?hd (cs := #[.int .i64 a0_0, .int .i64 a0_1, .int .i64 a0_2]) (t := 23) ?hr ?_; (case hd => rfl); (case hg => rfl); (case hr => first | (go_simp; done) | (go_simp; rfl)); intro gb203 hg w7 hbox hb; have n0_ := Aside0.mk (below_step (by repeat (first | (with_reducible first | exact HB.out | apply below_alloc | apply pw_below_drewN | apply below_drew1) | exact HB.out)) hb); have n1_ := Aside0.mk (hbox); have n2_ := Aside0.mk ((by rw [hg]; exact (below_size (by repeat (first | (with_reducible first | exact HB.out | apply below_alloc | apply pw_below_drewN | apply below_drew1) | exact HB.out))) : w.heap.size ≤ gb203)); have n3_ := Aside0.mk ((by rw [hg]; exact (below_size (by repeat (first | (with_reducible first | exact HB.out | apply below_alloc | apply pw_below_drewN | apply below_drew1) | exact HB.out))) : w.heap.size ≤ gb203)); clear HB; have HB := n0_; have BK203 := n1_; have GW203 := n2_; have GE203 := n3_; clear n0_ n1_ n2_ n3_; clear hb hbox hg; have hcz8_0 : w7.cell? ⟨gb203, 0, none⟩ = some (.int .i64 a0_0) := (blk_cell BK203.out 0).trans rfl; have hcz8_1 : w7.cell? ⟨gb203, 1, none⟩ = some (.int .i64 a0_1) := (blk_cell BK203.out 1).trans rfl; have hcz8_2 : w7.cell? ⟨gb203, 2, none⟩ = some (.int .i64 a0_2) := (blk_cell BK203.out 2).trans rfl; have hfz8_0 := blk_frozen BK203.out 0; have hfz8_1 := blk_frozen BK203.out 1; have hfz8_2 := blk_frozen BK203.out 2))
            go_ret
            exact ⟨by first | rfl | (simp [errW_none, errW_some] <;> rfl) | (simp [*, errW_none, errW_some] <;> rfl), by repeat (first | (with_reducible first | exact HB.out | apply below_alloc | apply pw_below_drewN | apply below_drew1 | refine below_set ?_ GE203.out) | exact HB.out)⟩
          · rw [if_neg c6] at H
            have c6b0 : decide (1 ≤ a0_2) = false := decide_eq_false c6
            clear c6
            obtain rfl := Option.some.inj H
            go_enter Try.func42, Try.ntmps42
            go_wp2_with (first | ((with_reducible refine gate_dst (N := 1) rfl ?_); refine box_event ?hg (N := 1) ?hd (cs := #[.int .i64 a0_0, .int .i64 a0_1, .int .i64 a0_2]) (t := 23) ?hr ?_; (case hd => rfl); (case hg => rfl); (case hr => first | (go_simp; done) | (go_simp; rfl)); intro gb203 hg w9 hbox hb; have n0_ := Aside0.mk (below_step (by repeat (first | (with_reducible first | exact HB.out | apply below_alloc | apply pw_below_drewN | apply below_drew1) | exact HB.out)) hb); have n1_ := Aside0.mk (hbox); have n2_ := Aside0.mk ((by rw [hg]; exact (below_size (by repeat (first | (with_reducible first | exact HB.out | apply below_alloc | apply pw_below_drewN | apply below_drew1) | exact HB.out))) : w.heap.size ≤ gb203)); have n3_ := Aside0.mk ((by rw [hg]; exact (below_size (by repeat (first | (with_reducible first | exact HB.out | apply below_alloc | apply pw_below_drewN | apply below_drew1) | exact HB.out))) : w.heap.size ≤ gb203)); clear HB; have HB := n0_; have BK203 := n1_; have GW203 := n2_; have GE203 := n3_; clear n0_ n1_ n2_ n3_; clear hb hbox hg; have hcz10_0 : w9.cell? ⟨gb203, 0, none⟩ = some (.int .i64 a0_0) := (blk_cell BK203.out 0).trans rfl; have hcz10_1 : w9.cell? ⟨gb203, 1, none⟩ = some (.int .i64 a0_1) := (blk_cell BK203.out 1).trans rfl; have hcz10_2 : w9.cell? ⟨gb203, 2, none⟩ = some (.int .i64 a0_2) := (blk_cell BK203.out 2).trans rfl; have hfz10_0 := blk_frozen BK203.out 0; have hfz10_1 := blk_frozen BK203.out 1; have hfz10_2 := blk_frozen BK203.out 2))
            go_ret
            exact ⟨by first | rfl | (simp [errW_none, errW_some] <;> rfl) | (simp [*, errW_none, errW_some] <;> rfl), by repeat (first | (with_reducible first | exact HB.out | apply below_alloc | apply pw_below_drewN | apply below_drew1 | refine below_set ?_ GE203.out) | exact HB.out)⟩
        · rw [if_neg c5] at H
          have c5b0 : decide (a0_1 ≤ 4) = false := decide_eq_false c5
          clear c5
          obtain rfl := Option.some.inj H
          go_enter Try.func42, Try.ntmps42
          go_wp2_with (first | ((with_reducible refine gate_dst (N := 1) rfl ?_); refine box_event ?hg (N := 1) ?hd (cs := #[.int .i64 a0_0, .int .i64 a0_1, .int .i64 a0_2]) (t := 23) ?hr ?_; (case hd => rfl); (case hg => rfl); (case hr => first | (go_simp; done) | (go_simp; rfl)); intro gb203 hg w11 hbox hb; have n0_ := Aside0.mk (below_step (by repeat (first | (with_reducible first | exact HB.out | apply below_alloc | apply pw_below_drewN | apply below_drew1) | exact HB.out)) hb); have n1_ := Aside0.mk (hbox); have n2_ := Aside0.mk ((by rw [hg]; exact (below_size (by repeat (first | (with_reducible first | exact HB.out | apply below_alloc | apply pw_below_drewN | apply below_drew1) | exact HB.out))) : w.heap.size ≤ gb203)); have n3_ := Aside0.mk ((by rw [hg]; exact (below_size (by repeat (first | (with_reducible first | exact HB.out | apply below_alloc | apply pw_below_drewN | apply below_drew1) | exact HB.out))) : w.heap.size ≤ gb203)); clear HB; have HB := n0_; have BK203 := n1_; have GW203 := n2_; have GE203 := n3_; clear n0_ n1_ n2_ n3_; clear hb hbox hg; have hcz12_0 : w11.cell? ⟨gb203, 0, none⟩ = some (.int .i64 a0_0) := (blk_cell BK203.out 0).trans rfl; have hcz12_1 : w11.cell? ⟨gb203, 1, none⟩ = some (.int .i64 a0_1) := (blk_cell BK203.out 1).trans rfl; have hcz12_2 : w11.cell? ⟨gb203, 2, none⟩ = some (.int .i64 a0_2) := (blk_cell BK203.out 2).trans rfl; have hfz12_0 := blk_frozen BK203.out 0; have hfz12_1 := blk_frozen BK203.out 1; have hfz12_2 := blk_frozen BK203.out 2))
          go_ret
          exact ⟨by first | rfl | (simp [errW_none, errW_some] <;> rfl) | (simp [*, errW_none, errW_some] <;> rfl), by repeat (first | (with_reducible first | exact HB.out | apply below_alloc | apply pw_below_drewN | apply below_drew1 | refine below_set ?_ GE203.out) | exact HB.out)⟩
      · rw [if_neg c4] at H
        have c4b0 : decide (1 ≤ a0_1) = false := decide_eq_false c4
        clear c4
        obtain rfl := Option.some.inj H
        go_enter Try.func42, Try.ntmps42
        go_wp2_with (first | ((with_reducible refine gate_dst (N := 1) rfl ?_); refine box_event ?hg (N := 1) ?hd (cs := #[.int .i64 a0_0, .int .i64 a0_1, .int .i64 a0_2]) (t := 23) ?hr ?_; (case hd => rfl); (case hg => rfl); (case hr => first | (go_simp; done) | (go_simp; rfl)); intro gb203 hg w13 hbox hb; have n0_ := Aside0.mk (below_step (by repeat (first | (with_reducible first | exact HB.out | apply below_alloc | apply pw_below_drewN | apply below_drew1) | exact HB.out)) hb); have n1_ := Aside0.mk (hbox); have n2_ := Aside0.mk ((by rw [hg]; exact (below_size (by repeat (first | (with_reducible first | exact HB.out | apply below_alloc | apply pw_below_drewN | apply below_drew1) | exact HB.out))) : w.heap.size ≤ gb203)); have n3_ := Aside0.mk ((by rw [hg]; exact (below_size (by repeat (first | (with_reducible first | exact HB.out | apply below_alloc | apply pw_below_drewN | apply below_drew1) | exact HB.out))) : w.heap.size ≤ gb203)); clear HB; have HB := n0_; have BK203 := n1_; have GW203 := n2_; have GE203 := n3_; clear n0_ n1_ n2_ n3_; clear hb hbox hg; have hcz14_0 : w13.cell? ⟨gb203, 0, none⟩ = some (.int .i64 a0_0) := (blk_cell BK203.out 0).trans rfl; have hcz14_1 : w13.cell? ⟨gb203, 1, none⟩ = some (.int .i64 a0_1) := (blk_cell BK203.out 1).trans rfl; have hcz14_2 : w13.cell? ⟨gb203, 2, none⟩ = some (.int .i64 a0_2) := (blk_cell BK203.out 2).trans rfl; have hfz14_0 := blk_frozen BK203.out 0; have hfz14_1 := blk_frozen BK203.out 1; have hfz14_2 := blk_frozen BK203.out 2))
        go_ret
        exact ⟨by first | rfl | (simp [errW_none, errW_some] <;> rfl) | (simp [*, errW_none, errW_some] <;> rfl), by repeat (first | (with_reducible first | exact HB.out | apply below_alloc | apply pw_below_drewN | apply below_drew1 | refine below_set ?_ GE203.out) | exact HB.out)⟩
    · rw [if_neg c3] at H
      have c3b0 : decide (a0_0 ≤ 8) = false := decide_eq_false c3
      clear c3
      obtain rfl := Option.some.inj H
      go_enter Try.func42, Try.ntmps42
      go_wp2_with (first | ((with_reducible refine gate_dst (N := 1) rfl ?_); refine box_event ?hg (N := 1) ?hd (cs := #[.int .i64 a0_0, .int .i64 a0_1, .int .i64 a0_2]) (t := 23) ?hr ?_; (case hd => rfl); (case hg => rfl); (case hr => first | (go_simp; done) | (go_simp; rfl)); intro gb203 hg w15 hbox hb; have n0_ := Aside0.mk (below_step (by repeat (first | (with_reducible first | exact HB.out | apply below_alloc | apply pw_below_drewN | apply below_drew1) | exact HB.out)) hb); have n1_ := Aside0.mk (hbox); have n2_ := Aside0.mk ((by rw [hg]; exact (below_size (by repeat (first | (with_reducible first | exact HB.out | apply below_alloc | apply pw_below_drewN | apply below_drew1) | exact HB.out))) : w.heap.size ≤ gb203)); have n3_ := Aside0.mk ((by rw [hg]; exact (below_size (by repeat (first | (with_reducible first | exact HB.out | apply below_alloc | apply pw_below_drewN | apply below_drew1) | exact HB.out))) : w.heap.size ≤ gb203)); clear HB; have HB := n0_; have BK203 := n1_; have GW203 := n2_; have GE203 := n3_; clear n0_ n1_ n2_ n3_; clear hb hbox hg; have hcz16_0 : w15.cell? ⟨gb203, 0, none⟩ = some (.int .i64 a0_0) := (blk_cell BK203.out 0).trans rfl; have hcz16_1 : w15.cell? ⟨gb203, 1, none⟩ = some (.int .i64 a0_1) := (blk_cell BK203.out 1).trans rfl; have hcz16_2 : w15.cell? ⟨gb203, 2, none⟩ = some (.int .i64 a0_2) := (blk_cell BK203.out 2).trans rfl; have hfz16_0 := blk_frozen BK203.out 0; have hfz16_1 := blk_frozen BK203.out 1; have hfz16_2 := blk_frozen BK203.out 2))
      go_ret
      exact ⟨by first | rfl | (simp [errW_none, errW_some] <;> rfl) | (simp [*, errW_none, errW_some] <;> rfl), by repeat (first | (with_reducible first | exact HB.out | apply below_alloc | apply pw_below_drewN | apply below_drew1 | refine below_set ?_ GE203.out) | exact HB.out)⟩
  · rw [if_neg c2] at H
    have c2b0 : decide (1 ≤ a0_0) = false := decide_eq_false c2
    clear c2
    obtain rfl := Option.some.inj H
    go_enter Try.func42, Try.ntmps42
    go_wp2_with (first | ((with_reducible refine gate_dst (N := 1) rfl ?_); refine box_event ?hg (N := 1) ?hd (cs := #[.int .i64 a0_0, .int .i64 a0_1, .int .i64 a0_2]) (t := 23) ?hr ?_; (case hd => rfl); (case hg => rfl); (case hr => first | (go_simp; done) | (go_simp; rfl)); intro gb203 hg w17 hbox hb; have n0_ := Aside0.mk (below_step (by repeat (first | (with_reducible first | exact HB.out | apply below_alloc | apply pw_below_drewN | apply below_drew1) | exact HB.out)) hb); have n1_ := Aside0.mk (hbox); have n2_ := Aside0.mk ((by rw [hg]; exact (below_size (by repeat (first | (with_reducible first | exact HB.out | apply below_alloc | apply pw_below_drewN | apply below_drew1) | exact HB.out))) : w.heap.size ≤ gb203)); have n3_ := Aside0.mk ((by rw [hg]; exact (below_size (by repeat (first | (with_reducible first | exact HB.out | apply below_alloc | apply pw_below_drewN | apply below_drew1) | exact HB.out))) : w.heap.size ≤ gb203)); clear HB; have HB := n0_; have BK203 := n1_; have GW203 := n2_; have GE203 := n3_; clear n0_ n1_ n2_ n3_; clear hb hbox hg; have hcz18_0 : w17.cell? ⟨gb203, 0, none⟩ = some (.int .i64 a0_0) := (blk_cell BK203.out 0).trans rfl; have hcz18_1 : w17.cell? ⟨gb203, 1, none⟩ = some (.int .i64 a0_1) := (blk_cell BK203.out 1).trans rfl; have hcz18_2 : w17.cell? ⟨gb203, 2, none⟩ = some (.int .i64 a0_2) := (blk_cell BK203.out 2).trans rfl; have hfz18_0 := blk_frozen BK203.out 0; have hfz18_1 := blk_frozen BK203.out 1; have hfz18_2 := blk_frozen BK203.out 2))
    go_ret
    exact ⟨by first | rfl | (simp [errW_none, errW_some] <;> rfl) | (simp [*, errW_none, errW_some] <;> rfl), by repeat (first | (with_reducible first | exact HB.out | apply below_alloc | apply pw_below_drewN | apply below_drew1 | refine below_set ?_ GE203.out) | exact HB.out)⟩

/-! ### ambidexterref22_spot: function 43 -/
def ambidexterref22_spot.f (a0_0 : Int) (a0_1 : Int) (a0_2 : Int) (a1_0 : Int) (a1_1 : Int) (a1_2 : Int) : Option (Int) := some (wrap64 ((wrap64 ((wrap64 ((wrap64 ((wrap64 ((wrap64 (a1_0 * (wrap64 ((wrap64 (2 * a0_0)) + 1)))) + a1_1)) + a0_0)) * (wrap64 ((wrap64 (2 * a0_1)) + 1)))) + a1_2)) + a0_1))
set_option maxHeartbeats 8000000 in
set_option maxRecDepth 100000 in
theorem ambidexterref22_spot.calls (a0_0 : Int) (a0_1 : Int) (a0_2 : Int) (a1_0 : Int) (a1_1 : Int) (a1_2 : Int) (r : Int) (w : World) (h : ambidexterref22_spot.f a0_0 a0_1 a0_2 a1_0 a1_1 a1_2 = some r) :
    Calls Try.prog 43 #[.agg #[.int .i64 a0_0, .int .i64 a0_1, .int .i64 a0_2], .agg #[.int .i64 a1_0, .int .i64 a1_1, .int .i64 a1_2]] w fun e w' => e = .returned (.int .i64 r) ∧ Below w.heap.size w w' := by
  have hu23 := Try.underlying23
  have hu37 := Try.underlying37
  have HB := Aside0.mk (Below.refl w.heap.size w)
  have H : (some (wrap64 ((wrap64 ((wrap64 ((wrap64 ((wrap64 ((wrap64 (a1_0 * (wrap64 ((wrap64 (2 * a0_0)) + 1)))) + a1_1)) + a0_0)) * (wrap64 ((wrap64 (2 * a0_1)) + 1)))) + a1_2)) + a0_1))) = some r := h
  clear h
  obtain rfl := Option.some.inj H
  go_enter Try.func43, Try.ntmps43
  go_wp2_with (first | ((with_reducible refine gate_dst (N := 2) rfl ?_); refine box_event ?hg (N := 2) ?hd (cs := #[.int .i64 a0_0, .int .i64 a0_1, .int .i64 a0_2]) (t := 23) ?hr ?_; (case hd => rfl); (case hg => rfl); (case hr => first | (go_simp; done) | (go_simp; rfl)); intro gb204 hg w3 hbox hb; have n0_ := Aside0.mk (below_step (by repeat (first | (with_reducible first | exact HB.out | apply below_alloc | apply pw_below_drewN | apply below_drew1) | exact HB.out)) hb); have n1_ := Aside0.mk (hbox); have n2_ := Aside0.mk ((by rw [hg]; exact (below_size (by repeat (first | (with_reducible first | exact HB.out | apply below_alloc | apply pw_below_drewN | apply below_drew1) | exact HB.out))) : w.heap.size ≤ gb204)); have n3_ := Aside0.mk ((by rw [hg]; exact (below_size (by repeat (first | (with_reducible first | exact HB.out | apply below_alloc | apply pw_below_drewN | apply below_drew1) | exact HB.out))) : w.heap.size ≤ gb204)); clear HB; have HB := n0_; have BK204 := n1_; have GW204 := n2_; have GE204 := n3_; clear n0_ n1_ n2_ n3_; clear hb hbox hg) | ((with_reducible refine gate_dst (N := 3) rfl ?_); refine box_event ?hg (N := 3) ?hd (cs := #[.int .i64 a1_0, .int .i64 a1_1, .int .i64 a1_2]) (t := 37) ?hr ?_; (case hd => rfl); (case hg => rfl); (case hr => first | (go_simp; done) | (go_simp; rfl)); intro gb205 hg w4 hbox hb; have n0_ := Aside0.mk (blk_below (g := gb204) (o := .cells #[.int .i64 a0_0, .int .i64 a0_1, .int .i64 a0_2] 23 (0, 0)) (by (with_reducible repeat (first | refine blk_drewN ?_ _ | refine blk_drew ?_ | refine blk_alloc ?_ _)); exact BK204.out) hb); have n1_ := Aside0.mk (below_step (by repeat (first | (with_reducible first | exact HB.out | apply below_alloc | apply pw_below_drewN | apply below_drew1 | refine below_set ?_ GE204.out) | exact HB.out)) hb); have n2_ := Aside0.mk (hbox); have n3_ := Aside0.mk ((by rw [hg]; exact (below_size (by repeat (first | (with_reducible first | exact HB.out | apply below_alloc | apply pw_below_drewN | apply below_drew1 | refine below_set ?_ GE204.out) | exact HB.out))) : w.heap.size ≤ gb205)); have n4_ := Aside0.mk ((by rw [hg]; exact (below_size (by repeat (first | (with_reducible first | exact HB.out | apply below_alloc | apply pw_below_drewN | apply below_drew1 | refine below_set ?_ GE204.out) | exact HB.out))) : w.heap.size ≤ gb205)); have n5_ := Aside0.mk ((by rw [hg]; exact Nat.ne_of_lt (blk_lt (g := gb204) (o := .cells #[.int .i64 a0_0, .int .i64 a0_1, .int .i64 a0_2] 23 (0, 0)) (by (with_reducible repeat (first | refine blk_drewN ?_ _ | refine blk_drew ?_ | refine blk_alloc ?_ _)); exact BK204.out)) : gb204 ≠ gb205)); have n6_ := Aside0.mk ((by rw [hg]; exact Nat.ne_of_gt (blk_lt (g := gb204) (o := .cells #[.int .i64 a0_0, .int .i64 a0_1, .int .i64 a0_2] 23 (0, 0)) (by (with_reducible repeat (first | refine blk_drewN ?_ _ | refine blk_drew ?_ | refine blk_alloc ?_ _)); exact BK204.out)) : gb205 ≠ gb204)); clear BK204; clear HB; have BK204 := n0_; have HB := n1_; have BK205 := n2_; have GW205 := n3_; have GE205 := n4_; have NB204_205 := n5_; have NB205_204 := n6_; clear n0_ n1_ n2_ n3_ n4_ n5_ n6_; clear hb hbox hg; have hnb5 := NB205_204.out; have hnc5 := NB204_205.out; have hcz6_0 : w4.cell? ⟨gb205, 0, none⟩ = some (.int .i64 a1_0) := (blk_cell BK205.out 0).trans rfl; have hcz6_1 : w4.cell? ⟨gb205, 1, none⟩ = some (.int .i64 a1_1) := (blk_cell BK205.out 1).trans rfl; have hcz6_2 : w4.cell? ⟨gb205, 2, none⟩ = some (.int .i64 a1_2) := (blk_cell BK205.out 2).trans rfl; have hfz6_0 := blk_frozen BK205.out 0; have hfz6_1 := blk_frozen BK205.out 1; have hfz6_2 := blk_frozen BK205.out 2; have hcz7_0 : w4.cell? ⟨gb204, 0, none⟩ = some (.int .i64 a0_0) := (blk_cell BK204.out 0).trans rfl; have hcz7_1 : w4.cell? ⟨gb204, 1, none⟩ = some (.int .i64 a0_1) := (blk_cell BK204.out 1).trans rfl; have hcz7_2 : w4.cell? ⟨gb204, 2, none⟩ = some (.int .i64 a0_2) := (blk_cell BK204.out 2).trans rfl; have hfz7_0 := blk_frozen BK204.out 0; have hfz7_1 := blk_frozen BK204.out 1; have hfz7_2 := blk_frozen BK204.out 2))
  go_ret
  exact ⟨by first | rfl | (simp [errW_none, errW_some] <;> rfl) | (simp [*, errW_none, errW_some] <;> rfl), by repeat (first | (with_reducible first | exact HB.out | apply below_alloc | apply pw_below_drewN | apply below_drew1 | refine below_set ?_ GE204.out | refine below_set ?_ GE205.out) | exact HB.out)⟩

attribute [local go_sem high] eqA37

/-! ### ambidexterref22_Find: function 17 -/
mutual
def ambidexterref22_Find.j0 : Nat → Int → Bool → Int → Int → Int → Option (List Int × Bool)
  | 0, _, _, _, _, _ => none
  | k + 1, x1, x25, x211000, x211001, x211002 => if x25 = true then (some (([] : List Int), false)) else (if 0 ≤ (wrap64 ((wrap64 ((wrap64 (x1 + 1)) * (wrap64 ((wrap64 (2 * x211000)) + 1)))) * (wrap64 ((wrap64 (2 * x211001)) + 1)))) then (if (wrap64 ((wrap64 ((wrap64 (x1 + 1)) * (wrap64 ((wrap64 (2 * x211000)) + 1)))) * (wrap64 ((wrap64 (2 * x211001)) + 1))) : Int).toNat ≤ 281474976710656 then ((some (List.replicate (wrap64 ((wrap64 ((wrap64 (x1 + 1)) * (wrap64 ((wrap64 (2 * x211000)) + 1)))) * (wrap64 ((wrap64 (2 * x211001)) + 1))) : Int).toNat false : List Bool)).bind fun y212 => ((some (([(⟨(⟨0, 0, 0⟩ : S37), (-1), 0⟩ : S69)] : List (S69)) : List (S69))).bind fun y215 => (if 0 < (y215.length : Int) then ((ambidexterref22_spot.f x211000 x211001 x211002 ((rd_T69 y215 0).f0.f0) ((rd_T69 y215 0).f0.f1) ((rd_T69 y215 0).f0.f2)).bind fun t219 => (if 0 ≤ t219 then (if t219 < (y212.length : Int) then (ambidexterref22_Find.l0 k x1 (y212.set (t219 : Int).toNat true) y215 0 x211000 x211001 x211002) else (none)) else (none))) else (none)))) else (none)) else (none))
def ambidexterref22_Find.l0 : Nat → Int → List Bool → List (S69) → Int → Int → Int → Int → Option (List Int × Bool)
  | 0, _, _, _, _, _, _, _ => none
  | k + 1, x1, x6, x7, x8, x211000, x211001, x211002 => if x8 < (x7.length : Int) then (if 0 ≤ x8 then (if (((rd_T69 x7 x8).f0.f0) == x1 && (((rd_T69 x7 x8).f0.f1) == 0 && (((rd_T69 x7 x8).f0.f2) == 0))) = true then (ambidexterref22_Find.l1 k x7 x8 (([] : List Int)) x8) else (ambidexterref22_Find.l3 k x1 x6 x7 x8 (wrap64 (-x211002)) x211000 x211001 x211002)) else (none)) else (some (([] : List Int), false))
def ambidexterref22_Find.l1 : Nat → List (S69) → Int → List Int → Int → Option (List Int × Bool)
  | 0, _, _, _, _ => none
  | k + 1, x7, x8, x9, x10 => if 0 ≤ x10 then (if x10 < (x7.length : Int) then (if ((rd_T69 x7 x10).f1) ≥ 0 then (if x9.length < 17592186044416 then (ambidexterref22_Find.l1 k x7 x8 (x9 ++ [0]) ((rd_T69 x7 x10).f1)) else (none)) else (ambidexterref22_Find.l2 k x7 x9 (x9.length : Int) x8)) else (none)) else (none)
def ambidexterref22_Find.l2 : Nat → List (S69) → List Int → Int → Int → Option (List Int × Bool)
  | 0, _, _, _, _ => none
  | k + 1, x7, x9, x11, x12 => if 0 ≤ x12 then (if x12 < (x7.length : Int) then (if ((rd_T69 x7 x12).f1) ≥ 0 then (if 0 ≤ (wrap64 (x11 - 1)) then (if (wrap64 (x11 - 1)) < (x9.length : Int) then (ambidexterref22_Find.l2 k x7 (x9.set ((wrap64 (x11 - 1)) : Int).toNat ((rd_T69 x7 x12).f2)) (wrap64 (x11 - 1)) ((rd_T69 x7 x12).f1)) else (none)) else (none)) else (some (x9, true))) else (none)) else (none)
def ambidexterref22_Find.l3 : Nat → Int → List Bool → List (S69) → Int → Int → Int → Int → Int → Option (List Int × Bool)
  | 0, _, _, _, _, _, _, _, _ => none
  | k + 1, x1, x6, x7, x8, x13, x211000, x211001, x211002 => if x13 ≤ x211002 then (if 0 ≤ x8 then (if x8 < (x7.length : Int) then ((ambidexterref21_Tick.f ((rd_T69 x7 x8).f0.f0) ((rd_T69 x7 x8).f0.f1) ((rd_T69 x7 x8).f0.f2) x13).bind fun bt235 => ((ambidexterref22_may.f x211000 x211001 x211002 x1 bt235.1 bt235.2.1 bt235.2.2).bind fun t239 => (if t239 = true then ((ambidexterref22_spot.f x211000 x211001 x211002 bt235.1 bt235.2.1 bt235.2.2).bind fun t240 => (if 0 ≤ t240 then (if t240 < (x6.length : Int) then (if rdOf false x6 t240 = true then (ambidexterref22_Find.l3 k x1 x6 x7 x8 (wrap64 (x13 + 1)) x211000 x211001 x211002) else ((ambidexterref22_spot.f x211000 x211001 x211002 bt235.1 bt235.2.1 bt235.2.2).bind fun t242 => (if 0 ≤ t242 then (if t242 < (x6.length : Int) then (if x7.length < 3518437208883 then (ambidexterref22_Find.l3 k x1 (x6.set (t242 : Int).toNat true) (x7 ++ [(⟨(⟨bt235.1, bt235.2.1, bt235.2.2⟩ : S37), x8, x13⟩ : S69)]) x8 (wrap64 (x13 + 1)) x211000 x211001 x211002) else (none)) else (none)) else (none)))) else (none)) else (none))) else (ambidexterref22_Find.l3 k x1 x6 x7 x8 (wrap64 (x13 + 1)) x211000 x211001 x211002)))) else (none)) else (none)) else (ambidexterref22_Find.l0 k x1 x6 x7 (wrap64 (x8 + 1)) x211000 x211001 x211002)
end
def ambidexterref22_Find.f (k : Nat) (a0_0 : Int) (a0_1 : Int) (a0_2 : Int) (a1 : Int) : Option (List Int × Bool) := (ambidexterref21_May.f a0_0 a0_1 a0_2).bind fun t211 => (if t211 = true then (if a1 < 0 then (ambidexterref22_Find.j0 k a1 true a0_0 a0_1 a0_2) else (ambidexterref22_Find.j0 k a1 (decide (a1 > 420)) a0_0 a0_1 a0_2)) else (ambidexterref22_Find.j0 k a1 true a0_0 a0_1 a0_2))
theorem ambidexterref22_Find.mono_l : ∀ k, (∀ y0 y1 y2 y3 y4, LeO (ambidexterref22_Find.j0 k y0 y1 y2 y3 y4) (ambidexterref22_Find.j0 (k + 1) y0 y1 y2 y3 y4)) ∧ (∀ y0 y1 y2 y3 y4 y5 y6, LeO (ambidexterref22_Find.l0 k y0 y1 y2 y3 y4 y5 y6) (ambidexterref22_Find.l0 (k + 1) y0 y1 y2 y3 y4 y5 y6)) ∧ (∀ y0 y1 y2 y3, LeO (ambidexterref22_Find.l1 k y0 y1 y2 y3) (ambidexterref22_Find.l1 (k + 1) y0 y1 y2 y3)) ∧ (∀ y0 y1 y2 y3, LeO (ambidexterref22_Find.l2 k y0 y1 y2 y3) (ambidexterref22_Find.l2 (k + 1) y0 y1 y2 y3)) ∧ (∀ y0 y1 y2 y3 y4 y5 y6 y7, LeO (ambidexterref22_Find.l3 k y0 y1 y2 y3 y4 y5 y6 y7) (ambidexterref22_Find.l3 (k + 1) y0 y1 y2 y3 y4 y5 y6 y7))
  | 0 => ⟨fun _ _ _ _ _ r h => by simp [ambidexterref22_Find.j0] at h, fun _ _ _ _ _ _ _ r h => by simp [ambidexterref22_Find.l0] at h, fun _ _ _ _ r h => by simp [ambidexterref22_Find.l1] at h, fun _ _ _ _ r h => by simp [ambidexterref22_Find.l2] at h, fun _ _ _ _ _ _ _ _ r h => by simp [ambidexterref22_Find.l3] at h⟩
  | k + 1 => by
    obtain ⟨ih0, ih1, ih2, ih3, ih4⟩ := ambidexterref22_Find.mono_l k
    refine ⟨?_, ?_, ?_, ?_, ?_⟩
    · intro y0 y1 y2 y3 y4
      unfold ambidexterref22_Find.j0
      repeat' first
      | (with_reducible exact ih0 _ _ _ _ _)
      | (with_reducible exact ih1 _ _ _ _ _ _ _)
      | (with_reducible exact ih2 _ _ _ _)
      | (with_reducible exact ih3 _ _ _ _)
      | (with_reducible exact ih4 _ _ _ _ _ _ _ _)
      | (with_reducible exact LeO.refl _)
      | (with_reducible exact LeO.none _)
      | (with_reducible refine LeO.ite ?_ ?_)
      | (with_reducible refine LeO.bind ?_ (fun _ => ?_))
      | exact ih0 _ _ _ _ _
      | exact ih1 _ _ _ _ _ _ _
      | exact ih2 _ _ _ _
      | exact ih3 _ _ _ _
      | exact ih4 _ _ _ _ _ _ _ _
      | exact LeO.none _
      | refine LeO.ite ?_ ?_
      | refine LeO.bind ?_ (fun _ => ?_)
    · intro y0 y1 y2 y3 y4 y5 y6
      unfold ambidexterref22_Find.l0
      repeat' first
      | (with_reducible exact ih0 _ _ _ _ _)
      | (with_reducible exact ih1 _ _ _ _ _ _ _)
      | (with_reducible exact ih2 _ _ _ _)
      | (with_reducible exact ih3 _ _ _ _)
      | (with_reducible exact ih4 _ _ _ _ _ _ _ _)
      | (with_reducible exact LeO.refl _)
      | (with_reducible exact LeO.none _)
      | (with_reducible refine LeO.ite ?_ ?_)
      | (with_reducible refine LeO.bind ?_ (fun _ => ?_))
      | exact ih0 _ _ _ _ _
      | exact ih1 _ _ _ _ _ _ _
      | exact ih2 _ _ _ _
      | exact ih3 _ _ _ _
      | exact ih4 _ _ _ _ _ _ _ _
      | exact LeO.none _
      | refine LeO.ite ?_ ?_
      | refine LeO.bind ?_ (fun _ => ?_)
    · intro y0 y1 y2 y3
      unfold ambidexterref22_Find.l1
      repeat' first
      | (with_reducible exact ih0 _ _ _ _ _)
      | (with_reducible exact ih1 _ _ _ _ _ _ _)
      | (with_reducible exact ih2 _ _ _ _)
      | (with_reducible exact ih3 _ _ _ _)
      | (with_reducible exact ih4 _ _ _ _ _ _ _ _)
      | (with_reducible exact LeO.refl _)
      | (with_reducible exact LeO.none _)
      | (with_reducible refine LeO.ite ?_ ?_)
      | (with_reducible refine LeO.bind ?_ (fun _ => ?_))
      | exact ih0 _ _ _ _ _
      | exact ih1 _ _ _ _ _ _ _
      | exact ih2 _ _ _ _
      | exact ih3 _ _ _ _
      | exact ih4 _ _ _ _ _ _ _ _
      | exact LeO.none _
      | refine LeO.ite ?_ ?_
      | refine LeO.bind ?_ (fun _ => ?_)
    · intro y0 y1 y2 y3
      unfold ambidexterref22_Find.l2
      repeat' first
      | (with_reducible exact ih0 _ _ _ _ _)
      | (with_reducible exact ih1 _ _ _ _ _ _ _)
      | (with_reducible exact ih2 _ _ _ _)
      | (with_reducible exact ih3 _ _ _ _)
      | (with_reducible exact ih4 _ _ _ _ _ _ _ _)
      | (with_reducible exact LeO.refl _)
      | (with_reducible exact LeO.none _)
      | (with_reducible refine LeO.ite ?_ ?_)
      | (with_reducible refine LeO.bind ?_ (fun _ => ?_))
      | exact ih0 _ _ _ _ _
      | exact ih1 _ _ _ _ _ _ _
      | exact ih2 _ _ _ _
      | exact ih3 _ _ _ _
      | exact ih4 _ _ _ _ _ _ _ _
      | exact LeO.none _
      | refine LeO.ite ?_ ?_
      | refine LeO.bind ?_ (fun _ => ?_)
    · intro y0 y1 y2 y3 y4 y5 y6 y7
      unfold ambidexterref22_Find.l3
      repeat' first
      | (with_reducible exact ih0 _ _ _ _ _)
      | (with_reducible exact ih1 _ _ _ _ _ _ _)
      | (with_reducible exact ih2 _ _ _ _)
      | (with_reducible exact ih3 _ _ _ _)
      | (with_reducible exact ih4 _ _ _ _ _ _ _ _)
      | (with_reducible exact LeO.refl _)
      | (with_reducible exact LeO.none _)
      | (with_reducible refine LeO.ite ?_ ?_)
      | (with_reducible refine LeO.bind ?_ (fun _ => ?_))
      | exact ih0 _ _ _ _ _
      | exact ih1 _ _ _ _ _ _ _
      | exact ih2 _ _ _ _
      | exact ih3 _ _ _ _
      | exact ih4 _ _ _ _ _ _ _ _
      | exact LeO.none _
      | refine LeO.ite ?_ ?_
      | refine LeO.bind ?_ (fun _ => ?_)
theorem ambidexterref22_Find.mono : ∀ a0 a1 a2 a3 k, LeO (ambidexterref22_Find.f k a0 a1 a2 a3) (ambidexterref22_Find.f (k + 1) a0 a1 a2 a3) := by
  intro a0 a1 a2 a3 k
  obtain ⟨ih0, ih1, ih2, ih3, ih4⟩ := ambidexterref22_Find.mono_l k
  unfold ambidexterref22_Find.f
  repeat' first
      | (with_reducible exact ih0 _ _ _ _ _)
      | (with_reducible exact ih1 _ _ _ _ _ _ _)
      | (with_reducible exact ih2 _ _ _ _)
      | (with_reducible exact ih3 _ _ _ _)
      | (with_reducible exact ih4 _ _ _ _ _ _ _ _)
      | (with_reducible exact LeO.refl _)
      | (with_reducible exact LeO.none _)
      | (with_reducible refine LeO.ite ?_ ?_)
      | (with_reducible refine LeO.bind ?_ (fun _ => ?_))
      | exact ih0 _ _ _ _ _
      | exact ih1 _ _ _ _ _ _ _
      | exact ih2 _ _ _ _
      | exact ih3 _ _ _ _
      | exact ih4 _ _ _ _ _ _ _ _
      | exact LeO.none _
      | refine LeO.ite ?_ ?_
      | refine LeO.bind ?_ (fun _ => ?_)
def ambidexterref22_Find.T5 : Bool × List (List Nat × List Nat) := (true, [([], []), ([], []), ([], []), ([2], [2]), ([3], [3]), ([4], [4]), ([1, 5], [1, 5]), ([0, 6, 0, 1, 2, 3, 4, 5, 6], [0, 6]), ([7, 6, 0, 1, 2, 3, 4, 5, 6], [7])])
def ambidexterref22_Find.B5 : List Nat := [0, 0, 0, 4, 12, 28, 62, 127, 255]
theorem ambidexterref22_Find.tab5 : rtab .any (opsOf Try.f17 5) = ambidexterref22_Find.T5 := by kernel_rfl
theorem ambidexterref22_Find.bits5 : waitsOk ambidexterref22_Find.T5.2 ambidexterref22_Find.B5 = true := by kernel_rfl
set_option maxHeartbeats 8000000 in
set_option maxRecDepth 100000 in
theorem ambidexterref22_Find.calls (k : Nat) (a0_0 : Int) (a0_1 : Int) (a0_2 : Int) (a1 : Int) (r1 : List Int) (r2 : Bool) (w : World) (h : ambidexterref22_Find.f k a0_0 a0_1 a0_2 a1 = some (r1, r2)) :
    Calls Try.prog 17 #[.agg #[.int .i64 a0_0, .int .i64 a0_1, .int .i64 a0_2], .int .i64 a1] w fun e w' => ∃ v0_ : Value, e = .returned (.tuple #[v0_, .bool r2]) ∧ Kd.R (Kd.int .i64) 3 w' w.heap.size (fun _ => True) v0_ r1 ∧ Below w.heap.size w w' := by
  have hu23 := Try.underlying23
  have hu69 := Try.underlying69
  have hu37 := Try.underlying37
  have HB := Aside0.mk (Below.refl w.heap.size w)
  have H : ((ambidexterref21_May.f a0_0 a0_1 a0_2).bind fun t211 => (if t211 = true then (if a1 < 0 then (ambidexterref22_Find.j0 k a1 true a0_0 a0_1 a0_2) else (ambidexterref22_Find.j0 k a1 (decide (a1 > 420)) a0_0 a0_1 a0_2)) else (ambidexterref22_Find.j0 k a1 true a0_0 a0_1 a0_2))) = some (r1, r2) := h
  clear h
  have HC3 := Aside0.mk H
  clear H
  go_enter Try.func17, Try.ntmps17
  go_upto_region 1 with (first | ((with_reducible refine gate_dst (N := 2) rfl ?_); refine box_event ?hg (N := 2) ?hd (cs := #[.int .i64 a0_0, .int .i64 a0_1, .int .i64 a0_2]) (t := 23) ?hr ?_; (case hd => rfl); (case hg => rfl); (case hr => first | (go_simp; done) | (go_simp; rfl)); intro gb210 hg w4 hbox hb; have n0_ := Aside0.mk (below_step (by repeat (first | (with_reducible first | exact HB.out | apply below_alloc | apply pw_below_drewN | apply below_drew1) | exact HB.out)) hb); have n1_ := Aside0.mk (hbox); have n2_ := Aside0.mk ((by rw [hg]; exact (below_size (by repeat (first | (with_reducible first | exact HB.out | apply below_alloc | apply pw_below_drewN | apply below_drew1) | exact HB.out))) : w.heap.size ≤ gb210)); have n3_ := Aside0.mk ((by rw [hg]; exact (below_size (by repeat (first | (with_reducible first | exact HB.out | apply below_alloc | apply pw_below_drewN | apply below_drew1) | exact HB.out))) : w.heap.size ≤ gb210)); clear HB; have HB := n0_; have BK210 := n1_; have GW210 := n2_; have GE210 := n3_; clear n0_ n1_ n2_ n3_; clear hb hbox hg))
  (try simp only [Act.put, List.setIfInBounds_toArray, List.set_cons_zero, List.set_cons_succ])
  go_cut [25] (fun v25 wc => ∃ (kq : Nat) (x25_2 : Bool), v25 = .bool x25_2 ∧ Aside0 (ambidexterref22_Find.j0 kq a1 x25_2 a0_0 a0_1 a0_2 = some (r1, r2)) ∧ Aside0 (kq ≤ k) ∧ Aside0 (wc.heap[gb210]? = some (.cells #[.int .i64 a0_0, .int .i64 a0_1, .int .i64 a0_2] 23 (0, 0))) ∧ Aside0 (Below w.heap.size w wc))
  case first =>
    have H := HC3.out
    clear HC3
    replace H := Option.bind_eq_some_iff.mp H
    obtain ⟨t211, A50, H⟩ := H
    replace H : (if t211 = true then (if a1 < 0 then (ambidexterref22_Find.j0 k a1 true a0_0 a0_1 a0_2) else (ambidexterref22_Find.j0 k a1 (decide (a1 > 420)) a0_0 a0_1 a0_2)) else (ambidexterref22_Find.j0 k a1 true a0_0 a0_1 a0_2)) = some (r1, r2) := H
    have A5 := Aside0.mk A50
    clear A50
    by_cases c6 : t211 = true
    · subst c6
      have H1 : (if a1 < 0 then (ambidexterref22_Find.j0 k a1 true a0_0 a0_1 a0_2) else (ambidexterref22_Find.j0 k a1 (decide (a1 > 420)) a0_0 a0_1 a0_2)) = some (r1, r2) := by rw [if_pos rfl] at H; exact H
      clear H
      have H := H1
      clear H1
      by_cases c7 : a1 < 0
      · rw [if_pos c7] at H
        have c7b0 : decide (a1 < 0) = true := decide_eq_true c7
        clear c7
        (first | rw [c7b0] | (simp only [i64_w, i32_w]; rw [c7b0]) | skip)
        have H' := Aside0.mk H
        clear H
        have hcz8_0 : w4.cell? ⟨gb210, 0, none⟩ = some (.int .i64 a0_0) := (blk_cell BK210.out 0).trans rfl
        have hcz8_1 : w4.cell? ⟨gb210, 1, none⟩ = some (.int .i64 a0_1) := (blk_cell BK210.out 1).trans rfl
        have hcz8_2 : w4.cell? ⟨gb210, 2, none⟩ = some (.int .i64 a0_2) := (blk_cell BK210.out 2).trans rfl
        have hfz8_0 := blk_frozen BK210.out 0
        have hfz8_1 := blk_frozen BK210.out 1
        have hfz8_2 := blk_frozen BK210.out 2
        go_wp2_with (first | ((with_reducible refine gate_callee (f := 42) rfl ?_); refine goesL_ (some 16) rfl rfl Try.func42 (by kernel_rfl) rfl #[.agg #[.int .i64 a0_0, .int .i64 a0_1, .int .i64 a0_2]] rfl (by (try simp only [List.map_toArray, List.map_cons, List.map_nil]); first | done | rfl | (simp only [List.length_drop, List.length_take]; rfl)) ?_; (with_reducible refine (ambidexterref21_May.calls a0_0 a0_1 a0_2 true _ A5.out).mono ?_); rintro e w9 ⟨rfl, hb⟩; refine ⟨_, rfl, ?_⟩; have n0_ := Aside0.mk (blk_below (g := gb210) (o := .cells #[.int .i64 a0_0, .int .i64 a0_1, .int .i64 a0_2] 23 (0, 0)) (by (with_reducible repeat (first | refine blk_drewN ?_ _ | refine blk_drew ?_ | refine blk_alloc ?_ _)); exact BK210.out) hb); have n1_ := Aside0.mk (below_step (by repeat (first | (with_reducible first | exact HB.out | apply below_alloc | apply pw_below_drewN | apply below_drew1 | refine below_set ?_ GE210.out) | exact HB.out)) hb); clear BK210; clear HB; have BK210 := n0_; have HB := n1_; clear n0_ n1_; (try clear hb); (try clear hb2); (try clear hk); (try clear hi)))
        go_meet
        case rel => exact ⟨_, (true), (by first | rfl | (simp; done) | (simp [*]; done)), H', ⟨by first | omega | exact Nat.le_refl _⟩, ⟨by (with_reducible repeat (first | refine blk_drewN ?_ _ | refine blk_drew ?_ | refine blk_alloc ?_ _)); exact BK210.out⟩, ⟨by repeat (first | (with_reducible first | exact HB.out | apply below_alloc | apply pw_below_drewN | apply below_drew1 | refine below_set ?_ GE210.out) | exact HB.out)⟩⟩
      · rw [if_neg c7] at H
        have c7b0 : decide (a1 < 0) = false := decide_eq_false c7
        clear c7
        (first | rw [c7b0] | (simp only [i64_w, i32_w]; rw [c7b0]) | skip)
        have H' := Aside0.mk H
        clear H
        have hcz10_0 : w4.cell? ⟨gb210, 0, none⟩ = some (.int .i64 a0_0) := (blk_cell BK210.out 0).trans rfl
        have hcz10_1 : w4.cell? ⟨gb210, 1, none⟩ = some (.int .i64 a0_1) := (blk_cell BK210.out 1).trans rfl
        have hcz10_2 : w4.cell? ⟨gb210, 2, none⟩ = some (.int .i64 a0_2) := (blk_cell BK210.out 2).trans rfl
        have hfz10_0 := blk_frozen BK210.out 0
        have hfz10_1 := blk_frozen BK210.out 1
        have hfz10_2 := blk_frozen BK210.out 2
        go_wp2_with (first | ((with_reducible refine gate_callee (f := 42) rfl ?_); refine goesL_ (some 16) rfl rfl Try.func42 (by kernel_rfl) rfl #[.agg #[.int .i64 a0_0, .int .i64 a0_1, .int .i64 a0_2]] rfl (by (try simp only [List.map_toArray, List.map_cons, List.map_nil]); first | done | rfl | (simp only [List.length_drop, List.length_take]; rfl)) ?_; (with_reducible refine (ambidexterref21_May.calls a0_0 a0_1 a0_2 true _ A5.out).mono ?_); rintro e w11 ⟨rfl, hb⟩; refine ⟨_, rfl, ?_⟩; have n0_ := Aside0.mk (blk_below (g := gb210) (o := .cells #[.int .i64 a0_0, .int .i64 a0_1, .int .i64 a0_2] 23 (0, 0)) (by (with_reducible repeat (first | refine blk_drewN ?_ _ | refine blk_drew ?_ | refine blk_alloc ?_ _)); exact BK210.out) hb); have n1_ := Aside0.mk (below_step (by repeat (first | (with_reducible first | exact HB.out | apply below_alloc | apply pw_below_drewN | apply below_drew1 | refine below_set ?_ GE210.out) | exact HB.out)) hb); clear BK210; clear HB; have BK210 := n0_; have HB := n1_; clear n0_ n1_; (try clear hb); (try clear hb2); (try clear hk); (try clear hi)))
        go_meet
        case rel => exact ⟨_, (decide (a1 > 420)), (by first | rfl | (simp; done) | (simp [*]; done)), H', ⟨by first | omega | exact Nat.le_refl _⟩, ⟨by (with_reducible repeat (first | refine blk_drewN ?_ _ | refine blk_drew ?_ | refine blk_alloc ?_ _)); exact BK210.out⟩, ⟨by repeat (first | (with_reducible first | exact HB.out | apply below_alloc | apply pw_below_drewN | apply below_drew1 | refine below_set ?_ GE210.out) | exact HB.out)⟩⟩
    · replace c6 := Bool.eq_false_iff.mpr c6
      subst c6
      have H1 : (ambidexterref22_Find.j0 k a1 true a0_0 a0_1 a0_2) = some (r1, r2) := by rw [if_neg (show ¬ (false = true) by decide)] at H; exact H
      clear H
      have H := H1
      clear H1
      have H' := Aside0.mk H
      clear H
      have hcz12_0 : w4.cell? ⟨gb210, 0, none⟩ = some (.int .i64 a0_0) := (blk_cell BK210.out 0).trans rfl
      have hcz12_1 : w4.cell? ⟨gb210, 1, none⟩ = some (.int .i64 a0_1) := (blk_cell BK210.out 1).trans rfl
      have hcz12_2 : w4.cell? ⟨gb210, 2, none⟩ = some (.int .i64 a0_2) := (blk_cell BK210.out 2).trans rfl
      have hfz12_0 := blk_frozen BK210.out 0
      have hfz12_1 := blk_frozen BK210.out 1
      have hfz12_2 := blk_frozen BK210.out 2
      go_wp2_with (first | ((with_reducible refine gate_callee (f := 42) rfl ?_); refine goesL_ (some 16) rfl rfl Try.func42 (by kernel_rfl) rfl #[.agg #[.int .i64 a0_0, .int .i64 a0_1, .int .i64 a0_2]] rfl (by (try simp only [List.map_toArray, List.map_cons, List.map_nil]); first | done | rfl | (simp only [List.length_drop, List.length_take]; rfl)) ?_; (with_reducible refine (ambidexterref21_May.calls a0_0 a0_1 a0_2 false _ A5.out).mono ?_); rintro e w13 ⟨rfl, hb⟩; refine ⟨_, rfl, ?_⟩; have n0_ := Aside0.mk (blk_below (g := gb210) (o := .cells #[.int .i64 a0_0, .int .i64 a0_1, .int .i64 a0_2] 23 (0, 0)) (by (with_reducible repeat (first | refine blk_drewN ?_ _ | refine blk_drew ?_ | refine blk_alloc ?_ _)); exact BK210.out) hb); have n1_ := Aside0.mk (below_step (by repeat (first | (with_reducible first | exact HB.out | apply below_alloc | apply pw_below_drewN | apply below_drew1 | refine below_set ?_ GE210.out) | exact HB.out)) hb); clear BK210; clear HB; have BK210 := n0_; have HB := n1_; clear n0_ n1_; (try clear hb); (try clear hb2); (try clear hk); (try clear hi)))
      go_meet
      case rel => exact ⟨_, (true), (by first | rfl | (simp; done) | (simp [*]; done)), H', ⟨by first | omega | exact Nat.le_refl _⟩, ⟨by (with_reducible repeat (first | refine blk_drewN ?_ _ | refine blk_drew ?_ | refine blk_alloc ?_ _)); exact BK210.out⟩, ⟨by repeat (first | (with_reducible first | exact HB.out | apply below_alloc | apply pw_below_drewN | apply below_drew1 | refine below_set ?_ GE210.out) | exact HB.out)⟩⟩
  case rest =>
    clear HC3
    try clear c1
    try clear p2
    try clear c4
    try clear c6
    try clear c7
    try clear c7b0
    try clear hcz10_0
    try clear hcz10_1
    try clear hcz10_2
    try clear hcz12_0
    try clear hcz12_1
    try clear hcz12_2
    try clear hcz8_0
    try clear hcz8_1
    try clear hcz8_2
    try clear hfz10_0
    try clear hfz10_1
    try clear hfz10_2
    try clear hfz12_0
    try clear hfz12_1
    try clear hfz12_2
    try clear hfz8_0
    try clear hfz8_1
    try clear hfz8_2
    obtain ⟨kq, x25_2, rfl, HA, HJ2, BK210, HB⟩ := hcut
    cases kq with
    | zero => exact absurd HA.out (by simp [ambidexterref22_Find.j0])
    | succ kj2 =>
      have H := HA.out
      clear HA
      simp only [ambidexterref22_Find.j0] at H
      by_cases c14 : x25_2 = true
      · subst c14
        have H1 : (some (([] : List Int), false)) = some (r1, r2) := by rw [if_pos rfl] at H; exact H
        clear H
        have H := H1
        clear H1
        simp only [Option.some.injEq, Prod.mk.injEq] at H
        obtain ⟨rfl, rfl⟩ := H
        go_wp2
        go_ret2
        exact ⟨_, by first | rfl | (simp [errW_none, errW_some] <;> rfl) | (simp [*, errW_none, errW_some] <;> rfl), by first | exact Kd.R_nil _ _ _ _ _ | exact Kd.N_nil _ _ _ _ _ | exact Kd.V_nil _ _ _ _ _ | exact Kd.Q_nil _ _ _ _ _ | exact Kd.S_nil _ _ _ _ _, by repeat (first | (with_reducible first | exact HB.out | apply below_alloc | apply pw_below_drewN | apply below_drew1 | refine below_set ?_ GE210.out) | exact HB.out)⟩
      · replace c14 := Bool.eq_false_iff.mpr c14
        subst c14
        have H1 : (if 0 ≤ (wrap64 ((wrap64 ((wrap64 (a1 + 1)) * (wrap64 ((wrap64 (2 * a0_0)) + 1)))) * (wrap64 ((wrap64 (2 * a0_1)) + 1)))) then (if (wrap64 ((wrap64 ((wrap64 (a1 + 1)) * (wrap64 ((wrap64 (2 * a0_0)) + 1)))) * (wrap64 ((wrap64 (2 * a0_1)) + 1))) : Int).toNat ≤ 281474976710656 then ((some (List.replicate (wrap64 ((wrap64 ((wrap64 (a1 + 1)) * (wrap64 ((wrap64 (2 * a0_0)) + 1)))) * (wrap64 ((wrap64 (2 * a0_1)) + 1))) : Int).toNat false : List Bool)).bind fun y212 => ((some (([(⟨(⟨0, 0, 0⟩ : S37), (-1), 0⟩ : S69)] : List (S69)) : List (S69))).bind fun y215 => (if 0 < (y215.length : Int) then ((ambidexterref22_spot.f a0_0 a0_1 a0_2 ((rd_T69 y215 0).f0.f0) ((rd_T69 y215 0).f0.f1) ((rd_T69 y215 0).f0.f2)).bind fun t219 => (if 0 ≤ t219 then (if t219 < (y212.length : Int) then (ambidexterref22_Find.l0 kj2 a1 (y212.set (t219 : Int).toNat true) y215 0 a0_0 a0_1 a0_2) else (none)) else (none))) else (none)))) else (none)) else (none)) = some (r1, r2) := by rw [if_neg (show ¬ (false = true) by decide)] at H; exact H
        clear H
        have H := H1
        clear H1
        obtain ⟨ji15, hji15⟩ : ∃ j_ : Int, (wrap64 ((wrap64 ((wrap64 (a1 + 1)) * (wrap64 ((wrap64 (2 * a0_0)) + 1)))) * (wrap64 ((wrap64 (2 * a0_1)) + 1)))) = j_ := ⟨_, rfl⟩
        replace H : (if 0 ≤ (ji15) then (if (ji15 : Int).toNat ≤ 281474976710656 then ((some (List.replicate (ji15 : Int).toNat false : List Bool)).bind fun y212 => ((some (([(⟨(⟨0, 0, 0⟩ : S37), (-1), 0⟩ : S69)] : List (S69)) : List (S69))).bind fun y215 => (if 0 < (y215.length : Int) then ((ambidexterref22_spot.f a0_0 a0_1 a0_2 ((rd_T69 y215 0).f0.f0) ((rd_T69 y215 0).f0.f1) ((rd_T69 y215 0).f0.f2)).bind fun t219 => (if 0 ≤ t219 then (if t219 < (y212.length : Int) then (ambidexterref22_Find.l0 kj2 a1 (y212.set (t219 : Int).toNat true) y215 0 a0_0 a0_1 a0_2) else (none)) else (none))) else (none)))) else (none)) else (none)) = some (r1, r2) := by first | (rw [hji15] at H; exact H) | (simp only [hji15] at H ⊢; exact H)
        have hji15w : (IntKind.i64.wrap ((wrap64 ((wrap64 (a1 + 1)) * (wrap64 ((wrap64 (2 * a0_0)) + 1)))) * (wrap64 ((wrap64 (2 * a0_1)) + 1)))) = ji15 := (i64_w _).trans hji15
        by_cases c16 : 0 ≤ (ji15)
        · rw [if_pos c16] at H
          have c16b0 := eq_true c16
          have c16b1 : decide (0 ≤ (ji15)) = true := decide_eq_true c16
          clear c16
          by_cases c17 : (ji15 : Int).toNat ≤ 281474976710656
          · rw [if_pos c17] at H
            have c17b0 := eq_true c17
            have c17b1 : decide ((ji15 : Int).toNat ≤ 281474976710656) = true := decide_eq_true c17
            clear c17
            obtain ⟨y212, hy212⟩ : ∃ y_ : List Bool, y_ = (List.replicate (ji15 : Int).toNat false) := ⟨_, rfl⟩
            replace H : ((some (([(⟨(⟨0, 0, 0⟩ : S37), (-1), 0⟩ : S69)] : List (S69)) : List (S69))).bind fun y215 => (if 0 < (y215.length : Int) then ((ambidexterref22_spot.f a0_0 a0_1 a0_2 ((rd_T69 y215 0).f0.f0) ((rd_T69 y215 0).f0.f1) ((rd_T69 y215 0).f0.f2)).bind fun t219 => (if 0 ≤ t219 then (if t219 < (y212.length : Int) then (ambidexterref22_Find.l0 kj2 a1 (y212.set (t219 : Int).toNat true) y215 0 a0_0 a0_1 a0_2) else (none)) else (none))) else (none))) = some (r1, r2) := by first | (rw [hy212]; with_reducible exact H) | (have H2_ := (Option.bind_some _ _).symm.trans H; rw [hy212]; with_reducible exact H2_) | (have H2_ := (Option.bind_some _ _).symm.trans H; with_reducible exact H2_) | with_reducible exact H | (rw [hy212]; exact H) | exact H
            have Ny212 := Aside0.mk hy212
            clear hy212
            obtain ⟨y215, hy215⟩ : ∃ y_ : List (S69), y_ = (([(⟨(⟨0, 0, 0⟩ : S37), (-1), 0⟩ : S69)] : List (S69))) := ⟨_, rfl⟩
            replace H : (if 0 < (y215.length : Int) then ((ambidexterref22_spot.f a0_0 a0_1 a0_2 ((rd_T69 y215 0).f0.f0) ((rd_T69 y215 0).f0.f1) ((rd_T69 y215 0).f0.f2)).bind fun t219 => (if 0 ≤ t219 then (if t219 < (y212.length : Int) then (ambidexterref22_Find.l0 kj2 a1 (y212.set (t219 : Int).toNat true) y215 0 a0_0 a0_1 a0_2) else (none)) else (none))) else (none)) = some (r1, r2) := by first | (rw [hy215]; with_reducible exact H) | (have H2_ := (Option.bind_some _ _).symm.trans H; rw [hy215]; with_reducible exact H2_) | (have H2_ := (Option.bind_some _ _).symm.trans H; with_reducible exact H2_) | with_reducible exact H | (rw [hy215]; exact H) | exact H
            have Ny215 := Aside0.mk hy215
            clear hy215
            by_cases c18 : 0 < (y215.length : Int)
            · rw [if_pos c18] at H
              have c18b0 : decide (0 < (y215.length : Int)) = true := decide_eq_true c18
              have c18b1 : decide (0 < y215.length) = true := decide_eq_true (by omega)
              clear c18
              replace H := Option.bind_eq_some_iff.mp H
              obtain ⟨t219, A190, H⟩ := H
              replace H : (if 0 ≤ t219 then (if t219 < (y212.length : Int) then (ambidexterref22_Find.l0 kj2 a1 (y212.set (t219 : Int).toNat true) y215 0 a0_0 a0_1 a0_2) else (none)) else (none)) = some (r1, r2) := H
              have A19 := Aside0.mk A190
              clear A190
              by_cases c20 : 0 ≤ t219
              · rw [if_pos c20] at H
                have c20b0 : decide (0 ≤ t219) = true := decide_eq_true c20
                clear c20
                by_cases c21 : t219 < (y212.length : Int)
                · rw [if_pos c21] at H
                  have c21b0 : decide (t219 < (y212.length : Int)) = true := decide_eq_true c21
                  clear c21
                  obtain ⟨y220, hy220⟩ : ∃ y_ : List Bool, y_ = (y212.set (t219 : Int).toNat true) := ⟨_, rfl⟩
                  replace H : (ambidexterref22_Find.l0 kj2 a1 y220 y215 0 a0_0 a0_1 a0_2) = some (r1, r2) := by first | (rw [hy220]; with_reducible exact H) | (have H2_ := (Option.bind_some _ _).symm.trans H; rw [hy220]; with_reducible exact H2_) | (have H2_ := (Option.bind_some _ _).symm.trans H; with_reducible exact H2_) | with_reducible exact H | (rw [hy220]; exact H) | exact H
                  have Ny220 := Aside0.mk hy220
                  clear hy220
                  have H' := Aside0.mk H
                  clear H
                  have hcz23_0 : wc.cell? ⟨gb210, 0, none⟩ = some (.int .i64 a0_0) := (blk_cell BK210.out 0).trans rfl
                  have hcz23_1 : wc.cell? ⟨gb210, 1, none⟩ = some (.int .i64 a0_1) := (blk_cell BK210.out 1).trans rfl
                  have hcz23_2 : wc.cell? ⟨gb210, 2, none⟩ = some (.int .i64 a0_2) := (blk_cell BK210.out 2).trans rfl
                  have hfz23_0 := blk_frozen BK210.out 0
                  have hfz23_1 := blk_frozen BK210.out 1
                  have hfz23_2 := blk_frozen BK210.out 2
                  try go_wp2_with (first | ((with_reducible refine gate_dst (N := 38) rfl ?_); refine Kd.R_make Kd.bool _ 4 rfl (N := 38) rfl 67 _ _ rfl ji15 rfl rfl Try.underlying67 (.bool false) 1 info4 rfl (by decide) (by omega) false (ok := fun _ => True) (okp := fun _ => True) rfl (fun _ hk => hk) trivial (of_decide_eq_true (by first | (with_reducible assumption) | assumption)) (Nat.le_trans (Nat.mul_le_mul_right _ (of_decide_eq_true (by first | (with_reducible assumption) | assumption) : ji15.toNat ≤ 281474976710656)) (by omega)) (Below.refl _ _) (Nat.le_refl _) ?_; intro v213 w24 ho25 hb hg_ hnew_; clear hg_ hnew_; (first | rw [← Ny212.out] at ho25 | (simp only [Int.reduceToNat] at ho25; rw [← Ny212.out] at ho25)); have n0_ := Aside0.mk (Kd.R_lower ho25 (below_size (by repeat (first | (with_reducible first | exact HB.out | apply below_alloc | apply pw_below_drewN | apply below_drew1 | refine below_set ?_ GE210.out) | exact HB.out)))); have n1_ := Aside0.mk (blk_below (g := gb210) (o := .cells #[.int .i64 a0_0, .int .i64 a0_1, .int .i64 a0_2] 23 (0, 0)) (by (with_reducible repeat (first | refine blk_drewN ?_ _ | refine blk_drew ?_ | refine blk_alloc ?_ _)); exact BK210.out) hb); have n2_ := Aside0.mk (below_step (by repeat (first | (with_reducible first | exact HB.out | apply below_alloc | apply pw_below_drewN | apply below_drew1 | refine below_set ?_ GE210.out) | exact HB.out)) hb); clear BK210; clear HB; have HO214 := n0_; have BK210 := n1_; have HB := n2_; clear n0_ n1_ n2_; clear hb ho25) | ((with_reducible refine gate_dst (N := 40) rfl ?_); refine Kd.R_lit k69 _ 69 ?hg (N := 40) ?hd (xs := ([(⟨(⟨0, 0, 0⟩ : S37), (-1), 0⟩ : S69)] : List (S69))) (inner := [.int .i64 0, .int .i64 0, .int .i64 0, .int .i64 (-1), .int .i64 0]) (ok := fun _ => True) (okp := fun _ => True) ?hr ?hp (fun _ hk => hk) trivial (Below.refl _ _) (Nat.le_refl _) (by simp) ?_; (case hd => rfl); (case hg => rfl); (case hr => first | (go_simp; done) | (go_simp; rfl)); (case hp => exact (Reps.c5 (show Kd.M k69 _ _ _ (⟨(⟨0, 0, 0⟩ : S37), (-1), 0⟩ : S69) [.int .i64 0, .int .i64 0, .int .i64 0, .int .i64 (-1), .int .i64 0] from (k69_mkM _ _ _ (⟨(⟨0, 0, 0⟩ : S37), (-1), 0⟩ : S69) )) (Reps.none _ _))); intro v216 w26 ho27 hb hg_ hnew_; clear hg_ hnew_; (first | rw [← Ny215.out] at ho27 | (simp only [Int.reduceToNat] at ho27; rw [← Ny215.out] at ho27)); have n0_ := Aside0.mk (Kd.R_below (by (with_reducible repeat (first | apply Kd.R_alloc | apply Kd.R_drewN | apply Kd.R_drew)); exact HO214.out) hb); have n1_ := Aside0.mk (Kd.R_lower ho27 (below_size (by repeat (first | (with_reducible first | exact HB.out | apply below_alloc | apply pw_below_drewN | apply below_drew1 | refine below_set ?_ GE210.out) | exact HB.out)))); have n2_ := Aside0.mk (blk_below (g := gb210) (o := .cells #[.int .i64 a0_0, .int .i64 a0_1, .int .i64 a0_2] 23 (0, 0)) (by (with_reducible repeat (first | refine blk_drewN ?_ _ | refine blk_drew ?_ | refine blk_alloc ?_ _)); exact BK210.out) hb); have n3_ := Aside0.mk (below_step (by repeat (first | (with_reducible first | exact HB.out | apply below_alloc | apply pw_below_drewN | apply below_drew1 | refine below_set ?_ GE210.out) | exact HB.out)) hb); clear HO214; clear BK210; clear HB; have HO214 := n0_; have HO217 := n1_; have BK210 := n2_; have HB := n3_; clear n0_ n1_ n2_ n3_; clear hb ho27))
                  have n0_ := Aside0.mk (Kd.R_drew HO214.out)
                  have n1_ := Aside0.mk (Kd.R_drew HO217.out)
                  have n2_ := Aside0.mk (blk_drew BK210.out)
                  have n3_ := Aside0.mk (below_drew1 HB.out)
                  clear HO214
                  clear HO217
                  clear BK210
                  clear HB
                  have HO214 := n0_
                  have HO217 := n1_
                  have BK210 := n2_
                  have HB := n3_
                  clear n0_ n1_ n2_ n3_
                  obtain ⟨Ao29, co29, eo29⟩ := Kd.R_slice HO217.out
                  (first | subst eo29 | (injection eo29 with f1_ f2_ f3_; have f4_ := f1_.symm; have f5_ := f3_.symm; clear f1_ f2_ f3_; subst f4_; subst f5_))
                  have p218 : 0 ≤ (0 : Int) := (by omega)
                  have q218 : 0 < (y215.length : Int) := of_decide_eq_true (by first | (with_reducible assumption) | assumption)
                  obtain ⟨ad218, e218, hx218_0, hx218_1, hx218_2, hx218_3, hx218_4⟩ := at_T69 (Kd.R_reads' HO217.out).2.2 0 p218 q218
                  cases e218
                  have qi218 : (0 < y215.length) = True := eq_true (by omega)
                  (try rw [show ((0 : Int)).toNat = 0 from rfl] at hx218_0)
                  (try rw [show 0 * 5 = 0 from rfl] at hx218_0)
                  (try rw [Addr.add_zero'] at hx218_0)
                  (try rw [show ((0 : Int)).toNat = 0 from rfl] at hx218_1)
                  (try rw [show 0 * 5 = 0 from rfl] at hx218_1)
                  (try rw [Addr.add_zero'] at hx218_1)
                  (try rw [show ((0 : Int)).toNat = 0 from rfl] at hx218_2)
                  (try rw [show 0 * 5 = 0 from rfl] at hx218_2)
                  (try rw [Addr.add_zero'] at hx218_2)
                  (try rw [show ((0 : Int)).toNat = 0 from rfl] at hx218_3)
                  (try rw [show 0 * 5 = 0 from rfl] at hx218_3)
                  (try rw [Addr.add_zero'] at hx218_3)
                  (try rw [show ((0 : Int)).toNat = 0 from rfl] at hx218_4)
                  (try rw [show 0 * 5 = 0 from rfl] at hx218_4)
                  (try rw [Addr.add_zero'] at hx218_4)
                  replace p218 := eq_true p218
                  replace q218 := eq_true q218
                  refine start_ (n := 9) (S := fun w' => w'.cell? ⟨gb210, 0, none⟩ = some (.int .i64 a0_0) ∧ w'.cell? ⟨gb210, 1, none⟩ = some (.int .i64 a0_1) ∧ w'.cell? ⟨gb210, 2, none⟩ = some (.int .i64 a0_2) ∧ w'.cell? ad218 = some (.int .i64 ((rd_T69 y215 0).f0.f0)) ∧ w'.cell? ⟨ad218.block, ad218.off + 1, none⟩ = some (.int .i64 ((rd_T69 y215 0).f0.f1)) ∧ w'.cell? ⟨ad218.block, ad218.off + 2, none⟩ = some (.int .i64 ((rd_T69 y215 0).f0.f2)) ∧ w'.cell? ⟨ad218.block, ad218.off + 3, none⟩ = some (.int .i64 ((rd_T69 y215 0).f1)) ∧ w'.cell? ⟨ad218.block, ad218.off + 4, none⟩ = some (.int .i64 ((rd_T69 y215 0).f2))) (ds := [8]) #[false, false, false, false, false, false, false, false, false] (by kernel_rfl) rfl rfl ⟨(blk_cell BK210.out 0).trans rfl, (blk_cell BK210.out 1).trans rfl, (blk_cell BK210.out 2).trans rfl, hx218_0, hx218_1, hx218_2, hx218_3, hx218_4⟩ (fun hHeld => ?_); refine with_tabW ambidexterref22_Find.tab5 ambidexterref22_Find.bits5 (fun HT_ HW_ => ?_)
                  generalize w26.drew = w28 at HO214 HO217 BK210 HB hx218_0 hx218_1 hx218_2 hx218_3 hx218_4 hHeld ⊢
                  refine pure_ (i := 0) (N := some 41) (v := ?_) (a' := ?_) #[true, false, false, false, false, false, false, false, false] rfl rfl (any_of HT_.out (by kernel_rfl)) (fun _ _ _ h => h) (Or.inl ⟨by rfl, ?_⟩) ?_ ?_
                  rotate_left
                  · intro w'
                    go_simp
                    with_reducible rfl
                  rotate_left
                  · simp only [Act.put, List.setIfInBounds_toArray, List.set_cons_zero, List.set_cons_succ, i64_w, i32_w]
                    rfl
                  refine pure_ (i := 2) (N := some 43) (v := ?_) (a' := ?_) #[true, false, true, false, false, false, false, false, false] rfl rfl (any_of HT_.out (by kernel_rfl)) (fun _ _ _ h => h) (Or.inl ⟨by rfl, ?_⟩) ?_ ?_
                  rotate_left
                  · intro w'
                    go_simp
                    with_reducible rfl
                  rotate_left
                  · simp only [Act.put, List.setIfInBounds_toArray, List.set_cons_zero, List.set_cons_succ, i64_w, i32_w]
                    rfl
                  refine pure_ (i := 3) (N := some 44) (v := ?_) (a' := ?_) #[true, false, true, true, false, false, false, false, false] rfl rfl (any_of HT_.out (by kernel_rfl)) (fun _ _ _ h => h) (Or.inl ⟨by rfl, ?_⟩) ?_ ?_
                  rotate_left
                  · intro w'
                    go_simp
                    with_reducible rfl
                  rotate_left
                  · simp only [Act.put, List.setIfInBounds_toArray, List.set_cons_zero, List.set_cons_succ, i64_w, i32_w]
                    rfl
                  refine pure_ (i := 4) (N := some 45) (v := ?_) (a' := ?_) #[true, false, true, true, true, false, false, false, false] rfl rfl (any_of HT_.out (by kernel_rfl)) (fun _ _ _ h => h) (Or.inl ⟨by rfl, ?_⟩) ?_ ?_
                  rotate_left
                  · intro w'
                    go_simp
                    with_reducible rfl
                  rotate_left
                  · simp only [Act.put, List.setIfInBounds_toArray, List.set_cons_zero, List.set_cons_succ, i64_w, i32_w]
                    rfl
                  refine take_ (i := 1) (N := some 42) (v := ?_) (a' := ?_) #[true, true, true, true, true, false, false, false, false] rfl rfl (take_ofW HT_.out HW_.out (by kernel_rfl)) (fun _ _ _ h => h) (Or.inl ⟨by rfl, ?_⟩) hHeld ?_ ?_
                  rotate_left
                  · rintro w' ⟨s0, s1, s2, s3, s4, s5, s6, s7⟩
                    go_simp
                    with_reducible rfl
                  rotate_left
                  · simp only [Act.put, List.setIfInBounds_toArray, List.set_cons_zero, List.set_cons_succ, i64_w, i32_w]
                    rfl
                  refine take_ (i := 5) (N := some 46) (v := ?_) (a' := ?_) #[true, true, true, true, true, true, false, false, false] rfl rfl (take_ofW HT_.out HW_.out (by kernel_rfl)) (fun _ _ _ h => h) (Or.inl ⟨by rfl, ?_⟩) hHeld ?_ ?_
                  rotate_left
                  · rintro w' ⟨s0, s1, s2, s3, s4, s5, s6, s7⟩
                    go_simp
                    with_reducible rfl
                  rotate_left
                  · simp only [Act.put, List.setIfInBounds_toArray, List.set_cons_zero, List.set_cons_succ, i64_w, i32_w]
                    rfl
                  refine one_ (i := 6) (N := some 47) #[true, true, true, true, true, true, true, false, false] rfl rfl (one_of HT_.out (by kernel_rfl)) (by decide) (fun K hK => ?_)
                  refine goes_ Try.func43 (by kernel_rfl) rfl #[.agg #[.int .i64 a0_0, .int .i64 a0_1, .int .i64 a0_2], .agg #[.int .i64 ((rd_T69 y215 0).f0.f0), .int .i64 ((rd_T69 y215 0).f0.f1), .int .i64 ((rd_T69 y215 0).f0.f2)]] (by rfl) rfl rfl (by (try simp only [List.map_toArray, List.map_cons, List.map_nil]); first | done | rfl | (simp only [List.length_drop, List.length_take]; rfl)) ?_
                  with_reducible refine (ambidexterref22_spot.calls a0_0 a0_1 a0_2 ((rd_T69 y215 0).f0.f0) ((rd_T69 y215 0).f0.f1) ((rd_T69 y215 0).f0.f2) t219 _ A19.out).mono ?_
                  rintro e w30 ⟨rfl, hb⟩
                  have HS3_ := (hb.cell (World.block_lt_of_cell? _ _ (hHeld.2.2.2.1))).trans (hHeld.2.2.2.1)
                  have HS4_ := (hb.cell (World.block_lt_of_cell? _ _ (hHeld.2.2.2.2.1))).trans (hHeld.2.2.2.2.1)
                  have HS5_ := (hb.cell (World.block_lt_of_cell? _ _ (hHeld.2.2.2.2.2.1))).trans (hHeld.2.2.2.2.2.1)
                  have HS6_ := (hb.cell (World.block_lt_of_cell? _ _ (hHeld.2.2.2.2.2.2.1))).trans (hHeld.2.2.2.2.2.2.1)
                  have HS7_ := (hb.cell (World.block_lt_of_cell? _ _ (hHeld.2.2.2.2.2.2.2))).trans (hHeld.2.2.2.2.2.2.2)
                  refine ⟨_, rfl, ?_⟩
                  have n0_ := Aside0.mk (Kd.R_below (by (with_reducible repeat (first | apply Kd.R_alloc | apply Kd.R_drewN | apply Kd.R_drew)); exact HO214.out) hb)
                  have n1_ := Aside0.mk (Kd.R_below (by (with_reducible repeat (first | apply Kd.R_alloc | apply Kd.R_drewN | apply Kd.R_drew)); exact HO217.out) hb)
                  have n2_ := Aside0.mk (blk_below (g := gb210) (o := .cells #[.int .i64 a0_0, .int .i64 a0_1, .int .i64 a0_2] 23 (0, 0)) (by (with_reducible repeat (first | refine blk_drewN ?_ _ | refine blk_drew ?_ | refine blk_alloc ?_ _)); exact BK210.out) hb)
                  have n3_ := Aside0.mk (below_step (by repeat (first | (with_reducible first | exact HB.out | apply below_alloc | apply pw_below_drewN | apply below_drew1 | refine below_set ?_ GE210.out) | exact HB.out)) hb)
                  clear HO214
                  clear HO217
                  clear BK210
                  clear HB
                  have HO214 := n0_
                  have HO217 := n1_
                  have BK210 := n2_
                  have HB := n3_
                  clear n0_ n1_ n2_ n3_
                  (try clear hb)
                  (try clear hb2)
                  (try clear hk)
                  (try clear hi)
                  have p22 : 0 ≤ (t219 : Int) := of_decide_eq_true (by first | (with_reducible assumption) | assumption)
                  have q22 : (t219 : Int) < ((y212.length : Int) : Int) := of_decide_eq_true (by first | (with_reducible assumption) | assumption)
                  obtain ⟨go22, co22, eo22, gb22, gl22, cl22, HG22⟩ := Kd.R_form HO214.out (by omega)
                  (first | cases eo22 | (injection eo22 with ea_ en_ ec_; (first | subst ea_ | (injection ea_ with ea_; subst ea_)); subst ec_; clear en_))
                  have GB22 := Aside0.mk gb22
                  have GG22 := Aside0.mk HG22
                  clear gb22 gl22 HG22
                  obtain ⟨hx22_0, hf22_0⟩ := Kd.R_celln false HO214.out (t219 : Int) p22 q22
                  replace p22 := eq_true p22
                  replace q22 := eq_true q22
                  have HP31 := Kd.R_putn HO214.out (t219 : Int) true
                  rw [← Ny220.out] at HP31
                  have HQ31 := Aside0.mk HP31
                  clear HP31
                  refine hK.out _ _ ⟨(blk_cell BK210.out 0).trans rfl, (blk_cell BK210.out 1).trans rfl, (blk_cell BK210.out 2).trans rfl, HS3_, HS4_, HS5_, HS6_, HS7_⟩ (fun hHeld => ?_)
                  clear hK K
                  refine norm_ (a' := ?_) ?_ ?_
                  rotate_left
                  · show Act.put _ (some 47) _ = _
                    simp only [Act.put, List.setIfInBounds_toArray, List.set_cons_zero, List.set_cons_succ, i64_w, i32_w]
                    rfl
                  refine pure_ (i := 7) (N := some 48) (v := ?_) (a' := ?_) #[true, true, true, true, true, true, true, true, false] rfl rfl (any_of HT_.out (by kernel_rfl)) (fun _ _ _ h => h) (Or.inl ⟨by rfl, ?_⟩) ?_ ?_
                  rotate_left
                  · intro w'
                    go_simp
                    with_reducible rfl
                  rotate_left
                  · simp only [Act.put, List.setIfInBounds_toArray, List.set_cons_zero, List.set_cons_succ, i64_w, i32_w]
                    rfl
                  refine last_ (i := 8) (N := none) #[true, true, true, true, true, true, true, true, true] rfl rfl (one_of HT_.out (by kernel_rfl)) (by decide) (fun K hK => ?_)
                  refine skip_ (w1 := ?_) (by rfl) rfl ?_ ?_
                  rotate_left
                  · go_simp
                    rfl
                  refine hK.out _ _ ?_
                  clear hK K
                  refine done_ (done_of HT_.out (by kernel_rfl)) ?_
                  try go_wp2
                  go_loopg [7, 8] kj2 (fun kq v7 v8 w' => ∃ (x6_2 : List Bool) (x7_2 : List (S69)) (x8_2 : Int), v8 = .int .i64 x8_2 ∧ Aside0 (ambidexterref22_Find.l0 kq a1 x6_2 x7_2 x8_2 a0_0 a0_1 a0_2 = some (r1, r2)) ∧ Aside0 (kq ≤ kj2) ∧ Aside0 (Kd.R Kd.bool 4 w' w.heap.size (fun _ => True) (.slice (some ⟨go22, 0, none⟩) y212.length co22) x6_2) ∧ Aside0 (Kd.R k69 69 w' w.heap.size (fun _ => True) v7 x7_2) ∧ Aside0 (w'.heap[gb210]? = some (.cells #[.int .i64 a0_0, .int .i64 a0_1, .int .i64 a0_2] 23 (0, 0))) ∧ Aside0 (Below w.heap.size w w'))
                  case atStart => exact ⟨(y220), (y215), (0), (by first | rfl | (simp; done) | (simp [*]; done)), H', ⟨Nat.le_refl _⟩, ⟨by (with_reducible repeat (first | apply Kd.R_alloc | apply Kd.R_drewN | apply Kd.R_drew)); exact HQ31.out⟩, ⟨by (with_reducible repeat (first | apply Kd.R_alloc | apply Kd.R_drewN | apply Kd.R_drew)); exact Kd.R_mono (Kd.R_far (p := ⟨go22, (t219 : Int).toNat, none⟩) (Kd.R_types HO217.out GG22.out (by decide)) (fun _ hk => hk.2) (.bool true)) (fun _ hk => trivial)⟩, ⟨by (with_reducible repeat (first | refine blk_drewN ?_ _ | refine blk_drew ?_ | refine blk_alloc ?_ _)); refine blk_far ?_ (by have h_ := Kd.R_ne HO214.out BK210.out (by decide); intro e_; exact h_ (by rw [e_]; rfl)) _; (with_reducible repeat (first | refine blk_drewN ?_ _ | refine blk_drew ?_ | refine blk_alloc ?_ _)); exact BK210.out⟩, ⟨by repeat (first | (with_reducible first | exact HB.out | apply below_alloc | apply pw_below_drewN | apply below_drew1 | refine below_set ?_ GB22.out | refine below_set ?_ GE210.out) | exact HB.out)⟩⟩
                  case round =>
                    clear H'
                    try clear c1
                    try clear c2
                    try clear p2
                    try clear q2
                    try clear hx2
                    try clear qi2
                    try clear hf2
                    try clear c4
                    try clear c5
                    try clear c6
                    try clear p6
                    try clear c7
                    try clear c7b0
                    try clear c14
                    try clear c16
                    try clear c16b0
                    try clear c16b1
                    try clear c17
                    try clear c17b0
                    try clear c17b1
                    try clear c18
                    try clear c18b0
                    try clear c18b1
                    try clear c20
                    try clear c20b0
                    try clear c21
                    try clear c21b0
                    try clear p21
                    try clear q21
                    try clear hx21
                    try clear qi21
                    try clear p22
                    try clear q22
                    try clear hx22
                    try clear hf22
                    try clear hcz10_0
                    try clear hcz10_1
                    try clear hcz10_2
                    try clear hcz12_0
                    try clear hcz12_1
                    try clear hcz12_2
                    try clear hcz23_0
                    try clear hcz23_1
                    try clear hcz23_2
                    try clear hcz8_0
                    try clear hcz8_1
                    try clear hcz8_2
                    try clear hfz10_0
                    try clear hfz10_1
                    try clear hfz10_2
                    try clear hfz12_0
                    try clear hfz12_1
                    try clear hfz12_2
                    try clear hfz23_0
                    try clear hfz23_1
                    try clear hfz23_2
                    try clear hfz8_0
                    try clear hfz8_1
                    try clear hfz8_2
                    try clear hx218_0
                    try clear hx218_1
                    try clear hx218_2
                    try clear hx218_3
                    try clear hx218_4
                    try clear hx22_0
                    try clear p2
                    try clear p218
                    try clear p22
                    try clear q218
                    try clear q22
                    obtain ⟨x6_2, x7_2, x8_2, rfl, HA, HK2, HO_6, HO_7, BK210, HB⟩ := hrel
                    have hl6_2 := (Kd.R_reads' HO_6.out).1
                    rw [hl6_2] at HO_6
                    (try simp only [hl6_2])
                    (try simp only [hl6_2] at BK210)
                    (try simp only [hl6_2] at HO_7)
                    cases gk with
                    | zero => exact absurd HA.out (by simp [ambidexterref22_Find.l0])
                    | succ k2 =>
                      have H := HA.out
                      clear HA
                      simp only [ambidexterref22_Find.l0] at H
                      by_cases c32 : x8_2 < (x7_2.length : Int)
                      · rw [if_pos c32] at H
                        have c32b0 : decide (x8_2 < (x7_2.length : Int)) = true := decide_eq_true c32
                        clear c32
                        by_cases c33 : 0 ≤ x8_2
                        · rw [if_pos c33] at H
                          have c33b0 : decide (0 ≤ x8_2) = true := decide_eq_true c33
                          clear c33
                          by_cases c34 : (((rd_T69 x7_2 x8_2).f0.f0) == a1 && (((rd_T69 x7_2 x8_2).f0.f1) == 0 && (((rd_T69 x7_2 x8_2).f0.f2) == 0))) = true
                          · rw [if_pos c34] at H
                            have c34b0 : (((rd_T69 x7_2 x8_2).f0.f0) == a1 && (((rd_T69 x7_2 x8_2).f0.f1) == 0 && (((rd_T69 x7_2 x8_2).f0.f2) == 0))) = true := c34
                            clear c34
                            obtain ⟨y222, hy222⟩ : ∃ y_ : List Int, y_ = (([] : List Int)) := ⟨_, rfl⟩
                            replace H : (ambidexterref22_Find.l1 k2 x7_2 x8_2 y222 x8_2) = some (r1, r2) := by first | (rw [hy222]; with_reducible exact H) | (have H2_ := (Option.bind_some _ _).symm.trans H; rw [hy222]; with_reducible exact H2_) | (have H2_ := (Option.bind_some _ _).symm.trans H; with_reducible exact H2_) | with_reducible exact H | (rw [hy222]; exact H) | exact H
                            have Ny222 := Aside0.mk hy222
                            clear hy222
                            have H' := Aside0.mk H
                            clear H
                            obtain ⟨Ao35, co35, eo35⟩ := Kd.R_slice HO_7.out
                            subst eo35
                            have p221 : 0 ≤ (x8_2 : Int) := of_decide_eq_true (by first | (with_reducible assumption) | assumption)
                            have q221 : x8_2 < (x7_2.length : Int) := of_decide_eq_true (by first | (with_reducible assumption) | assumption)
                            obtain ⟨ad221, e221, hx221_0, hx221_1, hx221_2, hx221_3, hx221_4⟩ := at_T69 (Kd.R_reads' HO_7.out).2.2 x8_2 p221 q221
                            cases e221
                            replace p221 := eq_true p221
                            replace q221 := eq_true q221
                            go_wp2_with (first | ((with_reducible refine gate_dst (N := 63) rfl ?_); refine Kd.R_lit (Kd.int .i64) _ 3 ?hg (N := 63) ?hd (xs := ([] : List Int)) (inner := []) (ok := fun _ => True) (okp := fun _ => True) ?hr ?hp (fun _ hk => hk) trivial (Below.refl _ _) (Nat.le_refl _) (by simp) ?_; (case hd => rfl); (case hg => rfl); (case hr => first | (go_simp; done) | (go_simp; rfl)); (case hp => exact (Reps.none _ _)); intro v223 w36 ho37 hb hg_ hnew_; clear hg_ hnew_; (first | rw [← Ny222.out] at ho37 | (simp only [Int.reduceToNat] at ho37; rw [← Ny222.out] at ho37)); have n0_ := Aside0.mk (Kd.R_below (by (with_reducible repeat (first | apply Kd.R_alloc | apply Kd.R_drewN | apply Kd.R_drew)); exact HO_6.out) hb); have n1_ := Aside0.mk (Kd.R_below (by (with_reducible repeat (first | apply Kd.R_alloc | apply Kd.R_drewN | apply Kd.R_drew)); exact HO_7.out) hb); have n2_ := Aside0.mk (Kd.R_lower ho37 (below_size (by repeat (first | (with_reducible first | exact HB.out | apply below_alloc | apply pw_below_drewN | apply below_drew1 | refine below_set ?_ GE210.out) | exact HB.out)))); have n3_ := Aside0.mk (blk_below (g := gb210) (o := .cells #[.int .i64 a0_0, .int .i64 a0_1, .int .i64 a0_2] 23 (0, 0)) (by (with_reducible repeat (first | refine blk_drewN ?_ _ | refine blk_drew ?_ | refine blk_alloc ?_ _)); exact BK210.out) hb); have n4_ := Aside0.mk (below_step (by repeat (first | (with_reducible first | exact HB.out | apply below_alloc | apply pw_below_drewN | apply below_drew1 | refine below_set ?_ GE210.out) | exact HB.out)) hb); clear HO_6; clear HO_7; clear BK210; clear HB; have HO_6 := n0_; have HO_7 := n1_; have HO224 := n2_; have BK210 := n3_; have HB := n4_; clear n0_ n1_ n2_ n3_ n4_; clear hb ho37))
                            go_loopg [9, 10] k2 (fun kq v9 v10 w' => ∃ (x9_3 : List Int) (x10_3 : Int), v10 = .int .i64 x10_3 ∧ Aside0 (ambidexterref22_Find.l1 kq x7_2 x8_2 x9_3 x10_3 = some (r1, r2)) ∧ Aside0 (kq ≤ k2) ∧ Aside0 (Kd.R k69 69 w' w.heap.size (fun _ => True) (.slice (some ad221) x7_2.length co35) x7_2) ∧ Aside0 (Kd.R (Kd.int .i64) 3 w' w.heap.size (fun _ => True) v9 x9_3) ∧ Aside0 (w'.heap[gb210]? = some (.cells #[.int .i64 a0_0, .int .i64 a0_1, .int .i64 a0_2] 23 (0, 0))) ∧ Aside0 (Below w.heap.size w w'))
                            case atStart => exact ⟨(y222), (x8_2), (by first | rfl | (simp; done) | (simp [*]; done)), H', ⟨Nat.le_refl _⟩, ⟨by (try simp only [hl6_2]); (with_reducible repeat (first | apply Kd.R_alloc | apply Kd.R_drewN | apply Kd.R_drew)); exact HO_7.out⟩, ⟨by (try simp only [hl6_2]); (with_reducible repeat (first | apply Kd.R_alloc | apply Kd.R_drewN | apply Kd.R_drew)); exact HO224.out⟩, ⟨by (try simp only [hl6_2]); (with_reducible repeat (first | refine blk_drewN ?_ _ | refine blk_drew ?_ | refine blk_alloc ?_ _)); exact BK210.out⟩, ⟨by repeat (first | (with_reducible first | exact HB.out | apply below_alloc | apply pw_below_drewN | apply below_drew1 | refine below_set ?_ GE210.out) | exact HB.out)⟩⟩
                            case round =>
                              clear H'
                              try clear c1
                              try clear c2
                              try clear p2
                              try clear q2
                              try clear hx2
                              try clear qi2
                              try clear hf2
                              try clear c3
                              try clear c4
                              try clear c5
                              try clear c6
                              try clear p6
                              try clear c7
                              try clear c7b0
                              try clear c14
                              try clear c16
                              try clear c16b0
                              try clear c16b1
                              try clear c17
                              try clear c17b0
                              try clear c17b1
                              try clear c18
                              try clear c18b0
                              try clear c18b1
                              try clear c20
                              try clear c20b0
                              try clear c21
                              try clear c21b0
                              try clear p21
                              try clear q21
                              try clear hx21
                              try clear qi21
                              try clear p22
                              try clear q22
                              try clear hx22
                              try clear hf22
                              try clear c32
                              try clear c32b0
                              try clear c33
                              try clear c33b0
                              try clear c34
                              try clear c34b0
                              try clear hcz10_0
                              try clear hcz10_1
                              try clear hcz10_2
                              try clear hcz12_0
                              try clear hcz12_1
                              try clear hcz12_2
                              try clear hcz23_0
                              try clear hcz23_1
                              try clear hcz23_2
                              try clear hcz8_0
                              try clear hcz8_1
                              try clear hcz8_2
                              try clear hfz10_0
                              try clear hfz10_1
                              try clear hfz10_2
                              try clear hfz12_0
                              try clear hfz12_1
                              try clear hfz12_2
                              try clear hfz23_0
                              try clear hfz23_1
                              try clear hfz23_2
                              try clear hfz8_0
                              try clear hfz8_1
                              try clear hfz8_2
                              try clear hx218_0
                              try clear hx218_1
                              try clear hx218_2
                              try clear hx218_3
                              try clear hx218_4
                              try clear hx221_0
                              try clear hx221_1
                              try clear hx221_2
                              try clear hx221_3
                              try clear hx221_4
                              try clear hx22_0
                              try clear p2
                              try clear p21
                              try clear p218
                              try clear p22
                              try clear p221
                              try clear p6
                              try clear q2
                              try clear q21
                              try clear q218
                              try clear q22
                              try clear q221
                              obtain ⟨x9_3, x10_3, rfl, HA, HK3, HO_7, HO_9, BK210, HB⟩ := hrel
                              cases gk with
                              | zero => exact absurd HA.out (by simp [ambidexterref22_Find.l1])
                              | succ k3 =>
                                have H := HA.out
                                clear HA
                                simp only [ambidexterref22_Find.l1] at H
                                by_cases c38 : 0 ≤ x10_3
                                · rw [if_pos c38] at H
                                  have c38b0 : decide (0 ≤ x10_3) = true := decide_eq_true c38
                                  clear c38
                                  by_cases c39 : x10_3 < (x7_2.length : Int)
                                  · rw [if_pos c39] at H
                                    have c39b0 : decide (x10_3 < (x7_2.length : Int)) = true := decide_eq_true c39
                                    clear c39
                                    by_cases c40 : ((rd_T69 x7_2 x10_3).f1) ≥ 0
                                    · rw [if_pos c40] at H
                                      have c40b0 : decide (0 ≤ ((rd_T69 x7_2 x10_3).f1)) = true := decide_eq_true c40
                                      clear c40
                                      by_cases c41 : x9_3.length < 17592186044416
                                      · rw [if_pos c41] at H
                                        have LMc41 := Aside0.mk c41
                                        clear c41
                                        obtain ⟨y226, hy226⟩ : ∃ y_ : List Int, y_ = (x9_3 ++ [0]) := ⟨_, rfl⟩
                                        replace H : (ambidexterref22_Find.l1 k3 x7_2 x8_2 y226 ((rd_T69 x7_2 x10_3).f1)) = some (r1, r2) := by first | (rw [hy226]; with_reducible exact H) | (have H2_ := (Option.bind_some _ _).symm.trans H; rw [hy226]; with_reducible exact H2_) | (have H2_ := (Option.bind_some _ _).symm.trans H; with_reducible exact H2_) | with_reducible exact H | (rw [hy226]; exact H) | exact H
                                        have Ny226 := Aside0.mk hy226
                                        clear hy226
                                        have H' := Aside0.mk H
                                        clear H
                                        have p225 : 0 ≤ (x10_3 : Int) := of_decide_eq_true (by first | (with_reducible assumption) | assumption)
                                        have q225 : x10_3 < (x7_2.length : Int) := of_decide_eq_true (by first | (with_reducible assumption) | assumption)
                                        obtain ⟨ad225, e225, hx225_0, hx225_1, hx225_2, hx225_3, hx225_4⟩ := at_T69 (Kd.R_reads' HO_7.out).2.2 x10_3 p225 q225
                                        obtain rfl : ad221 = ad225 := (by injection e225)
                                        replace p225 := eq_true p225
                                        replace q225 := eq_true q225
                                        go_wp2_with (first | ((with_reducible refine gate_builtin (b := .append) (xs := #[.tmp 76, .tmp 77]) rfl ?_); at_builtin; refine Kd.R_append (Kd.int .i64) (w0 := w) w.heap.size rfl (.tmp 76) (.tmp 77) 25 3 (.int .i64 0) 8 rfl Try.underlying25 info3 rfl (by decide) (by omega) u9 x9_3 0 [.int .i64 0] (fun _ => True) (fun _ => False) rfl rfl ?aP (fun _ hk => hk.elim) ?aF ?aO ?aB ?aS ?aL ?_; (case aP => exact rfl); (case aB => exact (by repeat (first | (with_reducible first | exact HB.out | apply below_alloc | apply pw_below_drewN | apply below_drew1 | refine below_set ?_ GE210.out) | exact HB.out))); (case aF => exact (fun _ _ => trivial)); (case aO => exact (by (with_reducible repeat (first | apply Kd.R_alloc | apply Kd.R_drewN | apply Kd.R_drew)); exact HO_9.out)); (case aS => exact (below_size (by repeat (first | (with_reducible first | exact HB.out | apply below_alloc | apply pw_below_drewN | apply below_drew1 | refine below_set ?_ GE210.out) | exact HB.out)))); (case aL => have := LMc41.out; omega); intro v227 w42 ho hb hg hat; rw [← Ny226.out] at ho; have n0_ := Aside0.mk (Kd.R_over' (by (with_reducible repeat (first | apply Kd.R_alloc | apply Kd.R_drewN | apply Kd.R_drew)); exact HO_7.out) (Kd.R_typed (by (with_reducible repeat (first | apply Kd.R_alloc | apply Kd.R_drewN | apply Kd.R_drew)); exact HO_9.out)) (by decide) hg); have n1_ := Aside0.mk (blk_grown (g := gb210) (o := .cells #[.int .i64 a0_0, .int .i64 a0_1, .int .i64 a0_2] 23 (0, 0)) (by (with_reducible repeat (first | refine blk_drewN ?_ _ | refine blk_drew ?_ | refine blk_alloc ?_ _)); exact BK210.out) hg (Kd.R_ne HO_9.out BK210.out (by decide))); have n2_ := Aside0.mk (hb); have n3_ := Aside0.mk (ho); clear HO_7; clear BK210; clear HB; clear HO_9; have HO_7 := n0_; have BK210 := n1_; have HB := n2_; have HO228 := n3_; clear n0_ n1_ n2_ n3_; clear ho hb hg hat; have p229 : 0 ≤ (x10_3 : Int) := of_decide_eq_true (by first | (with_reducible assumption) | assumption); have q229 : x10_3 < (x7_2.length : Int) := of_decide_eq_true (by first | (with_reducible assumption) | assumption); obtain ⟨ad229, e229, hx229_0, hx229_1, hx229_2, hx229_3, hx229_4⟩ := at_T69 (Kd.R_reads' HO_7.out).2.2 x10_3 p229 q229; obtain rfl : ad221 = ad229 := (by injection e229); replace p229 := eq_true p229; replace q229 := eq_true q229))
                                        go_roundg k3
                                        case measure => have := HJ2.out; have := HK2.out; have := HK3.out; omega
                                        case rel => exact ⟨(y226), ((rd_T69 x7_2 x10_3).f1), (by first | rfl | (simp; done) | (simp [*]; done)), H', ⟨by have := HJ2.out; have := HK2.out; have := HK3.out; omega⟩, ⟨by (try simp only [hl6_2]); (with_reducible repeat (first | apply Kd.R_alloc | apply Kd.R_drewN | apply Kd.R_drew)); exact HO_7.out⟩, ⟨by (try simp only [hl6_2]); (with_reducible repeat (first | apply Kd.R_alloc | apply Kd.R_drewN | apply Kd.R_drew)); exact HO228.out⟩, ⟨by (try simp only [hl6_2]); (with_reducible repeat (first | refine blk_drewN ?_ _ | refine blk_drew ?_ | refine blk_alloc ?_ _)); exact BK210.out⟩, ⟨by repeat (first | (with_reducible first | exact HB.out | apply below_alloc | apply pw_below_drewN | apply below_drew1 | refine below_set ?_ GE210.out) | exact HB.out)⟩⟩
                                      · rw [if_neg c41] at H
                                        exact absurd H (by simp)
                                    · rw [if_neg c40] at H
                                      have c40b0 : decide (0 ≤ ((rd_T69 x7_2 x10_3).f1)) = false := decide_eq_false c40
                                      clear c40
                                      have H' := Aside0.mk H
                                      clear H
                                      have p225 : 0 ≤ (x10_3 : Int) := of_decide_eq_true (by first | (with_reducible assumption) | assumption)
                                      have q225 : x10_3 < (x7_2.length : Int) := of_decide_eq_true (by first | (with_reducible assumption) | assumption)
                                      obtain ⟨ad225, e225, hx225_0, hx225_1, hx225_2, hx225_3, hx225_4⟩ := at_T69 (Kd.R_reads' HO_7.out).2.2 x10_3 p225 q225
                                      obtain rfl : ad221 = ad225 := (by injection e225)
                                      replace p225 := eq_true p225
                                      replace q225 := eq_true q225
                                      obtain ⟨Ao43, co43, eo43⟩ := Kd.R_slice HO_9.out
                                      subst eo43
                                      go_wp2
                                      go_loopg [11, 12] k3 (fun kq v11 v12 w' => ∃ (x9_4 : List Int) (x11_4 : Int) (x12_4 : Int), v11 = .int .i64 x11_4 ∧ v12 = .int .i64 x12_4 ∧ Aside0 (ambidexterref22_Find.l2 kq x7_2 x9_4 x11_4 x12_4 = some (r1, r2)) ∧ Aside0 (kq ≤ k3) ∧ Aside0 (Kd.R k69 69 w' w.heap.size (fun _ => True) (.slice (some ad221) x7_2.length co35) x7_2) ∧ Aside0 (Kd.R (Kd.int .i64) 3 w' w.heap.size (fun _ => True) (.slice Ao43 x9_3.length co43) x9_4) ∧ Aside0 (w'.heap[gb210]? = some (.cells #[.int .i64 a0_0, .int .i64 a0_1, .int .i64 a0_2] 23 (0, 0))) ∧ Aside0 (Below w.heap.size w w'))
                                      case atStart => exact ⟨(x9_3), ((x9_3.length : Int)), (x8_2), (by first | rfl | (simp; done) | (simp [*]; done)), (by first | rfl | (simp; done) | (simp [*]; done)), H', ⟨Nat.le_refl _⟩, ⟨by (try simp only [hl6_2]); (with_reducible repeat (first | apply Kd.R_alloc | apply Kd.R_drewN | apply Kd.R_drew)); exact HO_7.out⟩, ⟨by (try simp only [hl6_2]); (with_reducible repeat (first | apply Kd.R_alloc | apply Kd.R_drewN | apply Kd.R_drew)); exact HO_9.out⟩, ⟨by (try simp only [hl6_2]); (with_reducible repeat (first | refine blk_drewN ?_ _ | refine blk_drew ?_ | refine blk_alloc ?_ _)); exact BK210.out⟩, ⟨by repeat (first | (with_reducible first | exact HB.out | apply below_alloc | apply pw_below_drewN | apply below_drew1 | refine below_set ?_ GE210.out) | exact HB.out)⟩⟩
                                      case round =>
                                        clear H'
                                        try clear c1
                                        try clear c2
                                        try clear p2
                                        try clear q2
                                        try clear hx2
                                        try clear qi2
                                        try clear hf2
                                        try clear c3
                                        try clear c4
                                        try clear c5
                                        try clear c6
                                        try clear p6
                                        try clear c7
                                        try clear c7b0
                                        try clear c14
                                        try clear c16
                                        try clear c16b0
                                        try clear c16b1
                                        try clear c17
                                        try clear c17b0
                                        try clear c17b1
                                        try clear c18
                                        try clear c18b0
                                        try clear c18b1
                                        try clear c20
                                        try clear c20b0
                                        try clear c21
                                        try clear c21b0
                                        try clear p21
                                        try clear q21
                                        try clear hx21
                                        try clear qi21
                                        try clear p22
                                        try clear q22
                                        try clear hx22
                                        try clear hf22
                                        try clear c32
                                        try clear c32b0
                                        try clear c33
                                        try clear c33b0
                                        try clear c34
                                        try clear c34b0
                                        try clear c38
                                        try clear c38b0
                                        try clear c39
                                        try clear c39b0
                                        try clear c40
                                        try clear c40b0
                                        try clear c41
                                        try clear c42
                                        try clear c43
                                        try clear hcz10_0
                                        try clear hcz10_1
                                        try clear hcz10_2
                                        try clear hcz12_0
                                        try clear hcz12_1
                                        try clear hcz12_2
                                        try clear hcz23_0
                                        try clear hcz23_1
                                        try clear hcz23_2
                                        try clear hcz8_0
                                        try clear hcz8_1
                                        try clear hcz8_2
                                        try clear hfz10_0
                                        try clear hfz10_1
                                        try clear hfz10_2
                                        try clear hfz12_0
                                        try clear hfz12_1
                                        try clear hfz12_2
                                        try clear hfz23_0
                                        try clear hfz23_1
                                        try clear hfz23_2
                                        try clear hfz8_0
                                        try clear hfz8_1
                                        try clear hfz8_2
                                        try clear hx218_0
                                        try clear hx218_1
                                        try clear hx218_2
                                        try clear hx218_3
                                        try clear hx218_4
                                        try clear hx221_0
                                        try clear hx221_1
                                        try clear hx221_2
                                        try clear hx221_3
                                        try clear hx221_4
                                        try clear hx225_0
                                        try clear hx225_1
                                        try clear hx225_2
                                        try clear hx225_3
                                        try clear hx225_4
                                        try clear hx229_0
                                        try clear hx229_1
                                        try clear hx229_2
                                        try clear hx229_3
                                        try clear hx229_4
                                        try clear hx22_0
                                        try clear p2
                                        try clear p21
                                        try clear p218
                                        try clear p22
                                        try clear p221
                                        try clear p225
                                        try clear p229
                                        try clear p6
                                        try clear q2
                                        try clear q21
                                        try clear q218
                                        try clear q22
                                        try clear q221
                                        try clear q225
                                        try clear q229
                                        obtain ⟨x9_4, x11_4, x12_4, rfl, rfl, HA, HK4, HO_7, HO_9, BK210, HB⟩ := hrel
                                        have hl9_4 := (Kd.R_reads' HO_9.out).1
                                        rw [hl9_4] at HO_9
                                        (try simp only [hl9_4])
                                        (try simp only [hl9_4] at BK210)
                                        (try simp only [hl9_4] at HO_7)
                                        cases gk with
                                        | zero => exact absurd HA.out (by simp [ambidexterref22_Find.l2])
                                        | succ k4 =>
                                          have H := HA.out
                                          clear HA
                                          simp only [ambidexterref22_Find.l2] at H
                                          by_cases c44 : 0 ≤ x12_4
                                          · rw [if_pos c44] at H
                                            have c44b0 : decide (0 ≤ x12_4) = true := decide_eq_true c44
                                            clear c44
                                            by_cases c45 : x12_4 < (x7_2.length : Int)
                                            · rw [if_pos c45] at H
                                              have c45b0 : decide (x12_4 < (x7_2.length : Int)) = true := decide_eq_true c45
                                              clear c45
                                              by_cases c46 : ((rd_T69 x7_2 x12_4).f1) ≥ 0
                                              · rw [if_pos c46] at H
                                                have c46b0 : decide (0 ≤ ((rd_T69 x7_2 x12_4).f1)) = true := decide_eq_true c46
                                                clear c46
                                                obtain ⟨ji47, hji47⟩ : ∃ j_ : Int, (wrap64 (x11_4 - 1)) = j_ := ⟨_, rfl⟩
                                                replace H : (if 0 ≤ (ji47) then (if (ji47) < (x9_4.length : Int) then (ambidexterref22_Find.l2 k4 x7_2 (x9_4.set ((ji47) : Int).toNat ((rd_T69 x7_2 x12_4).f2)) ji47 ((rd_T69 x7_2 x12_4).f1)) else (none)) else (none)) = some (r1, r2) := by first | (rw [hji47] at H; exact H) | (simp only [hji47] at H ⊢; exact H)
                                                have hji47w : (IntKind.i64.wrap (x11_4 - 1)) = ji47 := (i64_w _).trans hji47
                                                by_cases c48 : 0 ≤ (ji47)
                                                · rw [if_pos c48] at H
                                                  have c48b0 : decide (0 ≤ (ji47)) = true := decide_eq_true c48
                                                  clear c48
                                                  by_cases c49 : (ji47) < (x9_4.length : Int)
                                                  · rw [if_pos c49] at H
                                                    have c49b0 : decide ((ji47) < (x9_4.length : Int)) = true := decide_eq_true c49
                                                    clear c49
                                                    obtain ⟨y232, hy232⟩ : ∃ y_ : List Int, y_ = (x9_4.set ((ji47) : Int).toNat ((rd_T69 x7_2 x12_4).f2)) := ⟨_, rfl⟩
                                                    replace H : (ambidexterref22_Find.l2 k4 x7_2 y232 ji47 ((rd_T69 x7_2 x12_4).f1)) = some (r1, r2) := by first | (rw [hy232]; with_reducible exact H) | (have H2_ := (Option.bind_some _ _).symm.trans H; rw [hy232]; with_reducible exact H2_) | (have H2_ := (Option.bind_some _ _).symm.trans H; with_reducible exact H2_) | with_reducible exact H | (rw [hy232]; exact H) | exact H
                                                    have Ny232 := Aside0.mk hy232
                                                    clear hy232
                                                    have H' := Aside0.mk H
                                                    clear H
                                                    have p230 : 0 ≤ (x12_4 : Int) := of_decide_eq_true (by first | (with_reducible assumption) | assumption)
                                                    have q230 : x12_4 < (x7_2.length : Int) := of_decide_eq_true (by first | (with_reducible assumption) | assumption)
                                                    obtain ⟨ad230, e230, hx230_0, hx230_1, hx230_2, hx230_3, hx230_4⟩ := at_T69 (Kd.R_reads' HO_7.out).2.2 x12_4 p230 q230
                                                    obtain rfl : ad221 = ad230 := (by injection e230)
                                                    replace p230 := eq_true p230
                                                    replace q230 := eq_true q230
                                                    have p231 : 0 ≤ (x12_4 : Int) := of_decide_eq_true (by first | (with_reducible assumption) | assumption)
                                                    have q231 : x12_4 < (x7_2.length : Int) := of_decide_eq_true (by first | (with_reducible assumption) | assumption)
                                                    obtain ⟨ad231, e231, hx231_0, hx231_1, hx231_2, hx231_3, hx231_4⟩ := at_T69 (Kd.R_reads' HO_7.out).2.2 x12_4 p231 q231
                                                    obtain rfl : ad221 = ad231 := (by injection e231)
                                                    replace p231 := eq_true p231
                                                    replace q231 := eq_true q231
                                                    have p50 : 0 ≤ ((ji47) : Int) := of_decide_eq_true (by first | (with_reducible assumption) | assumption)
                                                    have q50 : ((ji47) : Int) < ((x9_4.length : Int) : Int) := of_decide_eq_true (by first | (with_reducible assumption) | assumption)
                                                    obtain ⟨go50, co50, eo50, gb50, gl50, cl50, HG50⟩ := Kd.R_form HO_9.out (by omega)
                                                    (first | cases eo50 | (injection eo50 with ea_ en_ ec_; (first | subst ea_ | (injection ea_ with ea_; subst ea_)); subst ec_; clear en_))
                                                    have GB50 := Aside0.mk gb50
                                                    have GG50 := Aside0.mk HG50
                                                    clear gb50 gl50 HG50
                                                    obtain ⟨hx50_0, hf50_0⟩ := Kd.R_celln 0 HO_9.out ((ji47) : Int) p50 q50
                                                    replace p50 := eq_true p50
                                                    replace q50 := eq_true q50
                                                    have HP51 := Kd.R_putg HO_9.out ((ji47) : Int) ((rd_T69 x7_2 x12_4).f2)
                                                    go_wp2_with (first | ((with_reducible refine gate_store (t := 3) (p := 102) rfl ?_); refine store_event (t := 3) (p := 102) (v := ?vo_w52) (w1 := (wr.setCell ⟨go50, ((ji47) : Int).toNat, none⟩ (.int .i64 ((rd_T69 x7_2 x12_4).f2)))) ?hg ?ho ?hn ?hr ?_; (case ho => rfl); (case hg => rfl); (case hn => rfl); (case hr => first | (go_simp; done) | (go_simp; rfl)); intro w52 hw; have hg : wr.grownBy w52 (some go50) := (by rw [hw]; exact HP51.2); have hp_ : Kd.R (Kd.int .i64) 3 w52 w.heap.size (fun _ => True) (.slice (some ⟨go50, 0, none⟩) x9_4.length co43) y232 := (by rw [hw, Ny232.out]; exact HP51.1); clear HP51; have n0_ := Aside0.mk (Kd.R_over' (v := (.slice (some ⟨go50, 0, none⟩) x9_4.length co43)) (by (with_reducible repeat (first | apply Kd.R_alloc | apply Kd.R_drewN | apply Kd.R_drew)); exact HO_7.out) (Kd.R_typed HO_9.out) (by decide) hg); have n1_ := Aside0.mk (hp_); have n2_ := Aside0.mk (blk_grown (g := gb210) (o := .cells #[.int .i64 a0_0, .int .i64 a0_1, .int .i64 a0_2] 23 (0, 0)) (by (with_reducible repeat (first | refine blk_drewN ?_ _ | refine blk_drew ?_ | refine blk_alloc ?_ _)); exact BK210.out) hg (Kd.R_ne HO_9.out BK210.out (by decide))); have n3_ := Aside0.mk ((by rw [hw]; exact below_set (HB.out) GB50.out : Below w.heap.size w w52)); clear HO_7; clear HO_9; clear BK210; clear HB; have HO_7 := n0_; have HO_9 := n1_; have BK210 := n2_; have HB := n3_; clear n0_ n1_ n2_ n3_; clear hg hw hp_; have p233 : 0 ≤ (x12_4 : Int) := of_decide_eq_true (by first | (with_reducible assumption) | assumption); have q233 : x12_4 < (x7_2.length : Int) := of_decide_eq_true (by first | (with_reducible assumption) | assumption); obtain ⟨ad233, e233, hx233_0, hx233_1, hx233_2, hx233_3, hx233_4⟩ := at_T69 (Kd.R_reads' HO_7.out).2.2 x12_4 p233 q233; obtain rfl : ad221 = ad233 := (by injection e233); replace p233 := eq_true p233; replace q233 := eq_true q233))
                                                    (try simp only [← hl9_4])
                                                    go_roundg k4
                                                    case measure => have := HJ2.out; have := HK2.out; have := HK3.out; have := HK4.out; omega
                                                    case rel => exact ⟨(y232), (ji47), ((rd_T69 x7_2 x12_4).f1), (by first | rfl | (simp; done) | (simp only [← hji47] <;> (first | rfl | simp)) | (simp [*]; done)), (by first | rfl | (simp; done) | (simp [*]; done)), H', ⟨by have := HJ2.out; have := HK2.out; have := HK3.out; have := HK4.out; omega⟩, ⟨by (try simp only [hl6_2]); (try simp only [hl9_4]); (with_reducible repeat (first | apply Kd.R_alloc | apply Kd.R_drewN | apply Kd.R_drew)); exact HO_7.out⟩, ⟨by (try simp only [hl6_2]); (try simp only [hl9_4]); (with_reducible repeat (first | apply Kd.R_alloc | apply Kd.R_drewN | apply Kd.R_drew)); exact HO_9.out⟩, ⟨by (try simp only [hl6_2]); (try simp only [hl9_4]); (with_reducible repeat (first | refine blk_drewN ?_ _ | refine blk_drew ?_ | refine blk_alloc ?_ _)); exact BK210.out⟩, ⟨by repeat (first | (with_reducible first | exact HB.out | apply below_alloc | apply pw_below_drewN | apply below_drew1 | refine below_set ?_ GE210.out) | exact HB.out)⟩⟩
                                                  · rw [if_neg c49] at H
                                                    exact absurd H (by simp)
                                                · rw [if_neg c48] at H
                                                  exact absurd H (by simp)
                                              · rw [if_neg c46] at H
                                                have c46b0 : decide (0 ≤ ((rd_T69 x7_2 x12_4).f1)) = false := decide_eq_false c46
                                                clear c46
                                                simp only [Option.some.injEq, Prod.mk.injEq] at H
                                                obtain ⟨rfl, rfl⟩ := H
                                                have p230 : 0 ≤ (x12_4 : Int) := of_decide_eq_true (by first | (with_reducible assumption) | assumption)
                                                have q230 : x12_4 < (x7_2.length : Int) := of_decide_eq_true (by first | (with_reducible assumption) | assumption)
                                                obtain ⟨ad230, e230, hx230_0, hx230_1, hx230_2, hx230_3, hx230_4⟩ := at_T69 (Kd.R_reads' HO_7.out).2.2 x12_4 p230 q230
                                                obtain rfl : ad221 = ad230 := (by injection e230)
                                                replace p230 := eq_true p230
                                                replace q230 := eq_true q230
                                                go_wp2
                                                go_ret2
                                                exact ⟨_, by first | rfl | (simp [errW_none, errW_some] <;> rfl) | (simp only [← hji15]; first | rfl | (simp [errW_none, errW_some] <;> rfl)) | (simp [*, errW_none, errW_some] <;> rfl), by (with_reducible repeat (first | apply Kd.R_alloc | apply Kd.R_drewN | apply Kd.R_drew)); exact HO_9.out, by repeat (first | (with_reducible first | exact HB.out | apply below_alloc | apply pw_below_drewN | apply below_drew1 | refine below_set ?_ GE210.out) | exact HB.out)⟩
                                            · rw [if_neg c45] at H
                                              exact absurd H (by simp)
                                          · rw [if_neg c44] at H
                                            exact absurd H (by simp)
                                  · rw [if_neg c39] at H
                                    exact absurd H (by simp)
                                · rw [if_neg c38] at H
                                  exact absurd H (by simp)
                          · rw [if_neg c34] at H
                            have c34b0 : (((rd_T69 x7_2 x8_2).f0.f0) == a1 && (((rd_T69 x7_2 x8_2).f0.f1) == 0 && (((rd_T69 x7_2 x8_2).f0.f2) == 0))) = false := by simpa using c34
                            clear c34
                            have H' := Aside0.mk H
                            clear H
                            obtain ⟨Ao53, co53, eo53⟩ := Kd.R_slice HO_7.out
                            subst eo53
                            have p221 : 0 ≤ (x8_2 : Int) := of_decide_eq_true (by first | (with_reducible assumption) | assumption)
                            have q221 : x8_2 < (x7_2.length : Int) := of_decide_eq_true (by first | (with_reducible assumption) | assumption)
                            obtain ⟨ad221, e221, hx221_0, hx221_1, hx221_2, hx221_3, hx221_4⟩ := at_T69 (Kd.R_reads' HO_7.out).2.2 x8_2 p221 q221
                            cases e221
                            replace p221 := eq_true p221
                            replace q221 := eq_true q221
                            have hcz54_0 : wr.cell? ⟨gb210, 0, none⟩ = some (.int .i64 a0_0) := (blk_cell BK210.out 0).trans rfl
                            have hcz54_1 : wr.cell? ⟨gb210, 1, none⟩ = some (.int .i64 a0_1) := (blk_cell BK210.out 1).trans rfl
                            have hcz54_2 : wr.cell? ⟨gb210, 2, none⟩ = some (.int .i64 a0_2) := (blk_cell BK210.out 2).trans rfl
                            have hfz54_0 := blk_frozen BK210.out 0
                            have hfz54_1 := blk_frozen BK210.out 1
                            have hfz54_2 := blk_frozen BK210.out 2
                            go_wp2
                            go_loopg [7, 13] k2 (fun kq v7 v13 w' => ∃ (x6_3 : List Bool) (x7_3 : List (S69)) (x13_3 : Int), v13 = .int .i64 x13_3 ∧ Aside0 (ambidexterref22_Find.l3 kq a1 x6_3 x7_3 x8_2 x13_3 a0_0 a0_1 a0_2 = some (r1, r2)) ∧ Aside0 (kq ≤ k2) ∧ Aside0 (Kd.R Kd.bool 4 w' w.heap.size (fun _ => True) (.slice (some ⟨go22, 0, none⟩) x6_2.length co22) x6_3) ∧ Aside0 (Kd.R k69 69 w' w.heap.size (fun _ => True) v7 x7_3) ∧ Aside0 (w'.heap[gb210]? = some (.cells #[.int .i64 a0_0, .int .i64 a0_1, .int .i64 a0_2] 23 (0, 0))) ∧ Aside0 (Below w.heap.size w w'))
                            case atStart => exact ⟨(x6_2), (x7_2), (wrap64 (-a0_2)), (by first | rfl | (simp; done) | (simp [*]; done)), H', ⟨Nat.le_refl _⟩, ⟨by (try simp only [hl6_2]); (with_reducible repeat (first | apply Kd.R_alloc | apply Kd.R_drewN | apply Kd.R_drew)); exact HO_6.out⟩, ⟨by (try simp only [hl6_2]); (with_reducible repeat (first | apply Kd.R_alloc | apply Kd.R_drewN | apply Kd.R_drew)); exact HO_7.out⟩, ⟨by (try simp only [hl6_2]); (with_reducible repeat (first | refine blk_drewN ?_ _ | refine blk_drew ?_ | refine blk_alloc ?_ _)); exact BK210.out⟩, ⟨by repeat (first | (with_reducible first | exact HB.out | apply below_alloc | apply pw_below_drewN | apply below_drew1 | refine below_set ?_ GE210.out) | exact HB.out)⟩⟩
                            case round =>
                              clear H'
                              try clear c1
                              try clear c2
                              try clear p2
                              try clear q2
                              try clear hx2
                              try clear qi2
                              try clear hf2
                              try clear c3
                              try clear c4
                              try clear c5
                              try clear p5
                              try clear q5
                              try clear hx5
                              try clear hf5
                              try clear c6
                              try clear p6
                              try clear c7
                              try clear c7b0
                              try clear c14
                              try clear c16
                              try clear c16b0
                              try clear c16b1
                              try clear c17
                              try clear c17b0
                              try clear c17b1
                              try clear c18
                              try clear c18b0
                              try clear c18b1
                              try clear c20
                              try clear c20b0
                              try clear c21
                              try clear c21b0
                              try clear p21
                              try clear q21
                              try clear hx21
                              try clear qi21
                              try clear p22
                              try clear q22
                              try clear hx22
                              try clear hf22
                              try clear p23
                              try clear q23
                              try clear hx23
                              try clear c32
                              try clear c32b0
                              try clear c33
                              try clear c33b0
                              try clear c34
                              try clear c34b0
                              try clear c38
                              try clear c38b0
                              try clear c39
                              try clear c39b0
                              try clear c40
                              try clear c40b0
                              try clear c41
                              try clear c42
                              try clear c43
                              try clear c44
                              try clear c44b0
                              try clear c45
                              try clear c45b0
                              try clear c46
                              try clear c46b0
                              try clear c48
                              try clear c48b0
                              try clear c49
                              try clear c49b0
                              try clear p50
                              try clear q50
                              try clear hx50
                              try clear hf50
                              try clear hcz10_0
                              try clear hcz10_1
                              try clear hcz10_2
                              try clear hcz12_0
                              try clear hcz12_1
                              try clear hcz12_2
                              try clear hcz23_0
                              try clear hcz23_1
                              try clear hcz23_2
                              try clear hcz54_0
                              try clear hcz54_1
                              try clear hcz54_2
                              try clear hcz8_0
                              try clear hcz8_1
                              try clear hcz8_2
                              try clear hfz10_0
                              try clear hfz10_1
                              try clear hfz10_2
                              try clear hfz12_0
                              try clear hfz12_1
                              try clear hfz12_2
                              try clear hfz23_0
                              try clear hfz23_1
                              try clear hfz23_2
                              try clear hfz54_0
                              try clear hfz54_1
                              try clear hfz54_2
                              try clear hfz8_0
                              try clear hfz8_1
                              try clear hfz8_2
                              try clear hx218_0
                              try clear hx218_1
                              try clear hx218_2
                              try clear hx218_3
                              try clear hx218_4
                              try clear hx221_0
                              try clear hx221_1
                              try clear hx221_2
                              try clear hx221_3
                              try clear hx221_4
                              try clear hx225_0
                              try clear hx225_1
                              try clear hx225_2
                              try clear hx225_3
                              try clear hx225_4
                              try clear hx229_0
                              try clear hx229_1
                              try clear hx229_2
                              try clear hx229_3
                              try clear hx229_4
                              try clear hx22_0
                              try clear hx230_0
                              try clear hx230_1
                              try clear hx230_2
                              try clear hx230_3
                              try clear hx230_4
                              try clear hx231_0
                              try clear hx231_1
                              try clear hx231_2
                              try clear hx231_3
                              try clear hx231_4
                              try clear hx233_0
                              try clear hx233_1
                              try clear hx233_2
                              try clear hx233_3
                              try clear hx233_4
                              try clear hx50_0
                              try clear p2
                              try clear p21
                              try clear p218
                              try clear p22
                              try clear p221
                              try clear p225
                              try clear p229
                              try clear p230
                              try clear p231
                              try clear p233
                              try clear p50
                              try clear p6
                              try clear q2
                              try clear q21
                              try clear q218
                              try clear q22
                              try clear q221
                              try clear q225
                              try clear q229
                              try clear q230
                              try clear q231
                              try clear q233
                              try clear q50
                              obtain ⟨x6_3, x7_3, x13_3, rfl, HA, HK3, HO_6, HO_7, BK210, HB⟩ := hrel
                              have hl6_3 := (Kd.R_reads' HO_6.out).1
                              rw [hl6_3] at HO_6
                              (try simp only [hl6_3])
                              (try simp only [hl6_3] at BK210)
                              (try simp only [hl6_3] at HO_7)
                              cases gk with
                              | zero => exact absurd HA.out (by simp [ambidexterref22_Find.l3])
                              | succ k3 =>
                                have H := HA.out
                                clear HA
                                simp only [ambidexterref22_Find.l3] at H
                                by_cases c55 : x13_3 ≤ a0_2
                                · rw [if_pos c55] at H
                                  have c55b0 : decide (x13_3 ≤ a0_2) = true := decide_eq_true c55
                                  clear c55
                                  by_cases c56 : 0 ≤ x8_2
                                  · rw [if_pos c56] at H
                                    have c56b0 : decide (0 ≤ x8_2) = true := decide_eq_true c56
                                    clear c56
                                    by_cases c57 : x8_2 < (x7_3.length : Int)
                                    · rw [if_pos c57] at H
                                      have c57b0 : decide (x8_2 < (x7_3.length : Int)) = true := decide_eq_true c57
                                      clear c57
                                      replace H := Option.bind_eq_some_iff.mp H
                                      obtain ⟨⟨t235, t236, t237⟩, A580, H⟩ := H
                                      replace H : ((ambidexterref22_may.f a0_0 a0_1 a0_2 a1 t235 t236 t237).bind fun t239 => (if t239 = true then ((ambidexterref22_spot.f a0_0 a0_1 a0_2 t235 t236 t237).bind fun t240 => (if 0 ≤ t240 then (if t240 < (x6_3.length : Int) then (if rdOf false x6_3 t240 = true then (ambidexterref22_Find.l3 k3 a1 x6_3 x7_3 x8_2 (wrap64 (x13_3 + 1)) a0_0 a0_1 a0_2) else ((ambidexterref22_spot.f a0_0 a0_1 a0_2 t235 t236 t237).bind fun t242 => (if 0 ≤ t242 then (if t242 < (x6_3.length : Int) then (if x7_3.length < 3518437208883 then (ambidexterref22_Find.l3 k3 a1 (x6_3.set (t242 : Int).toNat true) (x7_3 ++ [(⟨(⟨t235, t236, t237⟩ : S37), x8_2, x13_3⟩ : S69)]) x8_2 (wrap64 (x13_3 + 1)) a0_0 a0_1 a0_2) else (none)) else (none)) else (none)))) else (none)) else (none))) else (ambidexterref22_Find.l3 k3 a1 x6_3 x7_3 x8_2 (wrap64 (x13_3 + 1)) a0_0 a0_1 a0_2))) = some (r1, r2) := H
                                      have A58 := Aside0.mk A580
                                      clear A580
                                      replace H := Option.bind_eq_some_iff.mp H
                                      obtain ⟨t239, A590, H⟩ := H
                                      replace H : (if t239 = true then ((ambidexterref22_spot.f a0_0 a0_1 a0_2 t235 t236 t237).bind fun t240 => (if 0 ≤ t240 then (if t240 < (x6_3.length : Int) then (if rdOf false x6_3 t240 = true then (ambidexterref22_Find.l3 k3 a1 x6_3 x7_3 x8_2 (wrap64 (x13_3 + 1)) a0_0 a0_1 a0_2) else ((ambidexterref22_spot.f a0_0 a0_1 a0_2 t235 t236 t237).bind fun t242 => (if 0 ≤ t242 then (if t242 < (x6_3.length : Int) then (if x7_3.length < 3518437208883 then (ambidexterref22_Find.l3 k3 a1 (x6_3.set (t242 : Int).toNat true) (x7_3 ++ [(⟨(⟨t235, t236, t237⟩ : S37), x8_2, x13_3⟩ : S69)]) x8_2 (wrap64 (x13_3 + 1)) a0_0 a0_1 a0_2) else (none)) else (none)) else (none)))) else (none)) else (none))) else (ambidexterref22_Find.l3 k3 a1 x6_3 x7_3 x8_2 (wrap64 (x13_3 + 1)) a0_0 a0_1 a0_2)) = some (r1, r2) := H
                                      have A59 := Aside0.mk A590
                                      clear A590
                                      by_cases c60 : t239 = true
                                      · subst c60
                                        have H1 : ((ambidexterref22_spot.f a0_0 a0_1 a0_2 t235 t236 t237).bind fun t240 => (if 0 ≤ t240 then (if t240 < (x6_3.length : Int) then (if rdOf false x6_3 t240 = true then (ambidexterref22_Find.l3 k3 a1 x6_3 x7_3 x8_2 (wrap64 (x13_3 + 1)) a0_0 a0_1 a0_2) else ((ambidexterref22_spot.f a0_0 a0_1 a0_2 t235 t236 t237).bind fun t242 => (if 0 ≤ t242 then (if t242 < (x6_3.length : Int) then (if x7_3.length < 3518437208883 then (ambidexterref22_Find.l3 k3 a1 (x6_3.set (t242 : Int).toNat true) (x7_3 ++ [(⟨(⟨t235, t236, t237⟩ : S37), x8_2, x13_3⟩ : S69)]) x8_2 (wrap64 (x13_3 + 1)) a0_0 a0_1 a0_2) else (none)) else (none)) else (none)))) else (none)) else (none))) = some (r1, r2) := by rw [if_pos rfl] at H; exact H
                                        clear H
                                        have H := H1
                                        clear H1
                                        replace H := Option.bind_eq_some_iff.mp H
                                        obtain ⟨t240, A610, H⟩ := H
                                        replace H : (if 0 ≤ t240 then (if t240 < (x6_3.length : Int) then (if rdOf false x6_3 t240 = true then (ambidexterref22_Find.l3 k3 a1 x6_3 x7_3 x8_2 (wrap64 (x13_3 + 1)) a0_0 a0_1 a0_2) else ((ambidexterref22_spot.f a0_0 a0_1 a0_2 t235 t236 t237).bind fun t242 => (if 0 ≤ t242 then (if t242 < (x6_3.length : Int) then (if x7_3.length < 3518437208883 then (ambidexterref22_Find.l3 k3 a1 (x6_3.set (t242 : Int).toNat true) (x7_3 ++ [(⟨(⟨t235, t236, t237⟩ : S37), x8_2, x13_3⟩ : S69)]) x8_2 (wrap64 (x13_3 + 1)) a0_0 a0_1 a0_2) else (none)) else (none)) else (none)))) else (none)) else (none)) = some (r1, r2) := H
                                        have A61 := Aside0.mk A610
                                        clear A610
                                        by_cases c62 : 0 ≤ t240
                                        · rw [if_pos c62] at H
                                          have c62b0 : decide (0 ≤ t240) = true := decide_eq_true c62
                                          clear c62
                                          by_cases c63 : t240 < (x6_3.length : Int)
                                          · rw [if_pos c63] at H
                                            have c63b0 : decide (t240 < (x6_3.length : Int)) = true := decide_eq_true c63
                                            clear c63
                                            obtain ⟨bq64, hbq64⟩ : ∃ b_ : Bool, b_ = (rdOf false x6_3 t240) := ⟨_, rfl⟩
                                            replace H : (if bq64 = true then (ambidexterref22_Find.l3 k3 a1 x6_3 x7_3 x8_2 (wrap64 (x13_3 + 1)) a0_0 a0_1 a0_2) else ((ambidexterref22_spot.f a0_0 a0_1 a0_2 t235 t236 t237).bind fun t242 => (if 0 ≤ t242 then (if t242 < (x6_3.length : Int) then (if x7_3.length < 3518437208883 then (ambidexterref22_Find.l3 k3 a1 (x6_3.set (t242 : Int).toNat true) (x7_3 ++ [(⟨(⟨t235, t236, t237⟩ : S37), x8_2, x13_3⟩ : S69)]) x8_2 (wrap64 (x13_3 + 1)) a0_0 a0_1 a0_2) else (none)) else (none)) else (none)))) = some (r1, r2) := by rw [← hbq64] at H; exact H
                                            have Nbq64 := Aside0.mk hbq64
                                            clear hbq64
                                            by_cases c65 : bq64 = true
                                            · subst c65
                                              have H1 : (ambidexterref22_Find.l3 k3 a1 x6_3 x7_3 x8_2 (wrap64 (x13_3 + 1)) a0_0 a0_1 a0_2) = some (r1, r2) := by rw [if_pos rfl] at H; exact H
                                              clear H
                                              have H := H1
                                              clear H1
                                              have H' := Aside0.mk H
                                              clear H
                                              have hcz66_0 : wr.cell? ⟨gb210, 0, none⟩ = some (.int .i64 a0_0) := (blk_cell BK210.out 0).trans rfl
                                              have hcz66_1 : wr.cell? ⟨gb210, 1, none⟩ = some (.int .i64 a0_1) := (blk_cell BK210.out 1).trans rfl
                                              have hcz66_2 : wr.cell? ⟨gb210, 2, none⟩ = some (.int .i64 a0_2) := (blk_cell BK210.out 2).trans rfl
                                              have hfz66_0 := blk_frozen BK210.out 0
                                              have hfz66_1 := blk_frozen BK210.out 1
                                              have hfz66_2 := blk_frozen BK210.out 2
                                              obtain ⟨Ao67, co67, eo67⟩ := Kd.R_slice HO_7.out
                                              subst eo67
                                              have p234 : 0 ≤ (x8_2 : Int) := of_decide_eq_true (by first | (with_reducible assumption) | assumption)
                                              have q234 : x8_2 < (x7_3.length : Int) := of_decide_eq_true (by first | (with_reducible assumption) | assumption)
                                              obtain ⟨ad234, e234, hx234_0, hx234_1, hx234_2, hx234_3, hx234_4⟩ := at_T69 (Kd.R_reads' HO_7.out).2.2 x8_2 p234 q234
                                              cases e234
                                              replace p234 := eq_true p234
                                              replace q234 := eq_true q234
                                              go_wp2_with (first | ((with_reducible refine gate_callee (f := 44) rfl ?_); refine goesL_ (some 119) rfl rfl Try.func44 (by kernel_rfl) rfl #[.agg #[.int .i64 ((rd_T69 x7_3 x8_2).f0.f0), .int .i64 ((rd_T69 x7_3 x8_2).f0.f1), .int .i64 ((rd_T69 x7_3 x8_2).f0.f2)], .int .i64 x13_3] rfl (by (try simp only [List.map_toArray, List.map_cons, List.map_nil]); first | done | rfl | (simp only [List.length_drop, List.length_take]; rfl)) ?_; (with_reducible refine (ambidexterref21_Tick.calls ((rd_T69 x7_3 x8_2).f0.f0) ((rd_T69 x7_3 x8_2).f0.f1) ((rd_T69 x7_3 x8_2).f0.f2) x13_3 t235 t236 t237 _ A58.out).mono ?_); rintro e w68 ⟨rfl, hb⟩; refine ⟨_, rfl, ?_⟩; have n0_ := Aside0.mk (Kd.R_below (by (with_reducible repeat (first | apply Kd.R_alloc | apply Kd.R_drewN | apply Kd.R_drew)); exact HO_6.out) hb); have n1_ := Aside0.mk (Kd.R_below (by (with_reducible repeat (first | apply Kd.R_alloc | apply Kd.R_drewN | apply Kd.R_drew)); exact HO_7.out) hb); have n2_ := Aside0.mk (blk_below (g := gb210) (o := .cells #[.int .i64 a0_0, .int .i64 a0_1, .int .i64 a0_2] 23 (0, 0)) (by (with_reducible repeat (first | refine blk_drewN ?_ _ | refine blk_drew ?_ | refine blk_alloc ?_ _)); exact BK210.out) hb); have n3_ := Aside0.mk (below_step (by repeat (first | (with_reducible first | exact HB.out | apply below_alloc | apply pw_below_drewN | apply below_drew1 | refine below_set ?_ GE210.out) | exact HB.out)) hb); clear HO_6; clear HO_7; clear BK210; clear HB; have HO_6 := n0_; have HO_7 := n1_; have BK210 := n2_; have HB := n3_; clear n0_ n1_ n2_ n3_; (try clear hb); (try clear hb2); (try clear hk); (try clear hi)) | ((with_reducible refine gate_dst (N := 14) rfl ?_); refine box_event ?hg (N := 14) ?hd (cs := #[.int .i64 0, .int .i64 0, .int .i64 0]) (t := 37) ?hr ?_; (case hd => rfl); (case hg => rfl); (case hr => first | (go_simp; done) | (go_simp; rfl)); intro gb238 hg w69 hbox hb; have n0_ := Aside0.mk (Kd.R_below (by (with_reducible repeat (first | apply Kd.R_alloc | apply Kd.R_drewN | apply Kd.R_drew)); exact HO_6.out) hb); have n1_ := Aside0.mk (Kd.R_below (by (with_reducible repeat (first | apply Kd.R_alloc | apply Kd.R_drewN | apply Kd.R_drew)); exact HO_7.out) hb); have n2_ := Aside0.mk (blk_below (g := gb210) (o := .cells #[.int .i64 a0_0, .int .i64 a0_1, .int .i64 a0_2] 23 (0, 0)) (by (with_reducible repeat (first | refine blk_drewN ?_ _ | refine blk_drew ?_ | refine blk_alloc ?_ _)); exact BK210.out) hb); have n3_ := Aside0.mk (below_step (by repeat (first | (with_reducible first | exact HB.out | apply below_alloc | apply pw_below_drewN | apply below_drew1 | refine below_set ?_ GE210.out) | exact HB.out)) hb); have n4_ := Aside0.mk (hbox); have n5_ := Aside0.mk ((by rw [hg]; exact (below_size (by repeat (first | (with_reducible first | exact HB.out | apply below_alloc | apply pw_below_drewN | apply below_drew1 | refine below_set ?_ GE210.out) | exact HB.out))) : w.heap.size ≤ gb238)); have n6_ := Aside0.mk ((by rw [hg]; exact (below_size (by repeat (first | (with_reducible first | exact HB.out | apply below_alloc | apply pw_below_drewN | apply below_drew1 | refine below_set ?_ GE210.out) | exact HB.out))) : w.heap.size ≤ gb238)); have n7_ := Aside0.mk ((by rw [hg]; exact Nat.ne_of_lt (blk_lt (g := gb210) (o := .cells #[.int .i64 a0_0, .int .i64 a0_1, .int .i64 a0_2] 23 (0, 0)) (by (with_reducible repeat (first | refine blk_drewN ?_ _ | refine blk_drew ?_ | refine blk_alloc ?_ _)); exact BK210.out)) : gb210 ≠ gb238)); have n8_ := Aside0.mk ((by rw [hg]; exact Nat.ne_of_gt (blk_lt (g := gb210) (o := .cells #[.int .i64 a0_0, .int .i64 a0_1, .int .i64 a0_2] 23 (0, 0)) (by (with_reducible repeat (first | refine blk_drewN ?_ _ | refine blk_drew ?_ | refine blk_alloc ?_ _)); exact BK210.out)) : gb238 ≠ gb210)); clear HO_6; clear HO_7; clear BK210; clear HB; have HO_6 := n0_; have HO_7 := n1_; have BK210 := n2_; have HB := n3_; have BK238 := n4_; have GW238 := n5_; have GE238 := n6_; have NB210_238 := n7_; have NB238_210 := n8_; clear n0_ n1_ n2_ n3_ n4_ n5_ n6_ n7_ n8_; clear hb hbox hg; have hnb70 := NB238_210.out; have hnc70 := NB210_238.out; have hcz71_0 : w69.cell? ⟨gb238, 0, none⟩ = some (.int .i64 0) := (blk_cell BK238.out 0).trans rfl; have hcz71_1 : w69.cell? ⟨gb238, 1, none⟩ = some (.int .i64 0) := (blk_cell BK238.out 1).trans rfl; have hcz71_2 : w69.cell? ⟨gb238, 2, none⟩ = some (.int .i64 0) := (blk_cell BK238.out 2).trans rfl; have hfz71_0 := blk_frozen BK238.out 0; have hfz71_1 := blk_frozen BK238.out 1; have hfz71_2 := blk_frozen BK238.out 2; have hcz72_0 : w69.cell? ⟨gb210, 0, none⟩ = some (.int .i64 a0_0) := (blk_cell BK210.out 0).trans rfl; have hcz72_1 : w69.cell? ⟨gb210, 1, none⟩ = some (.int .i64 a0_1) := (blk_cell BK210.out 1).trans rfl; have hcz72_2 : w69.cell? ⟨gb210, 2, none⟩ = some (.int .i64 a0_2) := (blk_cell BK210.out 2).trans rfl; have hfz72_0 := blk_frozen BK210.out 0; have hfz72_1 := blk_frozen BK210.out 1; have hfz72_2 := blk_frozen BK210.out 2) | ((with_reducible refine gate_callee (f := 45) rfl ?_); refine goesL_ (some 123) rfl rfl Try.func45 (by kernel_rfl) rfl #[.agg #[.int .i64 a0_0, .int .i64 a0_1, .int .i64 a0_2], .int .i64 a1, .agg #[.int .i64 t235, .int .i64 t236, .int .i64 t237]] rfl (by (try simp only [List.map_toArray, List.map_cons, List.map_nil]); first | done | rfl | (simp only [List.length_drop, List.length_take]; rfl)) ?_; (with_reducible refine (ambidexterref22_may.calls a0_0 a0_1 a0_2 a1 t235 t236 t237 true _ A59.out).mono ?_); rintro e w73 ⟨rfl, hb⟩; refine ⟨_, rfl, ?_⟩; have n0_ := Aside0.mk (Kd.R_below (by (with_reducible repeat (first | apply Kd.R_alloc | apply Kd.R_drewN | apply Kd.R_drew)); exact (Kd.R_mono (Kd.R_far (p := ⟨gb238, 2, none⟩) (Kd.R_far (p := ⟨gb238, 1, none⟩) (Kd.R_far (p := ⟨gb238, 0, none⟩) (Kd.R_types HO_6.out BK238.out (by decide)) (fun _ hk => hk.2) (.int .i64 t235)) (fun _ hk => hk.2) (.int .i64 t236)) (fun _ hk => hk.2) (.int .i64 t237)) (fun _ h_ => h_.1))) hb); have n1_ := Aside0.mk (Kd.R_below (by (with_reducible repeat (first | apply Kd.R_alloc | apply Kd.R_drewN | apply Kd.R_drew)); exact (Kd.R_mono (Kd.R_far (p := ⟨gb238, 2, none⟩) (Kd.R_far (p := ⟨gb238, 1, none⟩) (Kd.R_far (p := ⟨gb238, 0, none⟩) (Kd.R_types HO_7.out BK238.out (by decide)) (fun _ hk => hk.2) (.int .i64 t235)) (fun _ hk => hk.2) (.int .i64 t236)) (fun _ hk => hk.2) (.int .i64 t237)) (fun _ h_ => h_.1))) hb); have n2_ := Aside0.mk (blk_below (g := gb210) (o := .cells #[.int .i64 a0_0, .int .i64 a0_1, .int .i64 a0_2] 23 (0, 0)) (by (with_reducible repeat (first | refine blk_drewN ?_ _ | refine blk_drew ?_ | refine blk_alloc ?_ _)); refine blk_far ?_ NB210_238.out _; (with_reducible repeat (first | refine blk_drewN ?_ _ | refine blk_drew ?_ | refine blk_alloc ?_ _)); refine blk_far ?_ NB210_238.out _; (with_reducible repeat (first | refine blk_drewN ?_ _ | refine blk_drew ?_ | refine blk_alloc ?_ _)); refine blk_far ?_ NB210_238.out _; (with_reducible repeat (first | refine blk_drewN ?_ _ | refine blk_drew ?_ | refine blk_alloc ?_ _)); exact BK210.out) hb); have n3_ := Aside0.mk (blk_below (g := gb238) (o := .cells #[.int .i64 t235, .int .i64 t236, .int .i64 t237] 37 (0, 0)) (by (with_reducible repeat (first | refine blk_drewN ?_ _ | refine blk_drew ?_ | refine blk_alloc ?_ _)); refine blk_put (cs := #[.int .i64 t235, .int .i64 t236, .int .i64 0]) ?_ 2 _ rfl; (with_reducible repeat (first | refine blk_drewN ?_ _ | refine blk_drew ?_ | refine blk_alloc ?_ _)); refine blk_put (cs := #[.int .i64 t235, .int .i64 0, .int .i64 0]) ?_ 1 _ rfl; (with_reducible repeat (first | refine blk_drewN ?_ _ | refine blk_drew ?_ | refine blk_alloc ?_ _)); refine blk_put (cs := #[.int .i64 0, .int .i64 0, .int .i64 0]) ?_ 0 _ rfl; (with_reducible repeat (first | refine blk_drewN ?_ _ | refine blk_drew ?_ | refine blk_alloc ?_ _)); exact BK238.out) hb); have n4_ := Aside0.mk (below_step (by repeat (first | (with_reducible first | exact HB.out | apply below_alloc | apply pw_below_drewN | apply below_drew1 | refine below_set ?_ GE210.out | refine below_set ?_ GE238.out) | exact HB.out)) hb); clear HO_6; clear HO_7; clear BK210; clear BK238; clear HB; have HO_6 := n0_; have HO_7 := n1_; have BK210 := n2_; have BK238 := n3_; have HB := n4_; clear n0_ n1_ n2_ n3_ n4_; (try clear hb); (try clear hb2); (try clear hk); (try clear hi); have hcz74_0 : w73.cell? ⟨gb210, 0, none⟩ = some (.int .i64 a0_0) := (blk_cell BK210.out 0).trans rfl; have hcz74_1 : w73.cell? ⟨gb210, 1, none⟩ = some (.int .i64 a0_1) := (blk_cell BK210.out 1).trans rfl; have hcz74_2 : w73.cell? ⟨gb210, 2, none⟩ = some (.int .i64 a0_2) := (blk_cell BK210.out 2).trans rfl; have hfz74_0 := blk_frozen BK210.out 0; have hfz74_1 := blk_frozen BK210.out 1; have hfz74_2 := blk_frozen BK210.out 2; have hcz75_0 : w73.cell? ⟨gb238, 0, none⟩ = some (.int .i64 t235) := (blk_cell BK238.out 0).trans rfl; have hcz75_1 : w73.cell? ⟨gb238, 1, none⟩ = some (.int .i64 t236) := (blk_cell BK238.out 1).trans rfl; have hcz75_2 : w73.cell? ⟨gb238, 2, none⟩ = some (.int .i64 t237) := (blk_cell BK238.out 2).trans rfl; have hfz75_0 := blk_frozen BK238.out 0; have hfz75_1 := blk_frozen BK238.out 1; have hfz75_2 := blk_frozen BK238.out 2) | (go_at_call 43; (with_reducible refine (ambidexterref22_spot.calls a0_0 a0_1 a0_2 t235 t236 t237 t240 _ A61.out).mono ?_); rintro e w76 ⟨rfl, hb⟩; have n0_ := Aside0.mk (Kd.R_below (by (with_reducible repeat (first | apply Kd.R_alloc | apply Kd.R_drewN | apply Kd.R_drew)); exact HO_6.out) hb); have n1_ := Aside0.mk (Kd.R_below (by (with_reducible repeat (first | apply Kd.R_alloc | apply Kd.R_drewN | apply Kd.R_drew)); exact HO_7.out) hb); have n2_ := Aside0.mk (blk_below (g := gb210) (o := .cells #[.int .i64 a0_0, .int .i64 a0_1, .int .i64 a0_2] 23 (0, 0)) (by (with_reducible repeat (first | refine blk_drewN ?_ _ | refine blk_drew ?_ | refine blk_alloc ?_ _)); exact BK210.out) hb); have n3_ := Aside0.mk (blk_below (g := gb238) (o := .cells #[.int .i64 t235, .int .i64 t236, .int .i64 t237] 37 (0, 0)) (by (with_reducible repeat (first | refine blk_drewN ?_ _ | refine blk_drew ?_ | refine blk_alloc ?_ _)); exact BK238.out) hb); have n4_ := Aside0.mk (below_step (by repeat (first | (with_reducible first | exact HB.out | apply below_alloc | apply pw_below_drewN | apply below_drew1 | refine below_set ?_ GE210.out | refine below_set ?_ GE238.out) | exact HB.out)) hb); clear HO_6; clear HO_7; clear BK210; clear BK238; clear HB; have HO_6 := n0_; have HO_7 := n1_; have BK210 := n2_; have BK238 := n3_; have HB := n4_; clear n0_ n1_ n2_ n3_ n4_; (try clear hb); (try clear hb2); (try clear hk); (try clear hi); have p241 : 0 ≤ (t240 : Int) := of_decide_eq_true (by first | (with_reducible assumption) | assumption); have q241 : t240 < (x6_3.length : Int) := of_decide_eq_true (by first | (with_reducible assumption) | assumption); obtain ⟨ad241, e241, hx241_0⟩ := Kd.at_bool (Kd.R_reads' HO_6.out).2.2 t240 p241 q241; (try rw [← Nbq64.out] at hx241_0); obtain rfl : (⟨go22, 0, none⟩ : Addr) = ad241 := (by injection e241); (first | simp only [add_plain] at hx241_0 | simp only [add_at] at hx241_0 | simp only [Addr.add, Nat.zero_add] at hx241_0 | skip); replace p241 := eq_true p241; replace q241 := eq_true q241))
                                              (try simp only [← hl6_3])
                                              go_roundg k3
                                              case measure => have := HJ2.out; have := HK2.out; have := HK3.out; omega
                                              case rel => exact ⟨(x6_3), (x7_3), (wrap64 (x13_3 + 1)), (by first | rfl | (simp; done) | (simp [*]; done)), H', ⟨by have := HJ2.out; have := HK2.out; have := HK3.out; omega⟩, ⟨by (try simp only [hl6_2]); (try simp only [hl6_3]); (with_reducible repeat (first | apply Kd.R_alloc | apply Kd.R_drewN | apply Kd.R_drew)); exact HO_6.out⟩, ⟨by (try simp only [hl6_2]); (try simp only [hl6_3]); (with_reducible repeat (first | apply Kd.R_alloc | apply Kd.R_drewN | apply Kd.R_drew)); exact HO_7.out⟩, ⟨by (try simp only [hl6_2]); (try simp only [hl6_3]); (with_reducible repeat (first | refine blk_drewN ?_ _ | refine blk_drew ?_ | refine blk_alloc ?_ _)); exact BK210.out⟩, ⟨by repeat (first | (with_reducible first | exact HB.out | apply below_alloc | apply pw_below_drewN | apply below_drew1 | refine below_set ?_ GE210.out | refine below_set ?_ GE238.out) | exact HB.out)⟩⟩
                                            · replace c65 := Bool.eq_false_iff.mpr c65
                                              subst c65
                                              have H1 : ((ambidexterref22_spot.f a0_0 a0_1 a0_2 t235 t236 t237).bind fun t242 => (if 0 ≤ t242 then (if t242 < (x6_3.length : Int) then (if x7_3.length < 3518437208883 then (ambidexterref22_Find.l3 k3 a1 (x6_3.set (t242 : Int).toNat true) (x7_3 ++ [(⟨(⟨t235, t236, t237⟩ : S37), x8_2, x13_3⟩ : S69)]) x8_2 (wrap64 (x13_3 + 1)) a0_0 a0_1 a0_2) else (none)) else (none)) else (none))) = some (r1, r2) := by rw [if_neg (show ¬ (false = true) by decide)] at H; exact H
                                              clear H
                                              have H := H1
                                              clear H1
                                              replace H := Option.bind_eq_some_iff.mp H
                                              obtain ⟨t242, A770, H⟩ := H
                                              replace H : (if 0 ≤ t242 then (if t242 < (x6_3.length : Int) then (if x7_3.length < 3518437208883 then (ambidexterref22_Find.l3 k3 a1 (x6_3.set (t242 : Int).toNat true) (x7_3 ++ [(⟨(⟨t235, t236, t237⟩ : S37), x8_2, x13_3⟩ : S69)]) x8_2 (wrap64 (x13_3 + 1)) a0_0 a0_1 a0_2) else (none)) else (none)) else (none)) = some (r1, r2) := H
                                              have A77 := Aside0.mk A770
                                              clear A770
                                              by_cases c78 : 0 ≤ t242
                                              · rw [if_pos c78] at H
                                                have c78b0 : decide (0 ≤ t242) = true := decide_eq_true c78
                                                clear c78
                                                by_cases c79 : t242 < (x6_3.length : Int)
                                                · rw [if_pos c79] at H
                                                  have c79b0 : decide (t242 < (x6_3.length : Int)) = true := decide_eq_true c79
                                                  clear c79
                                                  obtain ⟨y243, hy243⟩ : ∃ y_ : List Bool, y_ = (x6_3.set (t242 : Int).toNat true) := ⟨_, rfl⟩
                                                  replace H : (if x7_3.length < 3518437208883 then (ambidexterref22_Find.l3 k3 a1 y243 (x7_3 ++ [(⟨(⟨t235, t236, t237⟩ : S37), x8_2, x13_3⟩ : S69)]) x8_2 (wrap64 (x13_3 + 1)) a0_0 a0_1 a0_2) else (none)) = some (r1, r2) := by first | (rw [hy243]; with_reducible exact H) | (have H2_ := (Option.bind_some _ _).symm.trans H; rw [hy243]; with_reducible exact H2_) | (have H2_ := (Option.bind_some _ _).symm.trans H; with_reducible exact H2_) | with_reducible exact H | (rw [hy243]; exact H) | exact H
                                                  have Ny243 := Aside0.mk hy243
                                                  clear hy243
                                                  by_cases c81 : x7_3.length < 3518437208883
                                                  · rw [if_pos c81] at H
                                                    have LMc81 := Aside0.mk c81
                                                    clear c81
                                                    obtain ⟨y244, hy244⟩ : ∃ y_ : List (S69), y_ = (x7_3 ++ [(⟨(⟨t235, t236, t237⟩ : S37), x8_2, x13_3⟩ : S69)]) := ⟨_, rfl⟩
                                                    replace H : (ambidexterref22_Find.l3 k3 a1 y243 y244 x8_2 (wrap64 (x13_3 + 1)) a0_0 a0_1 a0_2) = some (r1, r2) := by first | (rw [hy244]; with_reducible exact H) | (have H2_ := (Option.bind_some _ _).symm.trans H; rw [hy244]; with_reducible exact H2_) | (have H2_ := (Option.bind_some _ _).symm.trans H; with_reducible exact H2_) | with_reducible exact H | (rw [hy244]; exact H) | exact H
                                                    have Ny244 := Aside0.mk hy244
                                                    clear hy244
                                                    have H' := Aside0.mk H
                                                    clear H
                                                    have hcz82_0 : wr.cell? ⟨gb210, 0, none⟩ = some (.int .i64 a0_0) := (blk_cell BK210.out 0).trans rfl
                                                    have hcz82_1 : wr.cell? ⟨gb210, 1, none⟩ = some (.int .i64 a0_1) := (blk_cell BK210.out 1).trans rfl
                                                    have hcz82_2 : wr.cell? ⟨gb210, 2, none⟩ = some (.int .i64 a0_2) := (blk_cell BK210.out 2).trans rfl
                                                    have hfz82_0 := blk_frozen BK210.out 0
                                                    have hfz82_1 := blk_frozen BK210.out 1
                                                    have hfz82_2 := blk_frozen BK210.out 2
                                                    obtain ⟨Ao83, co83, eo83⟩ := Kd.R_slice HO_7.out
                                                    subst eo83
                                                    have p234 : 0 ≤ (x8_2 : Int) := of_decide_eq_true (by first | (with_reducible assumption) | assumption)
                                                    have q234 : x8_2 < (x7_3.length : Int) := of_decide_eq_true (by first | (with_reducible assumption) | assumption)
                                                    obtain ⟨ad234, e234, hx234_0, hx234_1, hx234_2, hx234_3, hx234_4⟩ := at_T69 (Kd.R_reads' HO_7.out).2.2 x8_2 p234 q234
                                                    cases e234
                                                    replace p234 := eq_true p234
                                                    replace q234 := eq_true q234
                                                    go_wp2_with (first | ((with_reducible refine gate_callee (f := 44) rfl ?_); refine goesL_ (some 119) rfl rfl Try.func44 (by kernel_rfl) rfl #[.agg #[.int .i64 ((rd_T69 x7_3 x8_2).f0.f0), .int .i64 ((rd_T69 x7_3 x8_2).f0.f1), .int .i64 ((rd_T69 x7_3 x8_2).f0.f2)], .int .i64 x13_3] rfl (by (try simp only [List.map_toArray, List.map_cons, List.map_nil]); first | done | rfl | (simp only [List.length_drop, List.length_take]; rfl)) ?_; (with_reducible refine (ambidexterref21_Tick.calls ((rd_T69 x7_3 x8_2).f0.f0) ((rd_T69 x7_3 x8_2).f0.f1) ((rd_T69 x7_3 x8_2).f0.f2) x13_3 t235 t236 t237 _ A58.out).mono ?_); rintro e w84 ⟨rfl, hb⟩; refine ⟨_, rfl, ?_⟩; have n0_ := Aside0.mk (Kd.R_below (by (with_reducible repeat (first | apply Kd.R_alloc | apply Kd.R_drewN | apply Kd.R_drew)); exact HO_6.out) hb); have n1_ := Aside0.mk (Kd.R_below (by (with_reducible repeat (first | apply Kd.R_alloc | apply Kd.R_drewN | apply Kd.R_drew)); exact HO_7.out) hb); have n2_ := Aside0.mk (blk_below (g := gb210) (o := .cells #[.int .i64 a0_0, .int .i64 a0_1, .int .i64 a0_2] 23 (0, 0)) (by (with_reducible repeat (first | refine blk_drewN ?_ _ | refine blk_drew ?_ | refine blk_alloc ?_ _)); exact BK210.out) hb); have n3_ := Aside0.mk (below_step (by repeat (first | (with_reducible first | exact HB.out | apply below_alloc | apply pw_below_drewN | apply below_drew1 | refine below_set ?_ GE210.out) | exact HB.out)) hb); clear HO_6; clear HO_7; clear BK210; clear HB; have HO_6 := n0_; have HO_7 := n1_; have BK210 := n2_; have HB := n3_; clear n0_ n1_ n2_ n3_; (try clear hb); (try clear hb2); (try clear hk); (try clear hi)) | ((with_reducible refine gate_dst (N := 14) rfl ?_); refine box_event ?hg (N := 14) ?hd (cs := #[.int .i64 0, .int .i64 0, .int .i64 0]) (t := 37) ?hr ?_; (case hd => rfl); (case hg => rfl); (case hr => first | (go_simp; done) | (go_simp; rfl)); intro gb238 hg w85 hbox hb; have n0_ := Aside0.mk (Kd.R_below (by (with_reducible repeat (first | apply Kd.R_alloc | apply Kd.R_drewN | apply Kd.R_drew)); exact HO_6.out) hb); have n1_ := Aside0.mk (Kd.R_below (by (with_reducible repeat (first | apply Kd.R_alloc | apply Kd.R_drewN | apply Kd.R_drew)); exact HO_7.out) hb); have n2_ := Aside0.mk (blk_below (g := gb210) (o := .cells #[.int .i64 a0_0, .int .i64 a0_1, .int .i64 a0_2] 23 (0, 0)) (by (with_reducible repeat (first | refine blk_drewN ?_ _ | refine blk_drew ?_ | refine blk_alloc ?_ _)); exact BK210.out) hb); have n3_ := Aside0.mk (below_step (by repeat (first | (with_reducible first | exact HB.out | apply below_alloc | apply pw_below_drewN | apply below_drew1 | refine below_set ?_ GE210.out) | exact HB.out)) hb); have n4_ := Aside0.mk (hbox); have n5_ := Aside0.mk ((by rw [hg]; exact (below_size (by repeat (first | (with_reducible first | exact HB.out | apply below_alloc | apply pw_below_drewN | apply below_drew1 | refine below_set ?_ GE210.out) | exact HB.out))) : w.heap.size ≤ gb238)); have n6_ := Aside0.mk ((by rw [hg]; exact (below_size (by repeat (first | (with_reducible first | exact HB.out | apply below_alloc | apply pw_below_drewN | apply below_drew1 | refine below_set ?_ GE210.out) | exact HB.out))) : w.heap.size ≤ gb238)); have n7_ := Aside0.mk ((by rw [hg]; exact Nat.ne_of_lt (blk_lt (g := gb210) (o := .cells #[.int .i64 a0_0, .int .i64 a0_1, .int .i64 a0_2] 23 (0, 0)) (by (with_reducible repeat (first | refine blk_drewN ?_ _ | refine blk_drew ?_ | refine blk_alloc ?_ _)); exact BK210.out)) : gb210 ≠ gb238)); have n8_ := Aside0.mk ((by rw [hg]; exact Nat.ne_of_gt (blk_lt (g := gb210) (o := .cells #[.int .i64 a0_0, .int .i64 a0_1, .int .i64 a0_2] 23 (0, 0)) (by (with_reducible repeat (first | refine blk_drewN ?_ _ | refine blk_drew ?_ | refine blk_alloc ?_ _)); exact BK210.out)) : gb238 ≠ gb210)); clear HO_6; clear HO_7; clear BK210; clear HB; have HO_6 := n0_; have HO_7 := n1_; have BK210 := n2_; have HB := n3_; have BK238 := n4_; have GW238 := n5_; have GE238 := n6_; have NB210_238 := n7_; have NB238_210 := n8_; clear n0_ n1_ n2_ n3_ n4_ n5_ n6_ n7_ n8_; clear hb hbox hg; have hnb86 := NB238_210.out; have hnc86 := NB210_238.out; have hcz87_0 : w85.cell? ⟨gb238, 0, none⟩ = some (.int .i64 0) := (blk_cell BK238.out 0).trans rfl; have hcz87_1 : w85.cell? ⟨gb238, 1, none⟩ = some (.int .i64 0) := (blk_cell BK238.out 1).trans rfl; have hcz87_2 : w85.cell? ⟨gb238, 2, none⟩ = some (.int .i64 0) := (blk_cell BK238.out 2).trans rfl; have hfz87_0 := blk_frozen BK238.out 0; have hfz87_1 := blk_frozen BK238.out 1; have hfz87_2 := blk_frozen BK238.out 2; have hcz88_0 : w85.cell? ⟨gb210, 0, none⟩ = some (.int .i64 a0_0) := (blk_cell BK210.out 0).trans rfl; have hcz88_1 : w85.cell? ⟨gb210, 1, none⟩ = some (.int .i64 a0_1) := (blk_cell BK210.out 1).trans rfl; have hcz88_2 : w85.cell? ⟨gb210, 2, none⟩ = some (.int .i64 a0_2) := (blk_cell BK210.out 2).trans rfl; have hfz88_0 := blk_frozen BK210.out 0; have hfz88_1 := blk_frozen BK210.out 1; have hfz88_2 := blk_frozen BK210.out 2) | ((with_reducible refine gate_callee (f := 45) rfl ?_); refine goesL_ (some 123) rfl rfl Try.func45 (by kernel_rfl) rfl #[.agg #[.int .i64 a0_0, .int .i64 a0_1, .int .i64 a0_2], .int .i64 a1, .agg #[.int .i64 t235, .int .i64 t236, .int .i64 t237]] rfl (by (try simp only [List.map_toArray, List.map_cons, List.map_nil]); first | done | rfl | (simp only [List.length_drop, List.length_take]; rfl)) ?_; (with_reducible refine (ambidexterref22_may.calls a0_0 a0_1 a0_2 a1 t235 t236 t237 true _ A59.out).mono ?_); rintro e w89 ⟨rfl, hb⟩; refine ⟨_, rfl, ?_⟩; have n0_ := Aside0.mk (Kd.R_below (by (with_reducible repeat (first | apply Kd.R_alloc | apply Kd.R_drewN | apply Kd.R_drew)); exact (Kd.R_mono (Kd.R_far (p := ⟨gb238, 2, none⟩) (Kd.R_far (p := ⟨gb238, 1, none⟩) (Kd.R_far (p := ⟨gb238, 0, none⟩) (Kd.R_types HO_6.out BK238.out (by decide)) (fun _ hk => hk.2) (.int .i64 t235)) (fun _ hk => hk.2) (.int .i64 t236)) (fun _ hk => hk.2) (.int .i64 t237)) (fun _ h_ => h_.1))) hb); have n1_ := Aside0.mk (Kd.R_below (by (with_reducible repeat (first | apply Kd.R_alloc | apply Kd.R_drewN | apply Kd.R_drew)); exact (Kd.R_mono (Kd.R_far (p := ⟨gb238, 2, none⟩) (Kd.R_far (p := ⟨gb238, 1, none⟩) (Kd.R_far (p := ⟨gb238, 0, none⟩) (Kd.R_types HO_7.out BK238.out (by decide)) (fun _ hk => hk.2) (.int .i64 t235)) (fun _ hk => hk.2) (.int .i64 t236)) (fun _ hk => hk.2) (.int .i64 t237)) (fun _ h_ => h_.1))) hb); have n2_ := Aside0.mk (blk_below (g := gb210) (o := .cells #[.int .i64 a0_0, .int .i64 a0_1, .int .i64 a0_2] 23 (0, 0)) (by (with_reducible repeat (first | refine blk_drewN ?_ _ | refine blk_drew ?_ | refine blk_alloc ?_ _)); refine blk_far ?_ NB210_238.out _; (with_reducible repeat (first | refine blk_drewN ?_ _ | refine blk_drew ?_ | refine blk_alloc ?_ _)); refine blk_far ?_ NB210_238.out _; (with_reducible repeat (first | refine blk_drewN ?_ _ | refine blk_drew ?_ | refine blk_alloc ?_ _)); refine blk_far ?_ NB210_238.out _; (with_reducible repeat (first | refine blk_drewN ?_ _ | refine blk_drew ?_ | refine blk_alloc ?_ _)); exact BK210.out) hb); have n3_ := Aside0.mk (blk_below (g := gb238) (o := .cells #[.int .i64 t235, .int .i64 t236, .int .i64 t237] 37 (0, 0)) (by (with_reducible repeat (first | refine blk_drewN ?_ _ | refine blk_drew ?_ | refine blk_alloc ?_ _)); refine blk_put (cs := #[.int .i64 t235, .int .i64 t236, .int .i64 0]) ?_ 2 _ rfl; (with_reducible repeat (first | refine blk_drewN ?_ _ | refine blk_drew ?_ | refine blk_alloc ?_ _)); refine blk_put (cs := #[.int .i64 t235, .int .i64 0, .int .i64 0]) ?_ 1 _ rfl; (with_reducible repeat (first | refine blk_drewN ?_ _ | refine blk_drew ?_ | refine blk_alloc ?_ _)); refine blk_put (cs := #[.int .i64 0, .int .i64 0, .int .i64 0]) ?_ 0 _ rfl; (with_reducible repeat (first | refine blk_drewN ?_ _ | refine blk_drew ?_ | refine blk_alloc ?_ _)); exact BK238.out) hb); have n4_ := Aside0.mk (below_step (by repeat (first | (with_reducible first | exact HB.out | apply below_alloc | apply pw_below_drewN | apply below_drew1 | refine below_set ?_ GE210.out | refine below_set ?_ GE238.out) | exact HB.out)) hb); clear HO_6; clear HO_7; clear BK210; clear BK238; clear HB; have HO_6 := n0_; have HO_7 := n1_; have BK210 := n2_; have BK238 := n3_; have HB := n4_; clear n0_ n1_ n2_ n3_ n4_; (try clear hb); (try clear hb2); (try clear hk); (try clear hi); have hcz90_0 : w89.cell? ⟨gb210, 0, none⟩ = some (.int .i64 a0_0) := (blk_cell BK210.out 0).trans rfl; have hcz90_1 : w89.cell? ⟨gb210, 1, none⟩ = some (.int .i64 a0_1) := (blk_cell BK210.out 1).trans rfl; have hcz90_2 : w89.cell? ⟨gb210, 2, none⟩ = some (.int .i64 a0_2) := (blk_cell BK210.out 2).trans rfl; have hfz90_0 := blk_frozen BK210.out 0; have hfz90_1 := blk_frozen BK210.out 1; have hfz90_2 := blk_frozen BK210.out 2; have hcz91_0 : w89.cell? ⟨gb238, 0, none⟩ = some (.int .i64 t235) := (blk_cell BK238.out 0).trans rfl; have hcz91_1 : w89.cell? ⟨gb238, 1, none⟩ = some (.int .i64 t236) := (blk_cell BK238.out 1).trans rfl; have hcz91_2 : w89.cell? ⟨gb238, 2, none⟩ = some (.int .i64 t237) := (blk_cell BK238.out 2).trans rfl; have hfz91_0 := blk_frozen BK238.out 0; have hfz91_1 := blk_frozen BK238.out 1; have hfz91_2 := blk_frozen BK238.out 2) | (go_at_call 43; (with_reducible refine (ambidexterref22_spot.calls a0_0 a0_1 a0_2 t235 t236 t237 t240 _ A61.out).mono ?_); rintro e w92 ⟨rfl, hb⟩; have n0_ := Aside0.mk (Kd.R_below (by (with_reducible repeat (first | apply Kd.R_alloc | apply Kd.R_drewN | apply Kd.R_drew)); exact HO_6.out) hb); have n1_ := Aside0.mk (Kd.R_below (by (with_reducible repeat (first | apply Kd.R_alloc | apply Kd.R_drewN | apply Kd.R_drew)); exact HO_7.out) hb); have n2_ := Aside0.mk (blk_below (g := gb210) (o := .cells #[.int .i64 a0_0, .int .i64 a0_1, .int .i64 a0_2] 23 (0, 0)) (by (with_reducible repeat (first | refine blk_drewN ?_ _ | refine blk_drew ?_ | refine blk_alloc ?_ _)); exact BK210.out) hb); have n3_ := Aside0.mk (blk_below (g := gb238) (o := .cells #[.int .i64 t235, .int .i64 t236, .int .i64 t237] 37 (0, 0)) (by (with_reducible repeat (first | refine blk_drewN ?_ _ | refine blk_drew ?_ | refine blk_alloc ?_ _)); exact BK238.out) hb); have n4_ := Aside0.mk (below_step (by repeat (first | (with_reducible first | exact HB.out | apply below_alloc | apply pw_below_drewN | apply below_drew1 | refine below_set ?_ GE210.out | refine below_set ?_ GE238.out) | exact HB.out)) hb); clear HO_6; clear HO_7; clear BK210; clear BK238; clear HB; have HO_6 := n0_; have HO_7 := n1_; have BK210 := n2_; have BK238 := n3_; have HB := n4_; clear n0_ n1_ n2_ n3_ n4_; (try clear hb); (try clear hb2); (try clear hk); (try clear hi); have p241 : 0 ≤ (t240 : Int) := of_decide_eq_true (by first | (with_reducible assumption) | assumption); have q241 : t240 < (x6_3.length : Int) := of_decide_eq_true (by first | (with_reducible assumption) | assumption); obtain ⟨ad241, e241, hx241_0⟩ := Kd.at_bool (Kd.R_reads' HO_6.out).2.2 t240 p241 q241; (try rw [← Nbq64.out] at hx241_0); obtain rfl : (⟨go22, 0, none⟩ : Addr) = ad241 := (by injection e241); (first | simp only [add_plain] at hx241_0 | simp only [add_at] at hx241_0 | simp only [Addr.add, Nat.zero_add] at hx241_0 | skip); replace p241 := eq_true p241; replace q241 := eq_true q241; have hcz93_0 : w92.cell? ⟨gb210, 0, none⟩ = some (.int .i64 a0_0) := (blk_cell BK210.out 0).trans rfl; have hcz93_1 : w92.cell? ⟨gb210, 1, none⟩ = some (.int .i64 a0_1) := (blk_cell BK210.out 1).trans rfl; have hcz93_2 : w92.cell? ⟨gb210, 2, none⟩ = some (.int .i64 a0_2) := (blk_cell BK210.out 2).trans rfl; have hfz93_0 := blk_frozen BK210.out 0; have hfz93_1 := blk_frozen BK210.out 1; have hfz93_2 := blk_frozen BK210.out 2; have hcz94_0 : w92.cell? ⟨gb238, 0, none⟩ = some (.int .i64 t235) := (blk_cell BK238.out 0).trans rfl; have hcz94_1 : w92.cell? ⟨gb238, 1, none⟩ = some (.int .i64 t236) := (blk_cell BK238.out 1).trans rfl; have hcz94_2 : w92.cell? ⟨gb238, 2, none⟩ = some (.int .i64 t237) := (blk_cell BK238.out 2).trans rfl; have hfz94_0 := blk_frozen BK238.out 0; have hfz94_1 := blk_frozen BK238.out 1; have hfz94_2 := blk_frozen BK238.out 2) | ((with_reducible refine gate_callee (f := 43) rfl ?_); refine goesL_ (some 136) rfl rfl Try.func43 (by kernel_rfl) rfl #[.agg #[.int .i64 a0_0, .int .i64 a0_1, .int .i64 a0_2], .agg #[.int .i64 t235, .int .i64 t236, .int .i64 t237]] rfl (by (try simp only [List.map_toArray, List.map_cons, List.map_nil]); first | done | rfl | (simp only [List.length_drop, List.length_take]; rfl)) ?_; (with_reducible refine (ambidexterref22_spot.calls a0_0 a0_1 a0_2 t235 t236 t237 t242 _ A77.out).mono ?_); rintro e w95 ⟨rfl, hb⟩; refine ⟨_, rfl, ?_⟩; have n0_ := Aside0.mk (Kd.R_below (by (with_reducible repeat (first | apply Kd.R_alloc | apply Kd.R_drewN | apply Kd.R_drew)); exact HO_6.out) hb); have n1_ := Aside0.mk (Kd.R_below (by (with_reducible repeat (first | apply Kd.R_alloc | apply Kd.R_drewN | apply Kd.R_drew)); exact HO_7.out) hb); have n2_ := Aside0.mk (blk_below (g := gb210) (o := .cells #[.int .i64 a0_0, .int .i64 a0_1, .int .i64 a0_2] 23 (0, 0)) (by (with_reducible repeat (first | refine blk_drewN ?_ _ | refine blk_drew ?_ | refine blk_alloc ?_ _)); exact BK210.out) hb); have n3_ := Aside0.mk (blk_below (g := gb238) (o := .cells #[.int .i64 t235, .int .i64 t236, .int .i64 t237] 37 (0, 0)) (by (with_reducible repeat (first | refine blk_drewN ?_ _ | refine blk_drew ?_ | refine blk_alloc ?_ _)); exact BK238.out) hb); have n4_ := Aside0.mk (below_step (by repeat (first | (with_reducible first | exact HB.out | apply below_alloc | apply pw_below_drewN | apply below_drew1 | refine below_set ?_ GE210.out | refine below_set ?_ GE238.out) | exact HB.out)) hb); clear HO_6; clear HO_7; clear BK210; clear BK238; clear HB; have HO_6 := n0_; have HO_7 := n1_; have BK210 := n2_; have BK238 := n3_; have HB := n4_; clear n0_ n1_ n2_ n3_ n4_; (try clear hb); (try clear hb2); (try clear hk); (try clear hi); have p80 : 0 ≤ (t242 : Int) := of_decide_eq_true (by first | (with_reducible assumption) | assumption); have q80 : (t242 : Int) < ((x6_3.length : Int) : Int) := of_decide_eq_true (by first | (with_reducible assumption) | assumption); obtain ⟨hx80_0, hf80_0⟩ := Kd.R_celln false HO_6.out (t242 : Int) p80 q80; replace p80 := eq_true p80; replace q80 := eq_true q80; obtain ⟨hy96_, hz96_⟩ := Kd.R_celln false HO_6.out (t242 : Int) (of_decide_eq_true (by first | (with_reducible assumption) | assumption)) (of_decide_eq_true (by first | (with_reducible assumption) | assumption)); have HP96 := Kd.R_putg HO_6.out (t242 : Int) true) | ((with_reducible refine gate_store (t := 4) (p := 137) rfl ?_); refine store_event (t := 4) (p := 137) (v := ?vo_w97) (w1 := (w95.setCell ⟨go22, (t242 : Int).toNat, none⟩ (.bool true))) ?hg ?ho ?hn ?hr ?_; (case ho => rfl); (case hg => rfl); (case hn => rfl); (case hr => first | (go_simp; done) | (go_simp; rfl)); intro w97 hw; have hg : w95.grownBy w97 (some go22) := (by rw [hw]; exact HP96.2); have hp_ : Kd.R Kd.bool 4 w97 w.heap.size (fun _ => True) (.slice (some ⟨go22, 0, none⟩) x6_3.length co22) y243 := (by rw [hw, Ny243.out]; exact HP96.1); clear HP96; have n0_ := Aside0.mk (hp_); have n1_ := Aside0.mk (Kd.R_over' (v := (.slice (some ⟨go22, 0, none⟩) x6_3.length co22)) (by (with_reducible repeat (first | apply Kd.R_alloc | apply Kd.R_drewN | apply Kd.R_drew)); exact HO_7.out) (Kd.R_typed HO_6.out) (by decide) hg); have n2_ := Aside0.mk (blk_grown (g := gb210) (o := .cells #[.int .i64 a0_0, .int .i64 a0_1, .int .i64 a0_2] 23 (0, 0)) (by (with_reducible repeat (first | refine blk_drewN ?_ _ | refine blk_drew ?_ | refine blk_alloc ?_ _)); exact BK210.out) hg (Kd.R_ne HO_6.out BK210.out (by decide))); have n3_ := Aside0.mk (blk_grown (g := gb238) (o := .cells #[.int .i64 t235, .int .i64 t236, .int .i64 t237] 37 (0, 0)) (by (with_reducible repeat (first | refine blk_drewN ?_ _ | refine blk_drew ?_ | refine blk_alloc ?_ _)); exact BK238.out) hg (Kd.R_ne HO_6.out BK238.out (by decide))); have n4_ := Aside0.mk ((by rw [hw]; exact below_set (HB.out) GB22.out : Below w.heap.size w w97)); clear HO_6; clear HO_7; clear BK210; clear BK238; clear HB; have HO_6 := n0_; have HO_7 := n1_; have BK210 := n2_; have BK238 := n3_; have HB := n4_; clear n0_ n1_ n2_ n3_ n4_; clear hg hw hp_; have hcz98_0 : w97.cell? ⟨gb238, 0, none⟩ = some (.int .i64 t235) := (blk_cell BK238.out 0).trans rfl; have hcz98_1 : w97.cell? ⟨gb238, 1, none⟩ = some (.int .i64 t236) := (blk_cell BK238.out 1).trans rfl; have hcz98_2 : w97.cell? ⟨gb238, 2, none⟩ = some (.int .i64 t237) := (blk_cell BK238.out 2).trans rfl; have hfz98_0 := blk_frozen BK238.out 0; have hfz98_1 := blk_frozen BK238.out 1; have hfz98_2 := blk_frozen BK238.out 2) | ((with_reducible refine gate_builtin (b := .append) (xs := #[.tmp 138, .tmp 143]) rfl ?_); at_builtin; refine Kd.R_append k69 (w0 := w) w.heap.size rfl (.tmp 138) (.tmp 143) 70 69 (.agg #[(.int .i64 0), (.int .i64 0), (.int .i64 0), (.int .i64 0), (.int .i64 0)]) 40 rfl Try.underlying70 info69 rfl (by decide) (by omega) (.slice (some ad234) x7_3.length co83) x7_3 (⟨(⟨t235, t236, t237⟩ : S37), x8_2, x13_3⟩ : S69) [.int .i64 t235, .int .i64 t236, .int .i64 t237, .int .i64 x8_2, .int .i64 x13_3] (fun _ => True) (fun _ => False) rfl rfl ?aP (fun _ hk => hk.elim) ?aF ?aO ?aB ?aS ?aL ?_; (case aP => exact k69_mkM _ _ _ (⟨(⟨t235, t236, t237⟩ : S37), x8_2, x13_3⟩ : S69)); (case aB => exact (by repeat (first | (with_reducible first | exact HB.out | apply below_alloc | apply pw_below_drewN | apply below_drew1 | refine below_set ?_ GE210.out | refine below_set ?_ GE238.out) | exact HB.out))); (case aF => exact (fun _ _ => trivial)); (case aO => exact (by (with_reducible repeat (first | apply Kd.R_alloc | apply Kd.R_drewN | apply Kd.R_drew)); exact HO_7.out)); (case aS => exact (below_size (by repeat (first | (with_reducible first | exact HB.out | apply below_alloc | apply pw_below_drewN | apply below_drew1 | refine below_set ?_ GE210.out | refine below_set ?_ GE238.out) | exact HB.out)))); (case aL => have := LMc81.out; omega); intro v245 w99 ho hb hg hat; rw [← Ny244.out] at ho; have n0_ := Aside0.mk (Kd.R_over' (by (with_reducible repeat (first | apply Kd.R_alloc | apply Kd.R_drewN | apply Kd.R_drew)); exact HO_6.out) (Kd.R_typed (by (with_reducible repeat (first | apply Kd.R_alloc | apply Kd.R_drewN | apply Kd.R_drew)); exact HO_7.out)) (by decide) hg); have n1_ := Aside0.mk (blk_grown (g := gb210) (o := .cells #[.int .i64 a0_0, .int .i64 a0_1, .int .i64 a0_2] 23 (0, 0)) (by (with_reducible repeat (first | refine blk_drewN ?_ _ | refine blk_drew ?_ | refine blk_alloc ?_ _)); exact BK210.out) hg (Kd.R_ne HO_7.out BK210.out (by decide))); have n2_ := Aside0.mk (blk_grown (g := gb238) (o := .cells #[.int .i64 t235, .int .i64 t236, .int .i64 t237] 37 (0, 0)) (by (with_reducible repeat (first | refine blk_drewN ?_ _ | refine blk_drew ?_ | refine blk_alloc ?_ _)); exact BK238.out) hg (Kd.R_ne HO_7.out BK238.out (by decide))); have n3_ := Aside0.mk (hb); have n4_ := Aside0.mk (ho); clear HO_6; clear BK210; clear BK238; clear HB; clear HO_7; have HO_6 := n0_; have BK210 := n1_; have BK238 := n2_; have HB := n3_; have HO246 := n4_; clear n0_ n1_ n2_ n3_ n4_; clear ho hb hg hat))
                                                    (try simp only [← hl6_3])
                                                    go_roundg k3
                                                    case measure => have := HJ2.out; have := HK2.out; have := HK3.out; omega
                                                    case rel => exact ⟨(y243), (y244), (wrap64 (x13_3 + 1)), (by first | rfl | (simp; done) | (simp [*]; done)), H', ⟨by have := HJ2.out; have := HK2.out; have := HK3.out; omega⟩, ⟨by (try simp only [hl6_2]); (try simp only [hl6_3]); (with_reducible repeat (first | apply Kd.R_alloc | apply Kd.R_drewN | apply Kd.R_drew)); exact HO_6.out⟩, ⟨by (try simp only [hl6_2]); (try simp only [hl6_3]); (with_reducible repeat (first | apply Kd.R_alloc | apply Kd.R_drewN | apply Kd.R_drew)); exact HO246.out⟩, ⟨by (try simp only [hl6_2]); (try simp only [hl6_3]); (with_reducible repeat (first | refine blk_drewN ?_ _ | refine blk_drew ?_ | refine blk_alloc ?_ _)); exact BK210.out⟩, ⟨by repeat (first | (with_reducible first | exact HB.out | apply below_alloc | apply pw_below_drewN | apply below_drew1 | refine below_set ?_ GE210.out | refine below_set ?_ GE238.out) | exact HB.out)⟩⟩
                                                  · rw [if_neg c81] at H
                                                    exact absurd H (by simp)
                                                · rw [if_neg c79] at H
                                                  exact absurd H (by simp)
                                              · rw [if_neg c78] at H
                                                exact absurd H (by simp)
                                          · rw [if_neg c63] at H
                                            exact absurd H (by simp)
                                        · rw [if_neg c62] at H
                                          exact absurd H (by simp)
                                      · replace c60 := Bool.eq_false_iff.mpr c60
                                        subst c60
                                        have H1 : (ambidexterref22_Find.l3 k3 a1 x6_3 x7_3 x8_2 (wrap64 (x13_3 + 1)) a0_0 a0_1 a0_2) = some (r1, r2) := by rw [if_neg (show ¬ (false = true) by decide)] at H; exact H
                                        clear H
                                        have H := H1
                                        clear H1
                                        have H' := Aside0.mk H
                                        clear H
                                        have hcz100_0 : wr.cell? ⟨gb210, 0, none⟩ = some (.int .i64 a0_0) := (blk_cell BK210.out 0).trans rfl
                                        have hcz100_1 : wr.cell? ⟨gb210, 1, none⟩ = some (.int .i64 a0_1) := (blk_cell BK210.out 1).trans rfl
                                        have hcz100_2 : wr.cell? ⟨gb210, 2, none⟩ = some (.int .i64 a0_2) := (blk_cell BK210.out 2).trans rfl
                                        have hfz100_0 := blk_frozen BK210.out 0
                                        have hfz100_1 := blk_frozen BK210.out 1
                                        have hfz100_2 := blk_frozen BK210.out 2
                                        obtain ⟨Ao101, co101, eo101⟩ := Kd.R_slice HO_7.out
                                        subst eo101
                                        have p234 : 0 ≤ (x8_2 : Int) := of_decide_eq_true (by first | (with_reducible assumption) | assumption)
                                        have q234 : x8_2 < (x7_3.length : Int) := of_decide_eq_true (by first | (with_reducible assumption) | assumption)
                                        obtain ⟨ad234, e234, hx234_0, hx234_1, hx234_2, hx234_3, hx234_4⟩ := at_T69 (Kd.R_reads' HO_7.out).2.2 x8_2 p234 q234
                                        cases e234
                                        replace p234 := eq_true p234
                                        replace q234 := eq_true q234
                                        go_wp2_with (first | ((with_reducible refine gate_callee (f := 44) rfl ?_); refine goesL_ (some 119) rfl rfl Try.func44 (by kernel_rfl) rfl #[.agg #[.int .i64 ((rd_T69 x7_3 x8_2).f0.f0), .int .i64 ((rd_T69 x7_3 x8_2).f0.f1), .int .i64 ((rd_T69 x7_3 x8_2).f0.f2)], .int .i64 x13_3] rfl (by (try simp only [List.map_toArray, List.map_cons, List.map_nil]); first | done | rfl | (simp only [List.length_drop, List.length_take]; rfl)) ?_; (with_reducible refine (ambidexterref21_Tick.calls ((rd_T69 x7_3 x8_2).f0.f0) ((rd_T69 x7_3 x8_2).f0.f1) ((rd_T69 x7_3 x8_2).f0.f2) x13_3 t235 t236 t237 _ A58.out).mono ?_); rintro e w102 ⟨rfl, hb⟩; refine ⟨_, rfl, ?_⟩; have n0_ := Aside0.mk (Kd.R_below (by (with_reducible repeat (first | apply Kd.R_alloc | apply Kd.R_drewN | apply Kd.R_drew)); exact HO_6.out) hb); have n1_ := Aside0.mk (Kd.R_below (by (with_reducible repeat (first | apply Kd.R_alloc | apply Kd.R_drewN | apply Kd.R_drew)); exact HO_7.out) hb); have n2_ := Aside0.mk (blk_below (g := gb210) (o := .cells #[.int .i64 a0_0, .int .i64 a0_1, .int .i64 a0_2] 23 (0, 0)) (by (with_reducible repeat (first | refine blk_drewN ?_ _ | refine blk_drew ?_ | refine blk_alloc ?_ _)); exact BK210.out) hb); have n3_ := Aside0.mk (below_step (by repeat (first | (with_reducible first | exact HB.out | apply below_alloc | apply pw_below_drewN | apply below_drew1 | refine below_set ?_ GE210.out) | exact HB.out)) hb); clear HO_6; clear HO_7; clear BK210; clear HB; have HO_6 := n0_; have HO_7 := n1_; have BK210 := n2_; have HB := n3_; clear n0_ n1_ n2_ n3_; (try clear hb); (try clear hb2); (try clear hk); (try clear hi)) | ((with_reducible refine gate_dst (N := 14) rfl ?_); refine box_event ?hg (N := 14) ?hd (cs := #[.int .i64 0, .int .i64 0, .int .i64 0]) (t := 37) ?hr ?_; (case hd => rfl); (case hg => rfl); (case hr => first | (go_simp; done) | (go_simp; rfl)); intro gb238 hg w103 hbox hb; have n0_ := Aside0.mk (Kd.R_below (by (with_reducible repeat (first | apply Kd.R_alloc | apply Kd.R_drewN | apply Kd.R_drew)); exact HO_6.out) hb); have n1_ := Aside0.mk (Kd.R_below (by (with_reducible repeat (first | apply Kd.R_alloc | apply Kd.R_drewN | apply Kd.R_drew)); exact HO_7.out) hb); have n2_ := Aside0.mk (blk_below (g := gb210) (o := .cells #[.int .i64 a0_0, .int .i64 a0_1, .int .i64 a0_2] 23 (0, 0)) (by (with_reducible repeat (first | refine blk_drewN ?_ _ | refine blk_drew ?_ | refine blk_alloc ?_ _)); exact BK210.out) hb); have n3_ := Aside0.mk (below_step (by repeat (first | (with_reducible first | exact HB.out | apply below_alloc | apply pw_below_drewN | apply below_drew1 | refine below_set ?_ GE210.out) | exact HB.out)) hb); have n4_ := Aside0.mk (hbox); have n5_ := Aside0.mk ((by rw [hg]; exact (below_size (by repeat (first | (with_reducible first | exact HB.out | apply below_alloc | apply pw_below_drewN | apply below_drew1 | refine below_set ?_ GE210.out) | exact HB.out))) : w.heap.size ≤ gb238)); have n6_ := Aside0.mk ((by rw [hg]; exact (below_size (by repeat (first | (with_reducible first | exact HB.out | apply below_alloc | apply pw_below_drewN | apply below_drew1 | refine below_set ?_ GE210.out) | exact HB.out))) : w.heap.size ≤ gb238)); have n7_ := Aside0.mk ((by rw [hg]; exact Nat.ne_of_lt (blk_lt (g := gb210) (o := .cells #[.int .i64 a0_0, .int .i64 a0_1, .int .i64 a0_2] 23 (0, 0)) (by (with_reducible repeat (first | refine blk_drewN ?_ _ | refine blk_drew ?_ | refine blk_alloc ?_ _)); exact BK210.out)) : gb210 ≠ gb238)); have n8_ := Aside0.mk ((by rw [hg]; exact Nat.ne_of_gt (blk_lt (g := gb210) (o := .cells #[.int .i64 a0_0, .int .i64 a0_1, .int .i64 a0_2] 23 (0, 0)) (by (with_reducible repeat (first | refine blk_drewN ?_ _ | refine blk_drew ?_ | refine blk_alloc ?_ _)); exact BK210.out)) : gb238 ≠ gb210)); clear HO_6; clear HO_7; clear BK210; clear HB; have HO_6 := n0_; have HO_7 := n1_; have BK210 := n2_; have HB := n3_; have BK238 := n4_; have GW238 := n5_; have GE238 := n6_; have NB210_238 := n7_; have NB238_210 := n8_; clear n0_ n1_ n2_ n3_ n4_ n5_ n6_ n7_ n8_; clear hb hbox hg; have hnb104 := NB238_210.out; have hnc104 := NB210_238.out; have hcz105_0 : w103.cell? ⟨gb238, 0, none⟩ = some (.int .i64 0) := (blk_cell BK238.out 0).trans rfl; have hcz105_1 : w103.cell? ⟨gb238, 1, none⟩ = some (.int .i64 0) := (blk_cell BK238.out 1).trans rfl; have hcz105_2 : w103.cell? ⟨gb238, 2, none⟩ = some (.int .i64 0) := (blk_cell BK238.out 2).trans rfl; have hfz105_0 := blk_frozen BK238.out 0; have hfz105_1 := blk_frozen BK238.out 1; have hfz105_2 := blk_frozen BK238.out 2; have hcz106_0 : w103.cell? ⟨gb210, 0, none⟩ = some (.int .i64 a0_0) := (blk_cell BK210.out 0).trans rfl; have hcz106_1 : w103.cell? ⟨gb210, 1, none⟩ = some (.int .i64 a0_1) := (blk_cell BK210.out 1).trans rfl; have hcz106_2 : w103.cell? ⟨gb210, 2, none⟩ = some (.int .i64 a0_2) := (blk_cell BK210.out 2).trans rfl; have hfz106_0 := blk_frozen BK210.out 0; have hfz106_1 := blk_frozen BK210.out 1; have hfz106_2 := blk_frozen BK210.out 2) | ((with_reducible refine gate_callee (f := 45) rfl ?_); refine goesL_ (some 123) rfl rfl Try.func45 (by kernel_rfl) rfl #[.agg #[.int .i64 a0_0, .int .i64 a0_1, .int .i64 a0_2], .int .i64 a1, .agg #[.int .i64 t235, .int .i64 t236, .int .i64 t237]] rfl (by (try simp only [List.map_toArray, List.map_cons, List.map_nil]); first | done | rfl | (simp only [List.length_drop, List.length_take]; rfl)) ?_; (with_reducible refine (ambidexterref22_may.calls a0_0 a0_1 a0_2 a1 t235 t236 t237 false _ A59.out).mono ?_); rintro e w107 ⟨rfl, hb⟩; refine ⟨_, rfl, ?_⟩; have n0_ := Aside0.mk (Kd.R_below (by (with_reducible repeat (first | apply Kd.R_alloc | apply Kd.R_drewN | apply Kd.R_drew)); exact (Kd.R_mono (Kd.R_far (p := ⟨gb238, 2, none⟩) (Kd.R_far (p := ⟨gb238, 1, none⟩) (Kd.R_far (p := ⟨gb238, 0, none⟩) (Kd.R_types HO_6.out BK238.out (by decide)) (fun _ hk => hk.2) (.int .i64 t235)) (fun _ hk => hk.2) (.int .i64 t236)) (fun _ hk => hk.2) (.int .i64 t237)) (fun _ h_ => h_.1))) hb); have n1_ := Aside0.mk (Kd.R_below (by (with_reducible repeat (first | apply Kd.R_alloc | apply Kd.R_drewN | apply Kd.R_drew)); exact (Kd.R_mono (Kd.R_far (p := ⟨gb238, 2, none⟩) (Kd.R_far (p := ⟨gb238, 1, none⟩) (Kd.R_far (p := ⟨gb238, 0, none⟩) (Kd.R_types HO_7.out BK238.out (by decide)) (fun _ hk => hk.2) (.int .i64 t235)) (fun _ hk => hk.2) (.int .i64 t236)) (fun _ hk => hk.2) (.int .i64 t237)) (fun _ h_ => h_.1))) hb); have n2_ := Aside0.mk (blk_below (g := gb210) (o := .cells #[.int .i64 a0_0, .int .i64 a0_1, .int .i64 a0_2] 23 (0, 0)) (by (with_reducible repeat (first | refine blk_drewN ?_ _ | refine blk_drew ?_ | refine blk_alloc ?_ _)); refine blk_far ?_ NB210_238.out _; (with_reducible repeat (first | refine blk_drewN ?_ _ | refine blk_drew ?_ | refine blk_alloc ?_ _)); refine blk_far ?_ NB210_238.out _; (with_reducible repeat (first | refine blk_drewN ?_ _ | refine blk_drew ?_ | refine blk_alloc ?_ _)); refine blk_far ?_ NB210_238.out _; (with_reducible repeat (first | refine blk_drewN ?_ _ | refine blk_drew ?_ | refine blk_alloc ?_ _)); exact BK210.out) hb); have n3_ := Aside0.mk (blk_below (g := gb238) (o := .cells #[.int .i64 t235, .int .i64 t236, .int .i64 t237] 37 (0, 0)) (by (with_reducible repeat (first | refine blk_drewN ?_ _ | refine blk_drew ?_ | refine blk_alloc ?_ _)); refine blk_put (cs := #[.int .i64 t235, .int .i64 t236, .int .i64 0]) ?_ 2 _ rfl; (with_reducible repeat (first | refine blk_drewN ?_ _ | refine blk_drew ?_ | refine blk_alloc ?_ _)); refine blk_put (cs := #[.int .i64 t235, .int .i64 0, .int .i64 0]) ?_ 1 _ rfl; (with_reducible repeat (first | refine blk_drewN ?_ _ | refine blk_drew ?_ | refine blk_alloc ?_ _)); refine blk_put (cs := #[.int .i64 0, .int .i64 0, .int .i64 0]) ?_ 0 _ rfl; (with_reducible repeat (first | refine blk_drewN ?_ _ | refine blk_drew ?_ | refine blk_alloc ?_ _)); exact BK238.out) hb); have n4_ := Aside0.mk (below_step (by repeat (first | (with_reducible first | exact HB.out | apply below_alloc | apply pw_below_drewN | apply below_drew1 | refine below_set ?_ GE210.out | refine below_set ?_ GE238.out) | exact HB.out)) hb); clear HO_6; clear HO_7; clear BK210; clear BK238; clear HB; have HO_6 := n0_; have HO_7 := n1_; have BK210 := n2_; have BK238 := n3_; have HB := n4_; clear n0_ n1_ n2_ n3_ n4_; (try clear hb); (try clear hb2); (try clear hk); (try clear hi)))
                                        (try simp only [← hl6_3])
                                        go_roundg k3
                                        case measure => have := HJ2.out; have := HK2.out; have := HK3.out; omega
                                        case rel => exact ⟨(x6_3), (x7_3), (wrap64 (x13_3 + 1)), (by first | rfl | (simp; done) | (simp [*]; done)), H', ⟨by have := HJ2.out; have := HK2.out; have := HK3.out; omega⟩, ⟨by (try simp only [hl6_2]); (try simp only [hl6_3]); (with_reducible repeat (first | apply Kd.R_alloc | apply Kd.R_drewN | apply Kd.R_drew)); exact HO_6.out⟩, ⟨by (try simp only [hl6_2]); (try simp only [hl6_3]); (with_reducible repeat (first | apply Kd.R_alloc | apply Kd.R_drewN | apply Kd.R_drew)); exact HO_7.out⟩, ⟨by (try simp only [hl6_2]); (try simp only [hl6_3]); (with_reducible repeat (first | refine blk_drewN ?_ _ | refine blk_drew ?_ | refine blk_alloc ?_ _)); exact BK210.out⟩, ⟨by repeat (first | (with_reducible first | exact HB.out | apply below_alloc | apply pw_below_drewN | apply below_drew1 | refine below_set ?_ GE210.out | refine below_set ?_ GE238.out) | exact HB.out)⟩⟩
                                    · rw [if_neg c57] at H
                                      exact absurd H (by simp)
                                  · rw [if_neg c56] at H
                                    exact absurd H (by simp)
                                · rw [if_neg c55] at H
                                  have c55b0 : decide (x13_3 ≤ a0_2) = false := decide_eq_false c55
                                  clear c55
                                  have H' := Aside0.mk H
                                  clear H
                                  have hcz108_0 : wr.cell? ⟨gb210, 0, none⟩ = some (.int .i64 a0_0) := (blk_cell BK210.out 0).trans rfl
                                  have hcz108_1 : wr.cell? ⟨gb210, 1, none⟩ = some (.int .i64 a0_1) := (blk_cell BK210.out 1).trans rfl
                                  have hcz108_2 : wr.cell? ⟨gb210, 2, none⟩ = some (.int .i64 a0_2) := (blk_cell BK210.out 2).trans rfl
                                  have hfz108_0 := blk_frozen BK210.out 0
                                  have hfz108_1 := blk_frozen BK210.out 1
                                  have hfz108_2 := blk_frozen BK210.out 2
                                  go_wp2
                                  (try simp only [← hl6_2, ← hl6_3])
                                  go_roundg k3
                                  case measure => have := HJ2.out; have := HK2.out; have := HK3.out; omega
                                  case rel => exact ⟨(x6_3), (x7_3), (wrap64 (x8_2 + 1)), (by first | rfl | (simp; done) | (simp [*]; done)), H', ⟨by have := HJ2.out; have := HK2.out; have := HK3.out; omega⟩, ⟨by (try simp only [hl6_2]); (try simp only [hl6_3]); (with_reducible repeat (first | apply Kd.R_alloc | apply Kd.R_drewN | apply Kd.R_drew)); exact HO_6.out⟩, ⟨by (try simp only [hl6_2]); (try simp only [hl6_3]); (with_reducible repeat (first | apply Kd.R_alloc | apply Kd.R_drewN | apply Kd.R_drew)); exact HO_7.out⟩, ⟨by (try simp only [hl6_2]); (try simp only [hl6_3]); (with_reducible repeat (first | refine blk_drewN ?_ _ | refine blk_drew ?_ | refine blk_alloc ?_ _)); exact BK210.out⟩, ⟨by repeat (first | (with_reducible first | exact HB.out | apply below_alloc | apply pw_below_drewN | apply below_drew1 | refine below_set ?_ GE210.out) | exact HB.out)⟩⟩
                        · rw [if_neg c33] at H
                          exact absurd H (by simp)
                      · rw [if_neg c32] at H
                        have c32b0 : decide (x8_2 < (x7_2.length : Int)) = false := decide_eq_false c32
                        clear c32
                        simp only [Option.some.injEq, Prod.mk.injEq] at H
                        obtain ⟨rfl, rfl⟩ := H
                        obtain ⟨Ao109, co109, eo109⟩ := Kd.R_slice HO_7.out
                        subst eo109
                        go_wp2
                        go_ret2
                        exact ⟨_, by first | rfl | (simp [errW_none, errW_some] <;> rfl) | (simp only [← hji15]; first | rfl | (simp [errW_none, errW_some] <;> rfl)) | (simp [*, errW_none, errW_some] <;> rfl), by first | exact Kd.R_nil _ _ _ _ _ | exact Kd.N_nil _ _ _ _ _ | exact Kd.V_nil _ _ _ _ _ | exact Kd.Q_nil _ _ _ _ _ | exact Kd.S_nil _ _ _ _ _, by repeat (first | (with_reducible first | exact HB.out | apply below_alloc | apply pw_below_drewN | apply below_drew1 | refine below_set ?_ GE210.out) | exact HB.out)⟩
                · rw [if_neg c21] at H
                  exact absurd H (by simp)
              · rw [if_neg c20] at H
                exact absurd H (by simp)
            · rw [if_neg c18] at H
              exact absurd H (by simp)
          · rw [if_neg c17] at H
            exact absurd H (by simp)
        · rw [if_neg c16] at H
          exact absurd H (by simp)

/-! ### ambidexterlaw22_MintimeMatchesReference: function 3 -/
def ambidexterlaw22_MintimeMatchesReference.f (k : Nat) (a0_0 : Int) (a0_1 : Int) (a0_2 : Int) (a1 : Int) : Option (Bool) := (ambidexterlaw22_head.f k).bind fun t248 => ((mintime_Profile.f k a0_0 a0_1 a0_2 a1).bind fun bt249 => ((ambidexterref22_Find.f k a0_0 a0_1 a0_2 a1).bind fun bt253 => ((mintime_Duration.f k a0_0 a0_1 a0_2 a1).bind fun bt257 => (if t248 = true then ((ambidexterref22_Same.f k bt249.1 bt253.1).bind fun t259 => (if t259 = true then (if (bt249.2 == bt253.2) = true then (if bt257.1 = (bt253.1.length : Int) then (some (bt257.2 == bt253.2)) else (some false)) else (some false)) else (some false))) else (some false)))))
theorem ambidexterlaw22_MintimeMatchesReference.mono : ∀ a0 a1 a2 a3 k, LeO (ambidexterlaw22_MintimeMatchesReference.f k a0 a1 a2 a3) (ambidexterlaw22_MintimeMatchesReference.f (k + 1) a0 a1 a2 a3) := by
  intro a0 a1 a2 a3 k
  unfold ambidexterlaw22_MintimeMatchesReference.f
  repeat' first
      | (with_reducible exact ambidexterlaw22_head.mono _)
      | (with_reducible exact ambidexterref22_Find.mono _ _ _ _ _)
      | (with_reducible exact ambidexterref22_Same.mono _ _ _)
      | (with_reducible exact mintime_Duration.mono _ _ _ _ _)
      | (with_reducible exact mintime_Profile.mono _ _ _ _ _)
      | (with_reducible exact LeO.refl _)
      | (with_reducible exact LeO.none _)
      | (with_reducible refine LeO.ite ?_ ?_)
      | (with_reducible refine LeO.bind ?_ (fun _ => ?_))
      | exact ambidexterlaw22_head.mono _
      | exact ambidexterref22_Find.mono _ _ _ _ _
      | exact ambidexterref22_Same.mono _ _ _
      | exact mintime_Duration.mono _ _ _ _ _
      | exact mintime_Profile.mono _ _ _ _ _
      | exact LeO.none _
      | refine LeO.ite ?_ ?_
      | refine LeO.bind ?_ (fun _ => ?_)
set_option maxHeartbeats 8000000 in
set_option maxRecDepth 100000 in
theorem ambidexterlaw22_MintimeMatchesReference.calls0 (k : Nat) (a0_0 : Int) (a0_1 : Int) (a0_2 : Int) (a1 : Int) (r : Bool) (w : World) (h : ambidexterlaw22_MintimeMatchesReference.f k a0_0 a0_1 a0_2 a1 = some r) (hT : r = true) :
    Calls Try.prog 3 #[.agg #[.int .i64 a0_0, .int .i64 a0_1, .int .i64 a0_2], .int .i64 a1] w fun e w' => e = .returned (.bool r) ∧ Below w.heap.size w w' := by
  have hu23 := Try.underlying23
  have HB := Aside0.mk (Below.refl w.heap.size w)
  have H : ((ambidexterlaw22_head.f k).bind fun t248 => ((mintime_Profile.f k a0_0 a0_1 a0_2 a1).bind fun bt249 => ((ambidexterref22_Find.f k a0_0 a0_1 a0_2 a1).bind fun bt253 => ((mintime_Duration.f k a0_0 a0_1 a0_2 a1).bind fun bt257 => (if t248 = true then ((ambidexterref22_Same.f k bt249.1 bt253.1).bind fun t259 => (if t259 = true then (if (bt249.2 == bt253.2) = true then (if bt257.1 = (bt253.1.length : Int) then (some (bt257.2 == bt253.2)) else (some false)) else (some false)) else (some false))) else (some false)))))) = some r := h
  clear h
  have HT := Aside0.mk hT
  clear hT
  replace H := Option.bind_eq_some_iff.mp H
  obtain ⟨t248, A30, H⟩ := H
  obtain rfl := ambidexterlaw22_head.is_true k A30
  replace H : ((mintime_Profile.f k a0_0 a0_1 a0_2 a1).bind fun bt249 => ((ambidexterref22_Find.f k a0_0 a0_1 a0_2 a1).bind fun bt253 => ((mintime_Duration.f k a0_0 a0_1 a0_2 a1).bind fun bt257 => (if true = true then ((ambidexterref22_Same.f k bt249.1 bt253.1).bind fun t259 => (if t259 = true then (if (bt249.2 == bt253.2) = true then (if bt257.1 = (bt253.1.length : Int) then (some (bt257.2 == bt253.2)) else (some false)) else (some false)) else (some false))) else (some false))))) = some r := H
  have A3 := Aside0.mk A30
  clear A30
  replace H := Option.bind_eq_some_iff.mp H
  obtain ⟨⟨t249, t252⟩, A40, H⟩ := H
  replace H : ((ambidexterref22_Find.f k a0_0 a0_1 a0_2 a1).bind fun bt253 => ((mintime_Duration.f k a0_0 a0_1 a0_2 a1).bind fun bt257 => (if true = true then ((ambidexterref22_Same.f k t249 bt253.1).bind fun t259 => (if t259 = true then (if (t252 == bt253.2) = true then (if bt257.1 = (bt253.1.length : Int) then (some (bt257.2 == bt253.2)) else (some false)) else (some false)) else (some false))) else (some false)))) = some r := H
  have A4 := Aside0.mk A40
  clear A40
  replace H := Option.bind_eq_some_iff.mp H
  obtain ⟨⟨t253, t256⟩, A50, H⟩ := H
  replace H : ((mintime_Duration.f k a0_0 a0_1 a0_2 a1).bind fun bt257 => (if true = true then ((ambidexterref22_Same.f k t249 t253).bind fun t259 => (if t259 = true then (if (t252 == t256) = true then (if bt257.1 = (t253.length : Int) then (some (bt257.2 == t256)) else (some false)) else (some false)) else (some false))) else (some false))) = some r := H
  have A5 := Aside0.mk A50
  clear A50
  replace H := Option.bind_eq_some_iff.mp H
  obtain ⟨⟨t257, t258⟩, A60, H⟩ := H
  replace H : (if true = true then ((ambidexterref22_Same.f k t249 t253).bind fun t259 => (if t259 = true then (if (t252 == t256) = true then (if t257 = (t253.length : Int) then (some (t258 == t256)) else (some false)) else (some false)) else (some false))) else (some false)) = some r := H
  have A6 := Aside0.mk A60
  clear A60
  have H1 : ((ambidexterref22_Same.f k t249 t253).bind fun t259 => (if t259 = true then (if (t252 == t256) = true then (if t257 = (t253.length : Int) then (some (t258 == t256)) else (some false)) else (some false)) else (some false))) = some r := by first | (rw [if_pos rfl] at H; exact H) | (rw [if_pos True.intro] at H; exact H)
  clear H
  have H := H1
  clear H1
  replace H := Option.bind_eq_some_iff.mp H
  obtain ⟨t259, A70, H⟩ := H
  replace H : (if t259 = true then (if (t252 == t256) = true then (if t257 = (t253.length : Int) then (some (t258 == t256)) else (some false)) else (some false)) else (some false)) = some r := H
  have A7 := Aside0.mk A70
  clear A70
  by_cases c8 : t259 = true
  · subst c8
    have H1 : (if (t252 == t256) = true then (if t257 = (t253.length : Int) then (some (t258 == t256)) else (some false)) else (some false)) = some r := by rw [if_pos rfl] at H; exact H
    clear H
    have H := H1
    clear H1
    by_cases c9 : (t252 == t256) = true
    · rw [if_pos c9] at H
      have c9b0 : (t252 == t256) = true := c9
      (try (have c9b1 : decide (t252 = t256) = true := by simpa using c9))
      (try (have c9b2 : (t252 == t256) = true := by simpa using c9))
      clear c9
      by_cases c10 : t257 = (t253.length : Int)
      · rw [if_pos c10] at H
        have c10b0 : (t257 == (t253.length : Int)) = true := beq_iff_eq.mpr c10
        have c10b1 : (t257 != (t253.length : Int)) = false := bne_eq_false_iff_eq.mpr c10
        clear c10
        obtain rfl := Option.some.inj H
        go_enter Try.func3, Try.ntmps3
        go_wp2_with (first | ((with_reducible refine gate_dst (N := 2) rfl ?_); (try (refine gate_guard (by rfl) ?_; dsimp only)); refine box_event ?hg (N := 2) ?hd (cs := #[.int .i64 a0_0, .int .i64 a0_1, .int .i64 a0_2]) (t := 23) ?hr ?_; (case hd => rfl); (case hg => rfl); (case hr => first | (go_simp; done) | (go_simp; rfl)); intro gb247 hg w11 hbox hb; have n0_ := Aside0.mk (below_step (by repeat (first | (with_reducible first | exact HB.out | apply below_alloc | apply pw_below_drewN | apply below_drew1) | exact HB.out)) hb); have n1_ := Aside0.mk (hbox); have n2_ := Aside0.mk ((by rw [hg]; exact (below_size (by repeat (first | (with_reducible first | exact HB.out | apply below_alloc | apply pw_below_drewN | apply below_drew1) | exact HB.out))) : w.heap.size ≤ gb247)); have n3_ := Aside0.mk ((by rw [hg]; exact (below_size (by repeat (first | (with_reducible first | exact HB.out | apply below_alloc | apply pw_below_drewN | apply below_drew1) | exact HB.out))) : w.heap.size ≤ gb247)); clear HB; have HB := n0_; have BK247 := n1_; have GW247 := n2_; have GE247 := n3_; clear n0_ n1_ n2_ n3_; clear hb hbox hg) | ((with_reducible refine gate_callee (f := 15) rfl ?_); refine goesL_ (some 12) rfl rfl Try.func15 (by kernel_rfl) rfl #[] rfl (by (try simp only [List.map_toArray, List.map_cons, List.map_nil]); first | done | rfl | (simp only [List.length_drop, List.length_take]; rfl)) ?_; (with_reducible refine (ambidexterlaw22_head.calls k  true _ A3.out).mono ?_); rintro e w12 ⟨rfl, hb⟩; refine ⟨_, rfl, ?_⟩; have n0_ := Aside0.mk (blk_below (g := gb247) (o := .cells #[.int .i64 a0_0, .int .i64 a0_1, .int .i64 a0_2] 23 (0, 0)) (by (with_reducible repeat (first | refine blk_drewN ?_ _ | refine blk_drew ?_ | refine blk_alloc ?_ _)); exact BK247.out) hb); have n1_ := Aside0.mk (below_step (by repeat (first | (with_reducible first | exact HB.out | apply below_alloc | apply pw_below_drewN | apply below_drew1 | refine below_set ?_ GE247.out) | exact HB.out)) hb); clear BK247; clear HB; have BK247 := n0_; have HB := n1_; clear n0_ n1_; (try clear hb); (try clear hb2); (try clear hk); (try clear hi); have hcz13_0 : w12.cell? ⟨gb247, 0, none⟩ = some (.int .i64 a0_0) := (blk_cell BK247.out 0).trans rfl; have hcz13_1 : w12.cell? ⟨gb247, 1, none⟩ = some (.int .i64 a0_1) := (blk_cell BK247.out 1).trans rfl; have hcz13_2 : w12.cell? ⟨gb247, 2, none⟩ = some (.int .i64 a0_2) := (blk_cell BK247.out 2).trans rfl; have hfz13_0 := blk_frozen BK247.out 0; have hfz13_1 := blk_frozen BK247.out 1; have hfz13_2 := blk_frozen BK247.out 2) | ((with_reducible refine gate_callee (f := 16) rfl ?_); refine goesL_ (some 16) rfl rfl Try.func16 (by kernel_rfl) rfl #[.agg #[.int .i64 a0_0, .int .i64 a0_1, .int .i64 a0_2], .int .i64 a1] rfl (by (try simp only [List.map_toArray, List.map_cons, List.map_nil]); first | done | rfl | (simp only [List.length_drop, List.length_take]; rfl)) ?_; (with_reducible refine (mintime_Profile.calls k a0_0 a0_1 a0_2 a1 t249 t252 _ A4.out).mono ?_); rintro e w14 ⟨v250, rfl, ho0, hb⟩; refine ⟨_, rfl, ?_⟩; have n0_ := Aside0.mk (Kd.R_lower ho0 (below_size (by repeat (first | (with_reducible first | exact HB.out | apply below_alloc | apply pw_below_drewN | apply below_drew1 | refine below_set ?_ GE247.out) | exact HB.out)))); have n1_ := Aside0.mk (blk_below (g := gb247) (o := .cells #[.int .i64 a0_0, .int .i64 a0_1, .int .i64 a0_2] 23 (0, 0)) (by (with_reducible repeat (first | refine blk_drewN ?_ _ | refine blk_drew ?_ | refine blk_alloc ?_ _)); exact BK247.out) hb); have n2_ := Aside0.mk (below_step (by repeat (first | (with_reducible first | exact HB.out | apply below_alloc | apply pw_below_drewN | apply below_drew1 | refine below_set ?_ GE247.out) | exact HB.out)) hb); clear BK247; clear HB; have HO251 := n0_; have BK247 := n1_; have HB := n2_; clear n0_ n1_ n2_; (try clear hb); (try clear hb2); (try clear hk); (try clear hi); (try clear ho0); have hcz15_0 : w14.cell? ⟨gb247, 0, none⟩ = some (.int .i64 a0_0) := (blk_cell BK247.out 0).trans rfl; have hcz15_1 : w14.cell? ⟨gb247, 1, none⟩ = some (.int .i64 a0_1) := (blk_cell BK247.out 1).trans rfl; have hcz15_2 : w14.cell? ⟨gb247, 2, none⟩ = some (.int .i64 a0_2) := (blk_cell BK247.out 2).trans rfl; have hfz15_0 := blk_frozen BK247.out 0; have hfz15_1 := blk_frozen BK247.out 1; have hfz15_2 := blk_frozen BK247.out 2) | ((with_reducible refine gate_callee (f := 17) rfl ?_); refine goesL_ (some 22) rfl rfl Try.func17 (by kernel_rfl) rfl #[.agg #[.int .i64 a0_0, .int .i64 a0_1, .int .i64 a0_2], .int .i64 a1] rfl (by (try simp only [List.map_toArray, List.map_cons, List.map_nil]); first | done | rfl | (simp only [List.length_drop, List.length_take]; rfl)) ?_; (with_reducible refine (ambidexterref22_Find.calls k a0_0 a0_1 a0_2 a1 t253 t256 _ A5.out).mono ?_); rintro e w16 ⟨v254, rfl, ho0, hb⟩; refine ⟨_, rfl, ?_⟩; have n0_ := Aside0.mk (Kd.R_elder' (by (with_reducible repeat (first | apply Kd.R_alloc | apply Kd.R_drewN | apply Kd.R_drew)); exact HO251.out) (Kd.R_base ho0) hb); have n1_ := Aside0.mk (Kd.R_lower (Kd.R_new' ho0 (Kd.R_lt (by (with_reducible repeat (first | apply Kd.R_alloc | apply Kd.R_drewN | apply Kd.R_drew)); exact HO251.out))) (below_size (by repeat (first | (with_reducible first | exact HB.out | apply below_alloc | apply pw_below_drewN | apply below_drew1 | refine below_set ?_ GE247.out) | exact HB.out)))); have n2_ := Aside0.mk (blk_below (g := gb247) (o := .cells #[.int .i64 a0_0, .int .i64 a0_1, .int .i64 a0_2] 23 (0, 0)) (by (with_reducible repeat (first | refine blk_drewN ?_ _ | refine blk_drew ?_ | refine blk_alloc ?_ _)); exact BK247.out) hb); have n3_ := Aside0.mk (below_step (by repeat (first | (with_reducible first | exact HB.out | apply below_alloc | apply pw_below_drewN | apply below_drew1 | refine below_set ?_ GE247.out) | exact HB.out)) hb); clear HO251; clear BK247; clear HB; have HO251 := n0_; have HO255 := n1_; have BK247 := n2_; have HB := n3_; clear n0_ n1_ n2_ n3_; (try clear hb); (try clear hb2); (try clear hk); (try clear hi); (try clear ho0); have hcz17_0 : w16.cell? ⟨gb247, 0, none⟩ = some (.int .i64 a0_0) := (blk_cell BK247.out 0).trans rfl; have hcz17_1 : w16.cell? ⟨gb247, 1, none⟩ = some (.int .i64 a0_1) := (blk_cell BK247.out 1).trans rfl; have hcz17_2 : w16.cell? ⟨gb247, 2, none⟩ = some (.int .i64 a0_2) := (blk_cell BK247.out 2).trans rfl; have hfz17_0 := blk_frozen BK247.out 0; have hfz17_1 := blk_frozen BK247.out 1; have hfz17_2 := blk_frozen BK247.out 2) | ((with_reducible refine gate_callee (f := 18) rfl ?_); refine goesL_ (some 28) rfl rfl Try.func18 (by kernel_rfl) rfl #[.agg #[.int .i64 a0_0, .int .i64 a0_1, .int .i64 a0_2], .int .i64 a1] rfl (by (try simp only [List.map_toArray, List.map_cons, List.map_nil]); first | done | rfl | (simp only [List.length_drop, List.length_take]; rfl)) ?_; (with_reducible refine (mintime_Duration.calls k a0_0 a0_1 a0_2 a1 t257 t258 _ A6.out).mono ?_); rintro e w18 ⟨rfl, hb⟩; refine ⟨_, rfl, ?_⟩; have n0_ := Aside0.mk (Kd.R_below (by (with_reducible repeat (first | apply Kd.R_alloc | apply Kd.R_drewN | apply Kd.R_drew)); exact HO251.out) hb); have n1_ := Aside0.mk (Kd.R_below (by (with_reducible repeat (first | apply Kd.R_alloc | apply Kd.R_drewN | apply Kd.R_drew)); exact HO255.out) hb); have n2_ := Aside0.mk (blk_below (g := gb247) (o := .cells #[.int .i64 a0_0, .int .i64 a0_1, .int .i64 a0_2] 23 (0, 0)) (by (with_reducible repeat (first | refine blk_drewN ?_ _ | refine blk_drew ?_ | refine blk_alloc ?_ _)); exact BK247.out) hb); have n3_ := Aside0.mk (below_step (by repeat (first | (with_reducible first | exact HB.out | apply below_alloc | apply pw_below_drewN | apply below_drew1 | refine below_set ?_ GE247.out) | exact HB.out)) hb); clear HO251; clear HO255; clear BK247; clear HB; have HO251 := n0_; have HO255 := n1_; have BK247 := n2_; have HB := n3_; clear n0_ n1_ n2_ n3_; (try clear hb); (try clear hb2); (try clear hk); (try clear hi); obtain ⟨Ao19, co19, eo19⟩ := Kd.R_slice HO251.out; subst eo19; obtain ⟨Ao20, co20, eo20⟩ := Kd.R_slice HO255.out; subst eo20) | (go_at_call 19; (with_reducible refine (ambidexterref22_Same.calls k _ _ t249 _ _ t253 true _ ?side1 ?side2 ?side3 ?side4 A7.out).mono ?_); (case side1 => repeat (first | exact (Kd.R_reads' HO251.out).2.2 | (with_reducible refine Kd.C_alloc ?_ _) | (with_reducible refine Kd.C_drewN ?_ _) | (with_reducible refine Kd.C_drew ?_))); (case side2 => exact (Kd.R_reads' HO251.out).2.1); (case side3 => repeat (first | exact (Kd.R_reads' HO255.out).2.2 | (with_reducible refine Kd.C_alloc ?_ _) | (with_reducible refine Kd.C_drewN ?_ _) | (with_reducible refine Kd.C_drew ?_))); (case side4 => exact (Kd.R_reads' HO255.out).2.1); rintro e w' ⟨rfl, ⟨nd, rfl⟩⟩))
        go_ret
        exact ⟨by first | rfl | (simp [errW_none, errW_some] <;> rfl) | (simp [*, errW_none, errW_some] <;> rfl), by repeat (first | (with_reducible first | exact HB.out | apply below_alloc | apply pw_below_drewN | apply below_drew1 | refine below_set ?_ GE247.out) | exact HB.out)⟩
      · rw [if_neg c10] at H
        have c10b0 : (t257 == (t253.length : Int)) = false := beq_eq_false_iff_ne.mpr c10
        have c10b1 : (t257 != (t253.length : Int)) = true := bne_iff_ne.mpr c10
        exact absurd HT.out (by rw [← Option.some.inj H]; decide)
    · rw [if_neg c9] at H
      have c9b0 : (t252 == t256) = false := by simpa using c9
      (try (have c9b1 : decide (t252 = t256) = false := by simpa using c9))
      (try (have c9b2 : (t252 == t256) = false := by simpa using c9))
      (try (have c9b3 : ¬ (t252 = t256) := by simpa using c9))
      clear c9
      exact absurd HT.out (by rw [← Option.some.inj H]; decide)
  · replace c8 := Bool.eq_false_iff.mpr c8
    subst c8
    have H1 : (some false) = some r := by rw [if_neg (show ¬ (false = true) by decide)] at H; exact H
    clear H
    have H := H1
    clear H1
    exact absurd HT.out (by rw [← Option.some.inj H]; decide)

end Go.Proofs.Ytjcefdockfbnaaa.P
