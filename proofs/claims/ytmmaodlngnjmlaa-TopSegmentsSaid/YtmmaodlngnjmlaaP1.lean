-- Written by this session's own program, for this seat. Lean checks it.
import Derived.Test.YtmmaodlngnjmlaaP0
import Derived.WalkMore
import Derived.Test.YtmmaodlngnjmlaaXShorts
namespace Go.Proofs.Ytmmaodlngnjmlaa.P
open Go.RowKit Go.Proofs.YtmmaodlngnjmlaaW.PrintWords Go.Proofs.YtmmaodlngnjmlaaW.PrintLast Go.Proofs.YtmmaodlngnjmlaaW.PrintMore
attribute [local go_sem] max2_int min2_int max_two min_two max_three min_three max_four min_four   -- for this text's walks alone
set_option linter.unusedVariables false
set_option linter.unusedSimpArgs false

theorem eqA33 (d : Nat) (w : World) (x0 y0 : Int) (x1 y1 : Int) (x2 y2 : Int) :
  (Op.equalIn (d + 2) 33 (.agg #[.int .i64 x0, .int .i64 x1, .int .i64 x2]) (.agg #[.int .i64 y0, .int .i64 y1, .int .i64 y2])).run Try.prog w = .ok (x0 == y0 && (x1 == y1 && (x2 == y2))) w := by
 refine eqA_of Try.underlying33 (by kernel_rfl) ?_
 refine eqf_cons (by rfl) (by go_simp; rfl) (by go_simp; rfl) (by go_simp) ?_
 refine eqf_cons (by rfl) (by go_simp; rfl) (by go_simp; rfl) (by go_simp) ?_
 exact eqf_last (by rfl) (by go_simp; rfl) (by go_simp; rfl) (by go_simp)

theorem eqA63 (d : Nat) (w : World) (x0 y0 : Int) (x1 y1 : Int) (x2 y2 : Int) :
  (Op.equalIn (d + 2) 63 (.agg #[.int .i64 x0, .int .i64 x1, .int .i64 x2]) (.agg #[.int .i64 y0, .int .i64 y1, .int .i64 y2])).run Try.prog w = .ok (x0 == y0 && (x1 == y1 && (x2 == y2))) w := by
 refine eqA_of Try.underlying63 (by kernel_rfl) ?_
 refine eqf_cons (by rfl) (by go_simp; rfl) (by go_simp; rfl) (by go_simp) ?_
 refine eqf_cons (by rfl) (by go_simp; rfl) (by go_simp; rfl) (by go_simp) ?_
 exact eqf_last (by rfl) (by go_simp; rfl) (by go_simp; rfl) (by go_simp)

theorem eqA65 (d : Nat) (w : World) (x0 y0 : Int) (x1 y1 : Int) (x2 y2 : Int) (x3 y3 : Int) :
  (Op.equalIn (d + 3) 65 (.agg #[.int .i64 x0, .int .i64 x1, .int .i64 x2, .int .i64 x3]) (.agg #[.int .i64 y0, .int .i64 y1, .int .i64 y2, .int .i64 y3])).run Try.prog w = .ok ((x0 == y0 && (x1 == y1 && (x2 == y2))) && (x3 == y3)) w := by
 refine eqA_of Try.underlying65 (by kernel_rfl) ?_
 refine eqf_cons (by rfl) (by go_simp) (by go_simp) (eqA63 (d + 0) w _ _ _ _ _ _) ?_
 exact eqf_last (by rfl) (by go_simp; rfl) (by go_simp; rfl) (by go_simp)

/-! ### mintime_space_of: function 50 -/
def mintime_space_of.f (a0_0 : Int) (a0_1 : Int) (a0_2 : Int) (a0_3 : Int) (a1_0 : Int) (a1_1 : Int) (a1_2 : Int) : Option (Int × Bool) := if a1_0 < 0 then (some (0, false)) else (if a1_0 > a0_3 then (some (0, false)) else (if a1_1 < (wrap64 (-a0_0)) then (some (0, false)) else (if a1_1 > a0_0 then (some (0, false)) else (if a1_2 < (wrap64 (-a0_1)) then (some (0, false)) else (if a1_2 > a0_1 then (some (0, false)) else (some (wrap64 ((wrap64 ((wrap64 ((wrap64 ((wrap64 ((wrap64 (a1_0 * (wrap64 ((wrap64 (2 * a0_0)) + 1)))) + a1_1)) + a0_0)) * (wrap64 ((wrap64 (2 * a0_1)) + 1)))) + a1_2)) + a0_1), true)))))))
set_option maxHeartbeats 8000000 in
set_option maxRecDepth 100000 in
theorem mintime_space_of.calls (a0_0 : Int) (a0_1 : Int) (a0_2 : Int) (a0_3 : Int) (a1_0 : Int) (a1_1 : Int) (a1_2 : Int) (r1 : Int) (r2 : Bool) (w : World) (h : mintime_space_of.f a0_0 a0_1 a0_2 a0_3 a1_0 a1_1 a1_2 = some (r1, r2)) :
  Calls Try.prog 50 #[.agg #[.int .i64 a0_0, .int .i64 a0_1, .int .i64 a0_2, .int .i64 a0_3], .agg #[.int .i64 a1_0, .int .i64 a1_1, .int .i64 a1_2]] w fun e w' => e = .returned (.tuple #[.int .i64 r1, .bool r2]) ∧ Below w.heap.size w w' := by
 have hu98 := Try.underlying98
 have hu33 := Try.underlying33
 have HB := Aside0.mk (Below.refl w.heap.size w)
 have H : (if a1_0 < 0 then (some (0, false)) else (if a1_0 > a0_3 then (some (0, false)) else (if a1_1 < (wrap64 (-a0_0)) then (some (0, false)) else (if a1_1 > a0_0 then (some (0, false)) else (if a1_2 < (wrap64 (-a0_1)) then (some (0, false)) else (if a1_2 > a0_1 then (some (0, false)) else (some (wrap64 ((wrap64 ((wrap64 ((wrap64 ((wrap64 ((wrap64 (a1_0 * (wrap64 ((wrap64 (2 * a0_0)) + 1)))) + a1_1)) + a0_0)) * (wrap64 ((wrap64 (2 * a0_1)) + 1)))) + a1_2)) + a0_1), true)))))))) = some (r1, r2) := h
 clear h
 by_cases c3 : a1_0 < 0
 ·
  rw [if_pos c3] at H
  have c3b0 : decide (a1_0 < 0) = true := decide_eq_true c3
  clear c3
  simp only [Option.some.injEq, Prod.mk.injEq] at H
  obtain ⟨rfl, rfl⟩ := H
  go_enter Try.func50, Try.ntmps50
  go_wp2_with (first | ((with_reducible refine gate_dst (N := 2) rfl ?_); refine box_event ?hg (N := 2) ?hd (cs := #[.int .i64 a0_0, .int .i64 a0_1, .int .i64 a0_2, .int .i64 a0_3]) (t := 98) ?hr ?_; (case hd => rfl); (case hg => rfl); (case hr => first | (go_simp; done) | (go_simp; rfl)); intro gb101 hg w4 hbox hb; have n0_ := Aside0.mk (below_step hb_ hb); have n1_ := Aside0.mk (hbox); have n2_ := Aside0.mk ((by rw [hg]; exact (below_size hb_) : w.heap.size ≤ gb101)); have n3_ := Aside0.mk ((by rw [hg]; exact (below_size hb_) : w.heap.size ≤ gb101)); clear HB; have HB := n0_; have BK101 := n1_; have GW101 := n2_; have GE101 := n3_; clear n0_ n1_ n2_ n3_; clear hb hbox hg) | ((with_reducible refine gate_dst (N := 3) rfl ?_); refine box_event ?hg (N := 3) ?hd (cs := #[.int .i64 a1_0, .int .i64 a1_1, .int .i64 a1_2]) (t := 33) ?hr ?_; (case hd => rfl); (case hg => rfl); (case hr => first | (go_simp; done) | (go_simp; rfl)); intro gb102 hg w5 hbox hb; have n0_ := Aside0.mk (blk_below (g := gb101) (o := .cells #[.int .i64 a0_0, .int .i64 a0_1, .int .i64 a0_2, .int .i64 a0_3] 98 (0, 0)) (bk_ BK101.out) hb); have n1_ := Aside0.mk (below_step hb_ hb); have n2_ := Aside0.mk (hbox); have n3_ := Aside0.mk ((by rw [hg]; exact (below_size hb_) : w.heap.size ≤ gb102)); have n4_ := Aside0.mk ((by rw [hg]; exact (below_size hb_) : w.heap.size ≤ gb102)); have n5_ := Aside0.mk ((by rw [hg]; exact Nat.ne_of_lt (blk_lt (g := gb101) (o := .cells #[.int .i64 a0_0, .int .i64 a0_1, .int .i64 a0_2, .int .i64 a0_3] 98 (0, 0)) (bk_ BK101.out)) : gb101 ≠ gb102)); have n6_ := Aside0.mk ((by rw [hg]; exact Nat.ne_of_gt (blk_lt (g := gb101) (o := .cells #[.int .i64 a0_0, .int .i64 a0_1, .int .i64 a0_2, .int .i64 a0_3] 98 (0, 0)) (bk_ BK101.out)) : gb102 ≠ gb101)); clear BK101; clear HB; have BK101 := n0_; have HB := n1_; have BK102 := n2_; have GW102 := n3_; have GE102 := n4_; have NB101_102 := n5_; have NB102_101 := n6_; clear n0_ n1_ n2_ n3_ n4_ n5_ n6_; clear hb hbox hg; have hnb6 := NB102_101.out; have hnc6 := NB101_102.out; have hcz7_0 : w5.cell? ⟨gb102, 0, none⟩ = some (.int .i64 a1_0) := (blk_cell BK102.out 0).trans rfl; have hcz7_1 : w5.cell? ⟨gb102, 1, none⟩ = some (.int .i64 a1_1) := (blk_cell BK102.out 1).trans rfl; have hcz7_2 : w5.cell? ⟨gb102, 2, none⟩ = some (.int .i64 a1_2) := (blk_cell BK102.out 2).trans rfl; have hfz7_0 := blk_frozen BK102.out 0; have hfz7_1 := blk_frozen BK102.out 1; have hfz7_2 := blk_frozen BK102.out 2))
  go_ret2
  exact ⟨by first | rfl | (simp [errW_none, errW_some] <;> rfl) | (simp [*, errW_none, errW_some] <;> rfl), by repeat (first | (with_reducible first | exact HB.out | apply below_alloc | apply pw_below_drewN | apply below_drew1 | refine below_set ?_ GE101.out | refine below_set ?_ GE102.out) | exact HB.out)⟩
 ·
  rw [if_neg c3] at H
  have c3b0 : decide (a1_0 < 0) = false := decide_eq_false c3
  clear c3
  by_cases c8 : a1_0 > a0_3
  ·
   rw [if_pos c8] at H
   have c8b0 : decide (a0_3 < a1_0) = true := decide_eq_true c8
   clear c8
   simp only [Option.some.injEq, Prod.mk.injEq] at H
   obtain ⟨rfl, rfl⟩ := H
   go_enter Try.func50, Try.ntmps50
   go_wp2_with (first | ((with_reducible refine gate_dst (N := 2) rfl ?_); refine box_event ?hg (N := 2) ?hd (cs := #[.int .i64 a0_0, .int .i64 a0_1, .int .i64 a0_2, .int .i64 a0_3]) (t := 98) ?hr ?_; (case hd => rfl); (case hg => rfl); (case hr => first | (go_simp; done) | (go_simp; rfl)); intro gb101 hg w9 hbox hb; have n0_ := Aside0.mk (below_step hb_ hb); have n1_ := Aside0.mk (hbox); have n2_ := Aside0.mk ((by rw [hg]; exact (below_size hb_) : w.heap.size ≤ gb101)); have n3_ := Aside0.mk ((by rw [hg]; exact (below_size hb_) : w.heap.size ≤ gb101)); clear HB; have HB := n0_; have BK101 := n1_; have GW101 := n2_; have GE101 := n3_; clear n0_ n1_ n2_ n3_; clear hb hbox hg) | ((with_reducible refine gate_dst (N := 3) rfl ?_); refine box_event ?hg (N := 3) ?hd (cs := #[.int .i64 a1_0, .int .i64 a1_1, .int .i64 a1_2]) (t := 33) ?hr ?_; (case hd => rfl); (case hg => rfl); (case hr => first | (go_simp; done) | (go_simp; rfl)); intro gb102 hg w10 hbox hb; have n0_ := Aside0.mk (blk_below (g := gb101) (o := .cells #[.int .i64 a0_0, .int .i64 a0_1, .int .i64 a0_2, .int .i64 a0_3] 98 (0, 0)) (bk_ BK101.out) hb); have n1_ := Aside0.mk (below_step hb_ hb); have n2_ := Aside0.mk (hbox); have n3_ := Aside0.mk ((by rw [hg]; exact (below_size hb_) : w.heap.size ≤ gb102)); have n4_ := Aside0.mk ((by rw [hg]; exact (below_size hb_) : w.heap.size ≤ gb102)); have n5_ := Aside0.mk ((by rw [hg]; exact Nat.ne_of_lt (blk_lt (g := gb101) (o := .cells #[.int .i64 a0_0, .int .i64 a0_1, .int .i64 a0_2, .int .i64 a0_3] 98 (0, 0)) (bk_ BK101.out)) : gb101 ≠ gb102)); have n6_ := Aside0.mk ((by rw [hg]; exact Nat.ne_of_gt (blk_lt (g := gb101) (o := .cells #[.int .i64 a0_0, .int .i64 a0_1, .int .i64 a0_2, .int .i64 a0_3] 98 (0, 0)) (bk_ BK101.out)) : gb102 ≠ gb101)); clear BK101; clear HB; have BK101 := n0_; have HB := n1_; have BK102 := n2_; have GW102 := n3_; have GE102 := n4_; have NB101_102 := n5_; have NB102_101 := n6_; clear n0_ n1_ n2_ n3_ n4_ n5_ n6_; clear hb hbox hg; have hnb11 := NB102_101.out; have hnc11 := NB101_102.out; have hcz12_0 : w10.cell? ⟨gb102, 0, none⟩ = some (.int .i64 a1_0) := (blk_cell BK102.out 0).trans rfl; have hcz12_1 : w10.cell? ⟨gb102, 1, none⟩ = some (.int .i64 a1_1) := (blk_cell BK102.out 1).trans rfl; have hcz12_2 : w10.cell? ⟨gb102, 2, none⟩ = some (.int .i64 a1_2) := (blk_cell BK102.out 2).trans rfl; have hfz12_0 := blk_frozen BK102.out 0; have hfz12_1 := blk_frozen BK102.out 1; have hfz12_2 := blk_frozen BK102.out 2; have hcz13_0 : w10.cell? ⟨gb101, 0, none⟩ = some (.int .i64 a0_0) := (blk_cell BK101.out 0).trans rfl; have hcz13_1 : w10.cell? ⟨gb101, 1, none⟩ = some (.int .i64 a0_1) := (blk_cell BK101.out 1).trans rfl; have hcz13_2 : w10.cell? ⟨gb101, 2, none⟩ = some (.int .i64 a0_2) := (blk_cell BK101.out 2).trans rfl; have hcz13_3 : w10.cell? ⟨gb101, 3, none⟩ = some (.int .i64 a0_3) := (blk_cell BK101.out 3).trans rfl; have hfz13_0 := blk_frozen BK101.out 0; have hfz13_1 := blk_frozen BK101.out 1; have hfz13_2 := blk_frozen BK101.out 2; have hfz13_3 := blk_frozen BK101.out 3))
   go_ret2
   exact ⟨by first | rfl | (simp [errW_none, errW_some] <;> rfl) | (simp [*, errW_none, errW_some] <;> rfl), by repeat (first | (with_reducible first | exact HB.out | apply below_alloc | apply pw_below_drewN | apply below_drew1 | refine below_set ?_ GE101.out | refine below_set ?_ GE102.out) | exact HB.out)⟩
  ·
   rw [if_neg c8] at H
   have c8b0 : decide (a0_3 < a1_0) = false := decide_eq_false c8
   clear c8
   by_cases c14 : a1_1 < (wrap64 (-a0_0))
   ·
    rw [if_pos c14] at H
    have c14b0 : decide (a1_1 < (wrap64 (-a0_0))) = true := decide_eq_true c14
    clear c14
    simp only [Option.some.injEq, Prod.mk.injEq] at H
    obtain ⟨rfl, rfl⟩ := H
    go_enter Try.func50, Try.ntmps50
    go_wp2_with (first | ((with_reducible refine gate_dst (N := 2) rfl ?_); refine box_event ?hg (N := 2) ?hd (cs := #[.int .i64 a0_0, .int .i64 a0_1, .int .i64 a0_2, .int .i64 a0_3]) (t := 98) ?hr ?_; (case hd => rfl); (case hg => rfl); (case hr => first | (go_simp; done) | (go_simp; rfl)); intro gb101 hg w15 hbox hb; have n0_ := Aside0.mk (below_step hb_ hb); have n1_ := Aside0.mk (hbox); have n2_ := Aside0.mk ((by rw [hg]; exact (below_size hb_) : w.heap.size ≤ gb101)); have n3_ := Aside0.mk ((by rw [hg]; exact (below_size hb_) : w.heap.size ≤ gb101)); clear HB; have HB := n0_; have BK101 := n1_; have GW101 := n2_; have GE101 := n3_; clear n0_ n1_ n2_ n3_; clear hb hbox hg) | ((with_reducible refine gate_dst (N := 3) rfl ?_); refine box_event ?hg (N := 3) ?hd (cs := #[.int .i64 a1_0, .int .i64 a1_1, .int .i64 a1_2]) (t := 33) ?hr ?_; (case hd => rfl); (case hg => rfl); (case hr => first | (go_simp; done) | (go_simp; rfl)); intro gb102 hg w16 hbox hb; have n0_ := Aside0.mk (blk_below (g := gb101) (o := .cells #[.int .i64 a0_0, .int .i64 a0_1, .int .i64 a0_2, .int .i64 a0_3] 98 (0, 0)) (bk_ BK101.out) hb); have n1_ := Aside0.mk (below_step hb_ hb); have n2_ := Aside0.mk (hbox); have n3_ := Aside0.mk ((by rw [hg]; exact (below_size hb_) : w.heap.size ≤ gb102)); have n4_ := Aside0.mk ((by rw [hg]; exact (below_size hb_) : w.heap.size ≤ gb102)); have n5_ := Aside0.mk ((by rw [hg]; exact Nat.ne_of_lt (blk_lt (g := gb101) (o := .cells #[.int .i64 a0_0, .int .i64 a0_1, .int .i64 a0_2, .int .i64 a0_3] 98 (0, 0)) (bk_ BK101.out)) : gb101 ≠ gb102)); have n6_ := Aside0.mk ((by rw [hg]; exact Nat.ne_of_gt (blk_lt (g := gb101) (o := .cells #[.int .i64 a0_0, .int .i64 a0_1, .int .i64 a0_2, .int .i64 a0_3] 98 (0, 0)) (bk_ BK101.out)) : gb102 ≠ gb101)); clear BK101; clear HB; have BK101 := n0_; have HB := n1_; have BK102 := n2_; have GW102 := n3_; have GE102 := n4_; have NB101_102 := n5_; have NB102_101 := n6_; clear n0_ n1_ n2_ n3_ n4_ n5_ n6_; clear hb hbox hg; have hnb17 := NB102_101.out; have hnc17 := NB101_102.out; have hcz18_0 : w16.cell? ⟨gb102, 0, none⟩ = some (.int .i64 a1_0) := (blk_cell BK102.out 0).trans rfl; have hcz18_1 : w16.cell? ⟨gb102, 1, none⟩ = some (.int .i64 a1_1) := (blk_cell BK102.out 1).trans rfl; have hcz18_2 : w16.cell? ⟨gb102, 2, none⟩ = some (.int .i64 a1_2) := (blk_cell BK102.out 2).trans rfl; have hfz18_0 := blk_frozen BK102.out 0; have hfz18_1 := blk_frozen BK102.out 1; have hfz18_2 := blk_frozen BK102.out 2; have hcz19_0 : w16.cell? ⟨gb101, 0, none⟩ = some (.int .i64 a0_0) := (blk_cell BK101.out 0).trans rfl; have hcz19_1 : w16.cell? ⟨gb101, 1, none⟩ = some (.int .i64 a0_1) := (blk_cell BK101.out 1).trans rfl; have hcz19_2 : w16.cell? ⟨gb101, 2, none⟩ = some (.int .i64 a0_2) := (blk_cell BK101.out 2).trans rfl; have hcz19_3 : w16.cell? ⟨gb101, 3, none⟩ = some (.int .i64 a0_3) := (blk_cell BK101.out 3).trans rfl; have hfz19_0 := blk_frozen BK101.out 0; have hfz19_1 := blk_frozen BK101.out 1; have hfz19_2 := blk_frozen BK101.out 2; have hfz19_3 := blk_frozen BK101.out 3))
    go_ret2
    exact ⟨by first | rfl | (simp [errW_none, errW_some] <;> rfl) | (simp [*, errW_none, errW_some] <;> rfl), by repeat (first | (with_reducible first | exact HB.out | apply below_alloc | apply pw_below_drewN | apply below_drew1 | refine below_set ?_ GE101.out | refine below_set ?_ GE102.out) | exact HB.out)⟩
   ·
    rw [if_neg c14] at H
    have c14b0 : decide (a1_1 < (wrap64 (-a0_0))) = false := decide_eq_false c14
    clear c14
    by_cases c20 : a1_1 > a0_0
    ·
     rw [if_pos c20] at H
     have c20b0 : decide (a0_0 < a1_1) = true := decide_eq_true c20
     clear c20
     simp only [Option.some.injEq, Prod.mk.injEq] at H
     obtain ⟨rfl, rfl⟩ := H
     go_enter Try.func50, Try.ntmps50
     go_wp2_with (first | ((with_reducible refine gate_dst (N := 2) rfl ?_); refine box_event ?hg (N := 2) ?hd (cs := #[.int .i64 a0_0, .int .i64 a0_1, .int .i64 a0_2, .int .i64 a0_3]) (t := 98) ?hr ?_; (case hd => rfl); (case hg => rfl); (case hr => first | (go_simp; done) | (go_simp; rfl)); intro gb101 hg w21 hbox hb; have n0_ := Aside0.mk (below_step hb_ hb); have n1_ := Aside0.mk (hbox); have n2_ := Aside0.mk ((by rw [hg]; exact (below_size hb_) : w.heap.size ≤ gb101)); have n3_ := Aside0.mk ((by rw [hg]; exact (below_size hb_) : w.heap.size ≤ gb101)); clear HB; have HB := n0_; have BK101 := n1_; have GW101 := n2_; have GE101 := n3_; clear n0_ n1_ n2_ n3_; clear hb hbox hg) | ((with_reducible refine gate_dst (N := 3) rfl ?_); refine box_event ?hg (N := 3) ?hd (cs := #[.int .i64 a1_0, .int .i64 a1_1, .int .i64 a1_2]) (t := 33) ?hr ?_; (case hd => rfl); (case hg => rfl); (case hr => first | (go_simp; done) | (go_simp; rfl)); intro gb102 hg w22 hbox hb; have n0_ := Aside0.mk (blk_below (g := gb101) (o := .cells #[.int .i64 a0_0, .int .i64 a0_1, .int .i64 a0_2, .int .i64 a0_3] 98 (0, 0)) (bk_ BK101.out) hb); have n1_ := Aside0.mk (below_step hb_ hb); have n2_ := Aside0.mk (hbox); have n3_ := Aside0.mk ((by rw [hg]; exact (below_size hb_) : w.heap.size ≤ gb102)); have n4_ := Aside0.mk ((by rw [hg]; exact (below_size hb_) : w.heap.size ≤ gb102)); have n5_ := Aside0.mk ((by rw [hg]; exact Nat.ne_of_lt (blk_lt (g := gb101) (o := .cells #[.int .i64 a0_0, .int .i64 a0_1, .int .i64 a0_2, .int .i64 a0_3] 98 (0, 0)) (bk_ BK101.out)) : gb101 ≠ gb102)); have n6_ := Aside0.mk ((by rw [hg]; exact Nat.ne_of_gt (blk_lt (g := gb101) (o := .cells #[.int .i64 a0_0, .int .i64 a0_1, .int .i64 a0_2, .int .i64 a0_3] 98 (0, 0)) (bk_ BK101.out)) : gb102 ≠ gb101)); clear BK101; clear HB; have BK101 := n0_; have HB := n1_; have BK102 := n2_; have GW102 := n3_; have GE102 := n4_; have NB101_102 := n5_; have NB102_101 := n6_; clear n0_ n1_ n2_ n3_ n4_ n5_ n6_; clear hb hbox hg; have hnb23 := NB102_101.out; have hnc23 := NB101_102.out; have hcz24_0 : w22.cell? ⟨gb102, 0, none⟩ = some (.int .i64 a1_0) := (blk_cell BK102.out 0).trans rfl; have hcz24_1 : w22.cell? ⟨gb102, 1, none⟩ = some (.int .i64 a1_1) := (blk_cell BK102.out 1).trans rfl; have hcz24_2 : w22.cell? ⟨gb102, 2, none⟩ = some (.int .i64 a1_2) := (blk_cell BK102.out 2).trans rfl; have hfz24_0 := blk_frozen BK102.out 0; have hfz24_1 := blk_frozen BK102.out 1; have hfz24_2 := blk_frozen BK102.out 2; have hcz25_0 : w22.cell? ⟨gb101, 0, none⟩ = some (.int .i64 a0_0) := (blk_cell BK101.out 0).trans rfl; have hcz25_1 : w22.cell? ⟨gb101, 1, none⟩ = some (.int .i64 a0_1) := (blk_cell BK101.out 1).trans rfl; have hcz25_2 : w22.cell? ⟨gb101, 2, none⟩ = some (.int .i64 a0_2) := (blk_cell BK101.out 2).trans rfl; have hcz25_3 : w22.cell? ⟨gb101, 3, none⟩ = some (.int .i64 a0_3) := (blk_cell BK101.out 3).trans rfl; have hfz25_0 := blk_frozen BK101.out 0; have hfz25_1 := blk_frozen BK101.out 1; have hfz25_2 := blk_frozen BK101.out 2; have hfz25_3 := blk_frozen BK101.out 3))
     go_ret2
     exact ⟨by first | rfl | (simp [errW_none, errW_some] <;> rfl) | (simp [*, errW_none, errW_some] <;> rfl), by repeat (first | (with_reducible first | exact HB.out | apply below_alloc | apply pw_below_drewN | apply below_drew1 | refine below_set ?_ GE101.out | refine below_set ?_ GE102.out) | exact HB.out)⟩
    ·
     rw [if_neg c20] at H
     have c20b0 : decide (a0_0 < a1_1) = false := decide_eq_false c20
     clear c20
     by_cases c26 : a1_2 < (wrap64 (-a0_1))
     ·
      rw [if_pos c26] at H
      have c26b0 : decide (a1_2 < (wrap64 (-a0_1))) = true := decide_eq_true c26
      clear c26
      simp only [Option.some.injEq, Prod.mk.injEq] at H
      obtain ⟨rfl, rfl⟩ := H
      go_enter Try.func50, Try.ntmps50
      go_wp2_with (first | ((with_reducible refine gate_dst (N := 2) rfl ?_); refine box_event ?hg (N := 2) ?hd (cs := #[.int .i64 a0_0, .int .i64 a0_1, .int .i64 a0_2, .int .i64 a0_3]) (t := 98) ?hr ?_; (case hd => rfl); (case hg => rfl); (case hr => first | (go_simp; done) | (go_simp; rfl)); intro gb101 hg w27 hbox hb; have n0_ := Aside0.mk (below_step hb_ hb); have n1_ := Aside0.mk (hbox); have n2_ := Aside0.mk ((by rw [hg]; exact (below_size hb_) : w.heap.size ≤ gb101)); have n3_ := Aside0.mk ((by rw [hg]; exact (below_size hb_) : w.heap.size ≤ gb101)); clear HB; have HB := n0_; have BK101 := n1_; have GW101 := n2_; have GE101 := n3_; clear n0_ n1_ n2_ n3_; clear hb hbox hg) | ((with_reducible refine gate_dst (N := 3) rfl ?_); refine box_event ?hg (N := 3) ?hd (cs := #[.int .i64 a1_0, .int .i64 a1_1, .int .i64 a1_2]) (t := 33) ?hr ?_; (case hd => rfl); (case hg => rfl); (case hr => first | (go_simp; done) | (go_simp; rfl)); intro gb102 hg w28 hbox hb; have n0_ := Aside0.mk (blk_below (g := gb101) (o := .cells #[.int .i64 a0_0, .int .i64 a0_1, .int .i64 a0_2, .int .i64 a0_3] 98 (0, 0)) (bk_ BK101.out) hb); have n1_ := Aside0.mk (below_step hb_ hb); have n2_ := Aside0.mk (hbox); have n3_ := Aside0.mk ((by rw [hg]; exact (below_size hb_) : w.heap.size ≤ gb102)); have n4_ := Aside0.mk ((by rw [hg]; exact (below_size hb_) : w.heap.size ≤ gb102)); have n5_ := Aside0.mk ((by rw [hg]; exact Nat.ne_of_lt (blk_lt (g := gb101) (o := .cells #[.int .i64 a0_0, .int .i64 a0_1, .int .i64 a0_2, .int .i64 a0_3] 98 (0, 0)) (bk_ BK101.out)) : gb101 ≠ gb102)); have n6_ := Aside0.mk ((by rw [hg]; exact Nat.ne_of_gt (blk_lt (g := gb101) (o := .cells #[.int .i64 a0_0, .int .i64 a0_1, .int .i64 a0_2, .int .i64 a0_3] 98 (0, 0)) (bk_ BK101.out)) : gb102 ≠ gb101)); clear BK101; clear HB; have BK101 := n0_; have HB := n1_; have BK102 := n2_; have GW102 := n3_; have GE102 := n4_; have NB101_102 := n5_; have NB102_101 := n6_; clear n0_ n1_ n2_ n3_ n4_ n5_ n6_; clear hb hbox hg; have hnb29 := NB102_101.out; have hnc29 := NB101_102.out; have hcz30_0 : w28.cell? ⟨gb102, 0, none⟩ = some (.int .i64 a1_0) := (blk_cell BK102.out 0).trans rfl; have hcz30_1 : w28.cell? ⟨gb102, 1, none⟩ = some (.int .i64 a1_1) := (blk_cell BK102.out 1).trans rfl; have hcz30_2 : w28.cell? ⟨gb102, 2, none⟩ = some (.int .i64 a1_2) := (blk_cell BK102.out 2).trans rfl; have hfz30_0 := blk_frozen BK102.out 0; have hfz30_1 := blk_frozen BK102.out 1; have hfz30_2 := blk_frozen BK102.out 2; have hcz31_0 : w28.cell? ⟨gb101, 0, none⟩ = some (.int .i64 a0_0) := (blk_cell BK101.out 0).trans rfl; have hcz31_1 : w28.cell? ⟨gb101, 1, none⟩ = some (.int .i64 a0_1) := (blk_cell BK101.out 1).trans rfl; have hcz31_2 : w28.cell? ⟨gb101, 2, none⟩ = some (.int .i64 a0_2) := (blk_cell BK101.out 2).trans rfl; have hcz31_3 : w28.cell? ⟨gb101, 3, none⟩ = some (.int .i64 a0_3) := (blk_cell BK101.out 3).trans rfl; have hfz31_0 := blk_frozen BK101.out 0; have hfz31_1 := blk_frozen BK101.out 1; have hfz31_2 := blk_frozen BK101.out 2; have hfz31_3 := blk_frozen BK101.out 3))
      go_ret2
      exact ⟨by first | rfl | (simp [errW_none, errW_some] <;> rfl) | (simp [*, errW_none, errW_some] <;> rfl), by repeat (first | (with_reducible first | exact HB.out | apply below_alloc | apply pw_below_drewN | apply below_drew1 | refine below_set ?_ GE101.out | refine below_set ?_ GE102.out) | exact HB.out)⟩
     ·
      rw [if_neg c26] at H
      have c26b0 : decide (a1_2 < (wrap64 (-a0_1))) = false := decide_eq_false c26
      clear c26
      by_cases c32 : a1_2 > a0_1
      ·
       rw [if_pos c32] at H
       have c32b0 : decide (a0_1 < a1_2) = true := decide_eq_true c32
       clear c32
       simp only [Option.some.injEq, Prod.mk.injEq] at H
       obtain ⟨rfl, rfl⟩ := H
       go_enter Try.func50, Try.ntmps50
       go_wp2_with (first | ((with_reducible refine gate_dst (N := 2) rfl ?_); refine box_event ?hg (N := 2) ?hd (cs := #[.int .i64 a0_0, .int .i64 a0_1, .int .i64 a0_2, .int .i64 a0_3]) (t := 98) ?hr ?_; (case hd => rfl); (case hg => rfl); (case hr => first | (go_simp; done) | (go_simp; rfl)); intro gb101 hg w33 hbox hb; have n0_ := Aside0.mk (below_step hb_ hb); have n1_ := Aside0.mk (hbox); have n2_ := Aside0.mk ((by rw [hg]; exact (below_size hb_) : w.heap.size ≤ gb101)); have n3_ := Aside0.mk ((by rw [hg]; exact (below_size hb_) : w.heap.size ≤ gb101)); clear HB; have HB := n0_; have BK101 := n1_; have GW101 := n2_; have GE101 := n3_; clear n0_ n1_ n2_ n3_; clear hb hbox hg) | ((with_reducible refine gate_dst (N := 3) rfl ?_); refine box_event ?hg (N := 3) ?hd (cs := #[.int .i64 a1_0, .int .i64 a1_1, .int .i64 a1_2]) (t := 33) ?hr ?_; (case hd => rfl); (case hg => rfl); (case hr => first | (go_simp; done) | (go_simp; rfl)); intro gb102 hg w34 hbox hb; have n0_ := Aside0.mk (blk_below (g := gb101) (o := .cells #[.int .i64 a0_0, .int .i64 a0_1, .int .i64 a0_2, .int .i64 a0_3] 98 (0, 0)) (bk_ BK101.out) hb); have n1_ := Aside0.mk (below_step hb_ hb); have n2_ := Aside0.mk (hbox); have n3_ := Aside0.mk ((by rw [hg]; exact (below_size hb_) : w.heap.size ≤ gb102)); have n4_ := Aside0.mk ((by rw [hg]; exact (below_size hb_) : w.heap.size ≤ gb102)); have n5_ := Aside0.mk ((by rw [hg]; exact Nat.ne_of_lt (blk_lt (g := gb101) (o := .cells #[.int .i64 a0_0, .int .i64 a0_1, .int .i64 a0_2, .int .i64 a0_3] 98 (0, 0)) (bk_ BK101.out)) : gb101 ≠ gb102)); have n6_ := Aside0.mk ((by rw [hg]; exact Nat.ne_of_gt (blk_lt (g := gb101) (o := .cells #[.int .i64 a0_0, .int .i64 a0_1, .int .i64 a0_2, .int .i64 a0_3] 98 (0, 0)) (bk_ BK101.out)) : gb102 ≠ gb101)); clear BK101; clear HB; have BK101 := n0_; have HB := n1_; have BK102 := n2_; have GW102 := n3_; have GE102 := n4_; have NB101_102 := n5_; have NB102_101 := n6_; clear n0_ n1_ n2_ n3_ n4_ n5_ n6_; clear hb hbox hg; have hnb35 := NB102_101.out; have hnc35 := NB101_102.out; have hcz36_0 : w34.cell? ⟨gb102, 0, none⟩ = some (.int .i64 a1_0) := (blk_cell BK102.out 0).trans rfl; have hcz36_1 : w34.cell? ⟨gb102, 1, none⟩ = some (.int .i64 a1_1) := (blk_cell BK102.out 1).trans rfl; have hcz36_2 : w34.cell? ⟨gb102, 2, none⟩ = some (.int .i64 a1_2) := (blk_cell BK102.out 2).trans rfl; have hfz36_0 := blk_frozen BK102.out 0; have hfz36_1 := blk_frozen BK102.out 1; have hfz36_2 := blk_frozen BK102.out 2; have hcz37_0 : w34.cell? ⟨gb101, 0, none⟩ = some (.int .i64 a0_0) := (blk_cell BK101.out 0).trans rfl; have hcz37_1 : w34.cell? ⟨gb101, 1, none⟩ = some (.int .i64 a0_1) := (blk_cell BK101.out 1).trans rfl; have hcz37_2 : w34.cell? ⟨gb101, 2, none⟩ = some (.int .i64 a0_2) := (blk_cell BK101.out 2).trans rfl; have hcz37_3 : w34.cell? ⟨gb101, 3, none⟩ = some (.int .i64 a0_3) := (blk_cell BK101.out 3).trans rfl; have hfz37_0 := blk_frozen BK101.out 0; have hfz37_1 := blk_frozen BK101.out 1; have hfz37_2 := blk_frozen BK101.out 2; have hfz37_3 := blk_frozen BK101.out 3))
       go_ret2
       exact ⟨by first | rfl | (simp [errW_none, errW_some] <;> rfl) | (simp [*, errW_none, errW_some] <;> rfl), by repeat (first | (with_reducible first | exact HB.out | apply below_alloc | apply pw_below_drewN | apply below_drew1 | refine below_set ?_ GE101.out | refine below_set ?_ GE102.out) | exact HB.out)⟩
      ·
       rw [if_neg c32] at H
       have c32b0 : decide (a0_1 < a1_2) = false := decide_eq_false c32
       clear c32
       simp only [Option.some.injEq, Prod.mk.injEq] at H
       obtain ⟨rfl, rfl⟩ := H
       go_enter Try.func50, Try.ntmps50
       go_wp2_with (first | ((with_reducible refine gate_dst (N := 2) rfl ?_); refine box_event ?hg (N := 2) ?hd (cs := #[.int .i64 a0_0, .int .i64 a0_1, .int .i64 a0_2, .int .i64 a0_3]) (t := 98) ?hr ?_; (case hd => rfl); (case hg => rfl); (case hr => first | (go_simp; done) | (go_simp; rfl)); intro gb101 hg w38 hbox hb; have n0_ := Aside0.mk (below_step hb_ hb); have n1_ := Aside0.mk (hbox); have n2_ := Aside0.mk ((by rw [hg]; exact (below_size hb_) : w.heap.size ≤ gb101)); have n3_ := Aside0.mk ((by rw [hg]; exact (below_size hb_) : w.heap.size ≤ gb101)); clear HB; have HB := n0_; have BK101 := n1_; have GW101 := n2_; have GE101 := n3_; clear n0_ n1_ n2_ n3_; clear hb hbox hg) | ((with_reducible refine gate_dst (N := 3) rfl ?_); refine box_event ?hg (N := 3) ?hd (cs := #[.int .i64 a1_0, .int .i64 a1_1, .int .i64 a1_2]) (t := 33) ?hr ?_; (case hd => rfl); (case hg => rfl); (case hr => first | (go_simp; done) | (go_simp; rfl)); intro gb102 hg w39 hbox hb; have n0_ := Aside0.mk (blk_below (g := gb101) (o := .cells #[.int .i64 a0_0, .int .i64 a0_1, .int .i64 a0_2, .int .i64 a0_3] 98 (0, 0)) (bk_ BK101.out) hb); have n1_ := Aside0.mk (below_step hb_ hb); have n2_ := Aside0.mk (hbox); have n3_ := Aside0.mk ((by rw [hg]; exact (below_size hb_) : w.heap.size ≤ gb102)); have n4_ := Aside0.mk ((by rw [hg]; exact (below_size hb_) : w.heap.size ≤ gb102)); have n5_ := Aside0.mk ((by rw [hg]; exact Nat.ne_of_lt (blk_lt (g := gb101) (o := .cells #[.int .i64 a0_0, .int .i64 a0_1, .int .i64 a0_2, .int .i64 a0_3] 98 (0, 0)) (bk_ BK101.out)) : gb101 ≠ gb102)); have n6_ := Aside0.mk ((by rw [hg]; exact Nat.ne_of_gt (blk_lt (g := gb101) (o := .cells #[.int .i64 a0_0, .int .i64 a0_1, .int .i64 a0_2, .int .i64 a0_3] 98 (0, 0)) (bk_ BK101.out)) : gb102 ≠ gb101)); clear BK101; clear HB; have BK101 := n0_; have HB := n1_; have BK102 := n2_; have GW102 := n3_; have GE102 := n4_; have NB101_102 := n5_; have NB102_101 := n6_; clear n0_ n1_ n2_ n3_ n4_ n5_ n6_; clear hb hbox hg; have hnb40 := NB102_101.out; have hnc40 := NB101_102.out; have hcz41_0 : w39.cell? ⟨gb102, 0, none⟩ = some (.int .i64 a1_0) := (blk_cell BK102.out 0).trans rfl; have hcz41_1 : w39.cell? ⟨gb102, 1, none⟩ = some (.int .i64 a1_1) := (blk_cell BK102.out 1).trans rfl; have hcz41_2 : w39.cell? ⟨gb102, 2, none⟩ = some (.int .i64 a1_2) := (blk_cell BK102.out 2).trans rfl; have hfz41_0 := blk_frozen BK102.out 0; have hfz41_1 := blk_frozen BK102.out 1; have hfz41_2 := blk_frozen BK102.out 2; have hcz42_0 : w39.cell? ⟨gb101, 0, none⟩ = some (.int .i64 a0_0) := (blk_cell BK101.out 0).trans rfl; have hcz42_1 : w39.cell? ⟨gb101, 1, none⟩ = some (.int .i64 a0_1) := (blk_cell BK101.out 1).trans rfl; have hcz42_2 : w39.cell? ⟨gb101, 2, none⟩ = some (.int .i64 a0_2) := (blk_cell BK101.out 2).trans rfl; have hcz42_3 : w39.cell? ⟨gb101, 3, none⟩ = some (.int .i64 a0_3) := (blk_cell BK101.out 3).trans rfl; have hfz42_0 := blk_frozen BK101.out 0; have hfz42_1 := blk_frozen BK101.out 1; have hfz42_2 := blk_frozen BK101.out 2; have hfz42_3 := blk_frozen BK101.out 3))
       go_ret2
       exact ⟨by first | rfl | (simp [errW_none, errW_some] <;> rfl) | (simp [*, errW_none, errW_some] <;> rfl), by repeat (first | (with_reducible first | exact HB.out | apply below_alloc | apply pw_below_drewN | apply below_drew1 | refine below_set ?_ GE101.out | refine below_set ?_ GE102.out) | exact HB.out)⟩

/-! ### ambidextertop_limR14: function 15 -/
def ambidextertop_limR14.f (a0 : Int) (a1 : Int) (a2 : Int) : Option (Int × Int × Int) := some (wrap64 (1 + (Int.tmod (wrap64 (a0)) 8)), wrap64 (1 + (Int.tmod (wrap64 (a1)) 4)), wrap64 (1 + (Int.tmod (wrap64 (a2)) 2)))
set_option maxHeartbeats 8000000 in
set_option maxRecDepth 100000 in
theorem ambidextertop_limR14.calls (a0 : Int) (a1 : Int) (a2 : Int) (r1 : Int) (r2 : Int) (r3 : Int) (w : World) (h : ambidextertop_limR14.f a0 a1 a2 = some (r1, r2, r3)) :
  Calls Try.prog 15 #[.int .u8 a0, .int .u8 a1, .int .u8 a2] w fun e w' => e = .returned (.agg #[.int .i64 r1, .int .i64 r2, .int .i64 r3]) ∧ Below w.heap.size w w' := by
 have hu25 := Try.underlying25
 have HB := Aside0.mk (Below.refl w.heap.size w)
 have H : (some (wrap64 (1 + (Int.tmod (wrap64 (a0)) 8)), wrap64 (1 + (Int.tmod (wrap64 (a1)) 4)), wrap64 (1 + (Int.tmod (wrap64 (a2)) 2)))) = some (r1, r2, r3) := h
 clear h
 simp only [Option.some.injEq, Prod.mk.injEq] at H
 obtain ⟨rfl, rfl, rfl⟩ := H
 go_enter Try.func15, Try.ntmps15
 go_wp2_with (first | ((with_reducible refine gate_dst (N := 6) rfl ?_); refine box_event ?hg (N := 6) ?hd (cs := #[.int .i64 0, .int .i64 0, .int .i64 0]) (t := 25) ?hr ?_; (case hd => rfl); (case hg => rfl); (case hr => first | (go_simp; done) | (go_simp; rfl)); intro gb103 hg w4 hbox hb; have n0_ := Aside0.mk (below_step hb_ hb); have n1_ := Aside0.mk (hbox); have n2_ := Aside0.mk ((by rw [hg]; exact (below_size hb_) : w.heap.size ≤ gb103)); have n3_ := Aside0.mk ((by rw [hg]; exact (below_size hb_) : w.heap.size ≤ gb103)); clear HB; have HB := n0_; have BK103 := n1_; have GW103 := n2_; have GE103 := n3_; clear n0_ n1_ n2_ n3_; clear hb hbox hg; have hcz5_0 : w4.cell? ⟨gb103, 0, none⟩ = some (.int .i64 0) := (blk_cell BK103.out 0).trans rfl; have hcz5_1 : w4.cell? ⟨gb103, 1, none⟩ = some (.int .i64 0) := (blk_cell BK103.out 1).trans rfl; have hcz5_2 : w4.cell? ⟨gb103, 2, none⟩ = some (.int .i64 0) := (blk_cell BK103.out 2).trans rfl; have hfz5_0 := blk_frozen BK103.out 0; have hfz5_1 := blk_frozen BK103.out 1; have hfz5_2 := blk_frozen BK103.out 2))
 refine bodyPost_ret (results_cell_row rfl _ _ gb103 25 #[.int .i64 (wrap64 (1 + (Int.tmod (wrap64 (a0)) 8))), .int .i64 (wrap64 (1 + (Int.tmod (wrap64 (a1)) 4))), .int .i64 (wrap64 (1 + (Int.tmod (wrap64 (a2)) 2)))] (0, 0) _ rfl (by (with_reducible repeat (first | refine blk_drewN ?_ _ | refine blk_drew ?_ | refine blk_alloc ?_ _)); refine blk_put (cs := #[.int .i64 (wrap64 (1 + (Int.tmod (wrap64 (a0)) 8))), .int .i64 (wrap64 (1 + (Int.tmod (wrap64 (a1)) 4))), .int .i64 0]) ?_ 2 _ rfl; (with_reducible repeat (first | refine blk_drewN ?_ _ | refine blk_drew ?_ | refine blk_alloc ?_ _)); refine blk_put (cs := #[.int .i64 (wrap64 (1 + (Int.tmod (wrap64 (a0)) 8))), .int .i64 0, .int .i64 0]) ?_ 1 _ rfl; (with_reducible repeat (first | refine blk_drewN ?_ _ | refine blk_drew ?_ | refine blk_alloc ?_ _)); refine blk_put (cs := #[.int .i64 0, .int .i64 0, .int .i64 0]) ?_ 0 _ rfl; (with_reducible repeat (first | refine blk_drewN ?_ _ | refine blk_drew ?_ | refine blk_alloc ?_ _)); exact BK103.out) Try.underlying25 rfl (by kernel_rfl)) rfl ?_
 exact ⟨by first | rfl | (simp [errW_none, errW_some] <;> rfl) | (simp [*, errW_none, errW_some] <;> rfl), by repeat (first | (with_reducible first | exact HB.out | apply below_alloc | apply pw_below_drewN | apply below_drew1 | refine below_set ?_ GE103.out) | exact HB.out)⟩

-- NOT PRINTED: function 51 (profile_ticks)

/-! ### profile_Final: function 18 -/
def profile_Final.f (a0_0 : Int) (a0_1 : Int) (a0_2 : Int) (l1 : List Int) : Option (Int × Int × Int) := if l1.length ≤ 1000000000000 then some (Ticks.lastOf a0_0 a0_1 a0_2 (Ticks.tr a0_0 a0_1 a0_2 l1)) else none
theorem profile_Final.calls (a0_0 : Int) (a0_1 : Int) (a0_2 : Int) (A1 : Option Addr) (c1 : Nat) (l1 : List Int) (r1 : Int) (r2 : Int) (r3 : Int) (w : World) (hr1 : Kd.C (Kd.int .i64) w A1 l1.length l1) (hc1 : l1.length ≤ c1) (h : profile_Final.f a0_0 a0_1 a0_2 l1 = some (r1, r2, r3)) :
  Calls Try.prog 18 #[.agg #[.int .i64 a0_0, .int .i64 a0_1, .int .i64 a0_2], .slice A1 l1.length c1] w fun e w' => e = .returned (.agg #[.int .i64 r1, .int .i64 r2, .int .i64 r3]) ∧ Below w.heap.size w w' := by
 unfold profile_Final.f at h
 by_cases c : l1.length ≤ 1000000000000
 ·
  rw [if_pos c] at h
  have e := Option.some.inj h
  have hw := Ticks.final_in 3 (Nat.le_refl _) a0_0 a0_1 a0_2 A1 l1 c1 w (Ticks.argOf hr1).1 (Ticks.argOf hr1).2 (by omega)
  rw [e] at hw
  exact callsIn_wide.1 hw
 ·
  rw [if_neg c] at h
  cases h

/-! ### profile_ValidLimits: function 48 -/
theorem profile_ValidLimits.run_ (v a j : Int) (w : World) : Calls Try.prog 48 #[.agg #[.int .i64 v, .int .i64 a, .int .i64 j]] w fun e w' => e = .returned (.bool (decide (1 ≤ v ∧ v ≤ 8 ∧ 1 ≤ a ∧ a ≤ 4 ∧ 1 ≤ j ∧ j ≤ 2))) ∧ Below w.heap.size w w' := by
 go_enter Try.func48, Try.ntmps48
 go_wp2
 all_goals
  go_ret
  refine ⟨by first | rfl | (show Ending.returned (Value.bool _) = Ending.returned (Value.bool _); congr 2; rw [Bool.eq_iff_iff]; simp only [decide_eq_true_eq, Bool.and_eq_true, Bool.or_eq_true, Bool.not_eq_true', decide_eq_false_iff_not, Bool.false_eq_true, false_iff, true_iff, iff_true, iff_false]; omega), ?_⟩
  repeat (first | exact Below.refl _ _ | refine Below.setCell ?_ (by simp) _ | refine Below.alloc ?_ (by simp <;> omega) _ | refine Below.drew ?_)
def profile_ValidLimits.f (a0_0 : Int) (a0_1 : Int) (a0_2 : Int) : Option (Bool) := some (decide (1 ≤ a0_0 ∧ a0_0 ≤ 8 ∧ 1 ≤ a0_1 ∧ a0_1 ≤ 4 ∧ 1 ≤ a0_2 ∧ a0_2 ≤ 2))
theorem profile_ValidLimits.calls (a0_0 : Int) (a0_1 : Int) (a0_2 : Int) (r : Bool) (w : World) (h : profile_ValidLimits.f a0_0 a0_1 a0_2 = some r) :
  Calls Try.prog 48 #[.agg #[.int .i64 a0_0, .int .i64 a0_1, .int .i64 a0_2]] w fun e w' => e = .returned (.bool r) ∧ Below w.heap.size w w' := by
 obtain rfl := Option.some.inj h
 exact profile_ValidLimits.run_ _ _ _ w

/-! ### mintime_space_many: function 74 -/
def mintime_space_many.f (a0_0 : Int) (a0_1 : Int) (a0_2 : Int) (a0_3 : Int) : Option (Int) := some (wrap64 ((wrap64 ((wrap64 (a0_3 + 1)) * (wrap64 ((wrap64 (2 * a0_0)) + 1)))) * (wrap64 ((wrap64 (2 * a0_1)) + 1))))
set_option maxHeartbeats 8000000 in
set_option maxRecDepth 100000 in
theorem mintime_space_many.calls (a0_0 : Int) (a0_1 : Int) (a0_2 : Int) (a0_3 : Int) (r : Int) (w : World) (h : mintime_space_many.f a0_0 a0_1 a0_2 a0_3 = some r) :
  Calls Try.prog 74 #[.agg #[.int .i64 a0_0, .int .i64 a0_1, .int .i64 a0_2, .int .i64 a0_3]] w fun e w' => e = .returned (.int .i64 r) ∧ Below w.heap.size w w' := by
 have hu98 := Try.underlying98
 have HB := Aside0.mk (Below.refl w.heap.size w)
 have H : (some (wrap64 ((wrap64 ((wrap64 (a0_3 + 1)) * (wrap64 ((wrap64 (2 * a0_0)) + 1)))) * (wrap64 ((wrap64 (2 * a0_1)) + 1))))) = some r := h
 clear h
 obtain rfl := Option.some.inj H
 go_enter Try.func74, Try.ntmps74
 go_wp2_with (first | ((with_reducible refine gate_dst (N := 1) rfl ?_); refine box_event ?hg (N := 1) ?hd (cs := #[.int .i64 a0_0, .int .i64 a0_1, .int .i64 a0_2, .int .i64 a0_3]) (t := 98) ?hr ?_; (case hd => rfl); (case hg => rfl); (case hr => first | (go_simp; done) | (go_simp; rfl)); intro gb104 hg w2 hbox hb; have n0_ := Aside0.mk (below_step hb_ hb); have n1_ := Aside0.mk (hbox); have n2_ := Aside0.mk ((by rw [hg]; exact (below_size hb_) : w.heap.size ≤ gb104)); have n3_ := Aside0.mk ((by rw [hg]; exact (below_size hb_) : w.heap.size ≤ gb104)); clear HB; have HB := n0_; have BK104 := n1_; have GW104 := n2_; have GE104 := n3_; clear n0_ n1_ n2_ n3_; clear hb hbox hg; have hcz3_0 : w2.cell? ⟨gb104, 0, none⟩ = some (.int .i64 a0_0) := (blk_cell BK104.out 0).trans rfl; have hcz3_1 : w2.cell? ⟨gb104, 1, none⟩ = some (.int .i64 a0_1) := (blk_cell BK104.out 1).trans rfl; have hcz3_2 : w2.cell? ⟨gb104, 2, none⟩ = some (.int .i64 a0_2) := (blk_cell BK104.out 2).trans rfl; have hcz3_3 : w2.cell? ⟨gb104, 3, none⟩ = some (.int .i64 a0_3) := (blk_cell BK104.out 3).trans rfl; have hfz3_0 := blk_frozen BK104.out 0; have hfz3_1 := blk_frozen BK104.out 1; have hfz3_2 := blk_frozen BK104.out 2; have hfz3_3 := blk_frozen BK104.out 3))
 go_ret
 exact ⟨by first | rfl | (simp [errW_none, errW_some] <;> rfl) | (simp [*, errW_none, errW_some] <;> rfl), by repeat (first | (with_reducible first | exact HB.out | apply below_alloc | apply pw_below_drewN | apply below_drew1 | refine below_set ?_ GE104.out) | exact HB.out)⟩

/-! ### mintime_ahead: function 75 -/
def mintime_ahead.f (a0_0 : Int) (a0_1 : Int) (a0_2 : Int) (a1 : Int) : Option (Int × Int × Int) := some (wrap64 (a0_0 - a0_1), wrap64 (a0_1 - a0_2), wrap64 (a0_2 - a1))
set_option maxHeartbeats 8000000 in
set_option maxRecDepth 100000 in
theorem mintime_ahead.calls (a0_0 : Int) (a0_1 : Int) (a0_2 : Int) (a1 : Int) (r1 : Int) (r2 : Int) (r3 : Int) (w : World) (h : mintime_ahead.f a0_0 a0_1 a0_2 a1 = some (r1, r2, r3)) :
  Calls Try.prog 75 #[.agg #[.int .i64 a0_0, .int .i64 a0_1, .int .i64 a0_2], .int .i64 a1] w fun e w' => e = .returned (.agg #[.int .i64 r1, .int .i64 r2, .int .i64 r3]) ∧ Below w.heap.size w w' := by
 have hu33 := Try.underlying33
 have HB := Aside0.mk (Below.refl w.heap.size w)
 have H : (some (wrap64 (a0_0 - a0_1), wrap64 (a0_1 - a0_2), wrap64 (a0_2 - a1))) = some (r1, r2, r3) := h
 clear h
 simp only [Option.some.injEq, Prod.mk.injEq] at H
 obtain ⟨rfl, rfl, rfl⟩ := H
 go_enter Try.func75, Try.ntmps75
 go_wp2_with (first | ((with_reducible refine gate_dst (N := 2) rfl ?_); refine box_event ?hg (N := 2) ?hd (cs := #[.int .i64 a0_0, .int .i64 a0_1, .int .i64 a0_2]) (t := 33) ?hr ?_; (case hd => rfl); (case hg => rfl); (case hr => first | (go_simp; done) | (go_simp; rfl)); intro gb105 hg w3 hbox hb; have n0_ := Aside0.mk (below_step hb_ hb); have n1_ := Aside0.mk (hbox); have n2_ := Aside0.mk ((by rw [hg]; exact (below_size hb_) : w.heap.size ≤ gb105)); have n3_ := Aside0.mk ((by rw [hg]; exact (below_size hb_) : w.heap.size ≤ gb105)); clear HB; have HB := n0_; have BK105 := n1_; have GW105 := n2_; have GE105 := n3_; clear n0_ n1_ n2_ n3_; clear hb hbox hg) | ((with_reducible refine gate_dst (N := 4) rfl ?_); refine box_event ?hg (N := 4) ?hd (cs := #[.int .i64 0, .int .i64 0, .int .i64 0]) (t := 33) ?hr ?_; (case hd => rfl); (case hg => rfl); (case hr => first | (go_simp; done) | (go_simp; rfl)); intro gb106 hg w4 hbox hb; have n0_ := Aside0.mk (blk_below (g := gb105) (o := .cells #[.int .i64 a0_0, .int .i64 a0_1, .int .i64 a0_2] 33 (0, 0)) (bk_ BK105.out) hb); have n1_ := Aside0.mk (below_step hb_ hb); have n2_ := Aside0.mk (hbox); have n3_ := Aside0.mk ((by rw [hg]; exact (below_size hb_) : w.heap.size ≤ gb106)); have n4_ := Aside0.mk ((by rw [hg]; exact (below_size hb_) : w.heap.size ≤ gb106)); have n5_ := Aside0.mk ((by rw [hg]; exact Nat.ne_of_lt (blk_lt (g := gb105) (o := .cells #[.int .i64 a0_0, .int .i64 a0_1, .int .i64 a0_2] 33 (0, 0)) (bk_ BK105.out)) : gb105 ≠ gb106)); have n6_ := Aside0.mk ((by rw [hg]; exact Nat.ne_of_gt (blk_lt (g := gb105) (o := .cells #[.int .i64 a0_0, .int .i64 a0_1, .int .i64 a0_2] 33 (0, 0)) (bk_ BK105.out)) : gb106 ≠ gb105)); clear BK105; clear HB; have BK105 := n0_; have HB := n1_; have BK106 := n2_; have GW106 := n3_; have GE106 := n4_; have NB105_106 := n5_; have NB106_105 := n6_; clear n0_ n1_ n2_ n3_ n4_ n5_ n6_; clear hb hbox hg; have hnb5 := NB105_106.out; have hnc5 := NB106_105.out; have hcz6_0 : w4.cell? ⟨gb105, 0, none⟩ = some (.int .i64 a0_0) := (blk_cell BK105.out 0).trans rfl; have hcz6_1 : w4.cell? ⟨gb105, 1, none⟩ = some (.int .i64 a0_1) := (blk_cell BK105.out 1).trans rfl; have hcz6_2 : w4.cell? ⟨gb105, 2, none⟩ = some (.int .i64 a0_2) := (blk_cell BK105.out 2).trans rfl; have hfz6_0 := blk_frozen BK105.out 0; have hfz6_1 := blk_frozen BK105.out 1; have hfz6_2 := blk_frozen BK105.out 2; have hcz7_0 : w4.cell? ⟨gb106, 0, none⟩ = some (.int .i64 0) := (blk_cell BK106.out 0).trans rfl; have hcz7_1 : w4.cell? ⟨gb106, 1, none⟩ = some (.int .i64 0) := (blk_cell BK106.out 1).trans rfl; have hcz7_2 : w4.cell? ⟨gb106, 2, none⟩ = some (.int .i64 0) := (blk_cell BK106.out 2).trans rfl; have hfz7_0 := blk_frozen BK106.out 0; have hfz7_1 := blk_frozen BK106.out 1; have hfz7_2 := blk_frozen BK106.out 2))
 refine bodyPost_ret (results_cell_row rfl _ _ gb106 33 #[.int .i64 (wrap64 (a0_0 - a0_1)), .int .i64 (wrap64 (a0_1 - a0_2)), .int .i64 (wrap64 (a0_2 - a1))] (0, 0) _ rfl (by (with_reducible repeat (first | refine blk_drewN ?_ _ | refine blk_drew ?_ | refine blk_alloc ?_ _)); refine blk_put (cs := #[.int .i64 (wrap64 (a0_0 - a0_1)), .int .i64 (wrap64 (a0_1 - a0_2)), .int .i64 0]) ?_ 2 _ rfl; (with_reducible repeat (first | refine blk_drewN ?_ _ | refine blk_drew ?_ | refine blk_alloc ?_ _)); refine blk_put (cs := #[.int .i64 (wrap64 (a0_0 - a0_1)), .int .i64 0, .int .i64 0]) ?_ 1 _ rfl; (with_reducible repeat (first | refine blk_drewN ?_ _ | refine blk_drew ?_ | refine blk_alloc ?_ _)); refine blk_put (cs := #[.int .i64 0, .int .i64 0, .int .i64 0]) ?_ 0 _ rfl; (with_reducible repeat (first | refine blk_drewN ?_ _ | refine blk_drew ?_ | refine blk_alloc ?_ _)); exact BK106.out) Try.underlying33 rfl (by kernel_rfl)) rfl ?_
 exact ⟨by first | rfl | (simp [errW_none, errW_some] <;> rfl) | (simp [*, errW_none, errW_some] <;> rfl), by repeat (first | (with_reducible first | exact HB.out | apply below_alloc | apply pw_below_drewN | apply below_drew1 | refine below_set ?_ GE105.out | refine below_set ?_ GE106.out) | exact HB.out)⟩

attribute [local go_sem high] eqA33

/-! ### mintime_space_left: function 49 -/
mutual
def mintime_space_left.l0 : Nat → List Int → List (S33) → Int → Int → Int → Int → Option (List Int)
 | 0, _, _, _, _, _, _ => none
 | k + 1, x3, x8, x108000, x108001, x108002, x108003 => if (x8.length : Int) > 0 then (if 0 < (x8.length : Int) then (if 1 ≤ (x8.length : Int) then ((mintime_space_of.f x108000 x108001 x108002 x108003 ((rd_T33 x8 0).f0) ((rd_T33 x8 0).f1) ((rd_T33 x8 0).f2)).bind fun bt124 => (mintime_space_left.l1 k x3 (x8.drop (1 : Int).toNat) bt124.1 (wrap64 (-x108002)) x108000 x108001 x108002 x108003 ((rd_T33 x8 0).f0) ((rd_T33 x8 0).f1) ((rd_T33 x8 0).f2))) else (none)) else (none)) else (some x3)
def mintime_space_left.l1 : Nat → List Int → List (S33) → Int → Int → Int → Int → Int → Int → Int → Int → Int → Option (List Int)
 | 0, _, _, _, _, _, _, _, _, _, _, _ => none
 | k + 1, x3, x8, x10, x12, x108000, x108001, x108002, x108003, x121000, x121001, x121002 => if x12 ≤ x108002 then ((mintime_ahead.f x121000 x121001 x121002 x12).bind fun bt126 => ((mintime_space_of.f x108000 x108001 x108002 x108003 bt126.1 bt126.2.1 bt126.2.2).bind fun bt130 => (if bt130.2 = true then (if 0 ≤ bt130.1 then (if bt130.1 < (x3.length : Int) then (mintime_space_left.j2 k x3 x8 x10 x12 bt130.1 (decide ((rd x3 bt130.1) > 0)) x108000 x108001 x108002 x108003 x121000 x121001 x121002 bt126.1 bt126.2.1 bt126.2.2) else (none)) else (none)) else (mintime_space_left.j2 k x3 x8 x10 x12 bt130.1 true x108000 x108001 x108002 x108003 x121000 x121001 x121002 bt126.1 bt126.2.1 bt126.2.2)))) else (mintime_space_left.l0 k x3 x8 x108000 x108001 x108002 x108003)
def mintime_space_left.j2 : Nat → List Int → List (S33) → Int → Int → Int → Bool → Int → Int → Int → Int → Int → Int → Int → Int → Int → Int → Option (List Int)
 | 0, _, _, _, _, _, _, _, _, _, _, _, _, _, _, _, _ => none
 | k + 1, x3, x8, x10, x12, x14, x77, x108000, x108001, x108002, x108003, x121000, x121001, x121002, x130000, x130001, x130002 => if x77 = true then (mintime_space_left.l1 k x3 x8 x10 (wrap64 (x12 + 1)) x108000 x108001 x108002 x108003 x121000 x121001 x121002) else (if 0 ≤ x10 then (if x10 < (x3.length : Int) then (if 0 ≤ x14 then (if x14 < (x3.length : Int) then ((some (x3.set (x14 : Int).toNat (wrap64 ((rd x3 x10) + 1)) : List Int)).bind fun y134 => (if (x130000 == 0 && (x130001 == 0 && (x130002 == 0))) = true then (some y134) else (if x8.length < 5864062014805 then (mintime_space_left.l1 k y134 (x8 ++ [(⟨x130000, x130001, x130002⟩ : S33)]) x10 (wrap64 (x12 + 1)) x108000 x108001 x108002 x108003 x121000 x121001 x121002) else (none)))) else (none)) else (none)) else (none)) else (none))
end
def mintime_space_left.f (k : Nat) (a0_0 : Int) (a0_1 : Int) (a0_2 : Int) (a0_3 : Int) : Option (List Int) := (mintime_space_many.f a0_0 a0_1 a0_2 a0_3).bind fun t108 => (if 0 ≤ t108 then (if (t108 : Int).toNat ≤ 35184372088832 then ((some (List.replicate (t108 : Int).toNat 0 : List Int)).bind fun y109 => ((mintime_space_of.f a0_0 a0_1 a0_2 a0_3 a0_3 0 0).bind fun bt113 => (if 0 ≤ bt113.1 then (if bt113.1 < (y109.length : Int) then (mintime_space_left.l0 k (y109.set (bt113.1 : Int).toNat 1) (([(⟨a0_3, 0, 0⟩ : S33)] : List (S33))) a0_0 a0_1 a0_2 a0_3) else (none)) else (none)))) else (none)) else (none))
theorem mintime_space_left.mono_l : ∀ k, (∀ y0 y1 y2 y3 y4 y5, LeO (mintime_space_left.l0 k y0 y1 y2 y3 y4 y5) (mintime_space_left.l0 (k + 1) y0 y1 y2 y3 y4 y5)) ∧ (∀ y0 y1 y2 y3 y4 y5 y6 y7 y8 y9 y10, LeO (mintime_space_left.l1 k y0 y1 y2 y3 y4 y5 y6 y7 y8 y9 y10) (mintime_space_left.l1 (k + 1) y0 y1 y2 y3 y4 y5 y6 y7 y8 y9 y10)) ∧ (∀ y0 y1 y2 y3 y4 y5 y6 y7 y8 y9 y10 y11 y12 y13 y14 y15, LeO (mintime_space_left.j2 k y0 y1 y2 y3 y4 y5 y6 y7 y8 y9 y10 y11 y12 y13 y14 y15) (mintime_space_left.j2 (k + 1) y0 y1 y2 y3 y4 y5 y6 y7 y8 y9 y10 y11 y12 y13 y14 y15))
 | 0 => ⟨fun _ _ _ _ _ _ r h => by simp [mintime_space_left.l0] at h, fun _ _ _ _ _ _ _ _ _ _ _ r h => by simp [mintime_space_left.l1] at h, fun _ _ _ _ _ _ _ _ _ _ _ _ _ _ _ _ r h => by simp [mintime_space_left.j2] at h⟩
 | k + 1 => by
  obtain ⟨ih0, ih1, ih2⟩ := mintime_space_left.mono_l k
  refine ⟨?_, ?_, ?_⟩
  ·
   intro y0 y1 y2 y3 y4 y5
   unfold mintime_space_left.l0
   repeat' first
   | (with_reducible exact ih0 _ _ _ _ _ _)
   | (with_reducible exact ih1 _ _ _ _ _ _ _ _ _ _ _)
   | (with_reducible exact ih2 _ _ _ _ _ _ _ _ _ _ _ _ _ _ _ _)
   | (with_reducible exact LeO.refl _)
   | (with_reducible exact LeO.none _)
   | (with_reducible refine LeO.ite ?_ ?_)
   | (with_reducible refine LeO.bind ?_ (fun _ => ?_))
   | exact ih0 _ _ _ _ _ _
   | exact ih1 _ _ _ _ _ _ _ _ _ _ _
   | exact ih2 _ _ _ _ _ _ _ _ _ _ _ _ _ _ _ _
   | exact LeO.none _
   | refine LeO.ite ?_ ?_
   | refine LeO.bind ?_ (fun _ => ?_)
  ·
   intro y0 y1 y2 y3 y4 y5 y6 y7 y8 y9 y10
   unfold mintime_space_left.l1
   repeat' first
   | (with_reducible exact ih0 _ _ _ _ _ _)
   | (with_reducible exact ih1 _ _ _ _ _ _ _ _ _ _ _)
   | (with_reducible exact ih2 _ _ _ _ _ _ _ _ _ _ _ _ _ _ _ _)
   | (with_reducible exact LeO.refl _)
   | (with_reducible exact LeO.none _)
   | (with_reducible refine LeO.ite ?_ ?_)
   | (with_reducible refine LeO.bind ?_ (fun _ => ?_))
   | exact ih0 _ _ _ _ _ _
   | exact ih1 _ _ _ _ _ _ _ _ _ _ _
   | exact ih2 _ _ _ _ _ _ _ _ _ _ _ _ _ _ _ _
   | exact LeO.none _
   | refine LeO.ite ?_ ?_
   | refine LeO.bind ?_ (fun _ => ?_)
  ·
   intro y0 y1 y2 y3 y4 y5 y6 y7 y8 y9 y10 y11 y12 y13 y14 y15
   unfold mintime_space_left.j2
   repeat' first
   | (with_reducible exact ih0 _ _ _ _ _ _)
   | (with_reducible exact ih1 _ _ _ _ _ _ _ _ _ _ _)
   | (with_reducible exact ih2 _ _ _ _ _ _ _ _ _ _ _ _ _ _ _ _)
   | (with_reducible exact LeO.refl _)
   | (with_reducible exact LeO.none _)
   | (with_reducible refine LeO.ite ?_ ?_)
   | (with_reducible refine LeO.bind ?_ (fun _ => ?_))
   | exact ih0 _ _ _ _ _ _
   | exact ih1 _ _ _ _ _ _ _ _ _ _ _
   | exact ih2 _ _ _ _ _ _ _ _ _ _ _ _ _ _ _ _
   | exact LeO.none _
   | refine LeO.ite ?_ ?_
   | refine LeO.bind ?_ (fun _ => ?_)
theorem mintime_space_left.mono : ∀ a0 a1 a2 a3 k, LeO (mintime_space_left.f k a0 a1 a2 a3) (mintime_space_left.f (k + 1) a0 a1 a2 a3) := by
 intro a0 a1 a2 a3 k
 obtain ⟨ih0, ih1, ih2⟩ := mintime_space_left.mono_l k
 unfold mintime_space_left.f
 repeat' first
   | (with_reducible exact ih0 _ _ _ _ _ _)
   | (with_reducible exact ih1 _ _ _ _ _ _ _ _ _ _ _)
   | (with_reducible exact ih2 _ _ _ _ _ _ _ _ _ _ _ _ _ _ _ _)
   | (with_reducible exact LeO.refl _)
   | (with_reducible exact LeO.none _)
   | (with_reducible refine LeO.ite ?_ ?_)
   | (with_reducible refine LeO.bind ?_ (fun _ => ?_))
   | exact ih0 _ _ _ _ _ _
   | exact ih1 _ _ _ _ _ _ _ _ _ _ _
   | exact ih2 _ _ _ _ _ _ _ _ _ _ _ _ _ _ _ _
   | exact LeO.none _
   | refine LeO.ite ?_ ?_
   | refine LeO.bind ?_ (fun _ => ?_)
set_option maxHeartbeats 8000000 in
set_option maxRecDepth 100000 in
theorem mintime_space_left.calls (k : Nat) (a0_0 : Int) (a0_1 : Int) (a0_2 : Int) (a0_3 : Int) (r : List Int) (w : World) (h : mintime_space_left.f k a0_0 a0_1 a0_2 a0_3 = some r) :
  Calls Try.prog 49 #[.agg #[.int .i64 a0_0, .int .i64 a0_1, .int .i64 a0_2, .int .i64 a0_3]] w fun e w' => ∃ v0_ : Value, e = .returned (v0_) ∧ Kd.R (Kd.int .i64) 3 w' w.heap.size (fun _ => True) v0_ r ∧ Below w.heap.size w w' := by
 have hu98 := Try.underlying98
 have hu33 := Try.underlying33
 have HB := Aside0.mk (Below.refl w.heap.size w)
 have H : ((mintime_space_many.f a0_0 a0_1 a0_2 a0_3).bind fun t108 => (if 0 ≤ t108 then (if (t108 : Int).toNat ≤ 35184372088832 then ((some (List.replicate (t108 : Int).toNat 0 : List Int)).bind fun y109 => ((mintime_space_of.f a0_0 a0_1 a0_2 a0_3 a0_3 0 0).bind fun bt113 => (if 0 ≤ bt113.1 then (if bt113.1 < (y109.length : Int) then (mintime_space_left.l0 k (y109.set (bt113.1 : Int).toNat 1) (([(⟨a0_3, 0, 0⟩ : S33)] : List (S33))) a0_0 a0_1 a0_2 a0_3) else (none)) else (none)))) else (none)) else (none))) = some r := h
 clear h
 replace H := Option.bind_eq_some_iff.mp H
 obtain ⟨t108, A20, H⟩ := H
 replace H : (if 0 ≤ t108 then (if (t108 : Int).toNat ≤ 35184372088832 then ((some (List.replicate (t108 : Int).toNat 0 : List Int)).bind fun y109 => ((mintime_space_of.f a0_0 a0_1 a0_2 a0_3 a0_3 0 0).bind fun bt113 => (if 0 ≤ bt113.1 then (if bt113.1 < (y109.length : Int) then (mintime_space_left.l0 k (y109.set (bt113.1 : Int).toNat 1) (([(⟨a0_3, 0, 0⟩ : S33)] : List (S33))) a0_0 a0_1 a0_2 a0_3) else (none)) else (none)))) else (none)) else (none)) = some r := H
 have A2 := Aside0.mk A20
 clear A20
 by_cases c3 : 0 ≤ t108
 ·
  rw [if_pos c3] at H
  have c3b0 := eq_true c3
  have c3b1 : decide (0 ≤ t108) = true := decide_eq_true c3
  clear c3
  by_cases c4 : (t108 : Int).toNat ≤ 35184372088832
  ·
   rw [if_pos c4] at H
   have c4b0 := eq_true c4
   have c4b1 : decide ((t108 : Int).toNat ≤ 35184372088832) = true := decide_eq_true c4
   clear c4
   obtain ⟨y109, hy109⟩ : ∃ y_ : List Int, y_ = (List.replicate (t108 : Int).toNat 0) := ⟨_, rfl⟩
   replace H : ((mintime_space_of.f a0_0 a0_1 a0_2 a0_3 a0_3 0 0).bind fun bt113 => (if 0 ≤ bt113.1 then (if bt113.1 < (y109.length : Int) then (mintime_space_left.l0 k (y109.set (bt113.1 : Int).toNat 1) (([(⟨a0_3, 0, 0⟩ : S33)] : List (S33))) a0_0 a0_1 a0_2 a0_3) else (none)) else (none))) = some r := by first | (rw [hy109]; with_reducible exact H) | (have H2_ := (Option.bind_some _ _).symm.trans H; rw [hy109]; with_reducible exact H2_) | (have H2_ := (Option.bind_some _ _).symm.trans H; with_reducible exact H2_) | with_reducible exact H | (rw [hy109]; exact H) | exact H
   have Ny109 := Aside0.mk hy109
   clear hy109
   replace H := Option.bind_eq_some_iff.mp H
   obtain ⟨⟨t113, t114⟩, A50, H⟩ := H
   replace H : (if 0 ≤ t113 then (if t113 < (y109.length : Int) then (mintime_space_left.l0 k (y109.set (t113 : Int).toNat 1) (([(⟨a0_3, 0, 0⟩ : S33)] : List (S33))) a0_0 a0_1 a0_2 a0_3) else (none)) else (none)) = some r := H
   have A5 := Aside0.mk A50
   clear A50
   by_cases c6 : 0 ≤ t113
   ·
    rw [if_pos c6] at H
    have c6b0 : decide (0 ≤ t113) = true := decide_eq_true c6
    clear c6
    by_cases c7 : t113 < (y109.length : Int)
    ·
     rw [if_pos c7] at H
     have c7b0 : decide (t113 < (y109.length : Int)) = true := decide_eq_true c7
     clear c7
     obtain ⟨y115, hy115⟩ : ∃ y_ : List Int, y_ = (y109.set (t113 : Int).toNat 1) := ⟨_, rfl⟩
     replace H : (mintime_space_left.l0 k y115 (([(⟨a0_3, 0, 0⟩ : S33)] : List (S33))) a0_0 a0_1 a0_2 a0_3) = some r := by first | (rw [hy115]; with_reducible exact H) | (have H2_ := (Option.bind_some _ _).symm.trans H; rw [hy115]; with_reducible exact H2_) | (have H2_ := (Option.bind_some _ _).symm.trans H; with_reducible exact H2_) | with_reducible exact H | (rw [hy115]; exact H) | exact H
     have Ny115 := Aside0.mk hy115
     clear hy115
     obtain ⟨y116, hy116⟩ : ∃ y_ : List (S33), y_ = (([(⟨a0_3, 0, 0⟩ : S33)] : List (S33))) := ⟨_, rfl⟩
     replace H : (mintime_space_left.l0 k y115 y116 a0_0 a0_1 a0_2 a0_3) = some r := by first | (rw [hy116]; with_reducible exact H) | (have H2_ := (Option.bind_some _ _).symm.trans H; rw [hy116]; with_reducible exact H2_) | (have H2_ := (Option.bind_some _ _).symm.trans H; with_reducible exact H2_) | with_reducible exact H | (rw [hy116]; exact H) | exact H
     have Ny116 := Aside0.mk hy116
     clear hy116
     have H' := Aside0.mk H
     clear H
     go_enter Try.func49, Try.ntmps49
     go_wp2_with (first | ((with_reducible refine gate_dst (N := 1) rfl ?_); refine box_event ?hg (N := 1) ?hd (cs := #[.int .i64 a0_0, .int .i64 a0_1, .int .i64 a0_2, .int .i64 a0_3]) (t := 98) ?hr ?_; (case hd => rfl); (case hg => rfl); (case hr => first | (go_simp; done) | (go_simp; rfl)); intro gb107 hg w9 hbox hb; have n0_ := Aside0.mk (below_step hb_ hb); have n1_ := Aside0.mk (hbox); have n2_ := Aside0.mk ((by rw [hg]; exact (below_size hb_) : w.heap.size ≤ gb107)); have n3_ := Aside0.mk ((by rw [hg]; exact (below_size hb_) : w.heap.size ≤ gb107)); clear HB; have HB := n0_; have BK107 := n1_; have GW107 := n2_; have GE107 := n3_; clear n0_ n1_ n2_ n3_; clear hb hbox hg; have hcz10_0 : w9.cell? ⟨gb107, 0, none⟩ = some (.int .i64 a0_0) := (blk_cell BK107.out 0).trans rfl; have hcz10_1 : w9.cell? ⟨gb107, 1, none⟩ = some (.int .i64 a0_1) := (blk_cell BK107.out 1).trans rfl; have hcz10_2 : w9.cell? ⟨gb107, 2, none⟩ = some (.int .i64 a0_2) := (blk_cell BK107.out 2).trans rfl; have hcz10_3 : w9.cell? ⟨gb107, 3, none⟩ = some (.int .i64 a0_3) := (blk_cell BK107.out 3).trans rfl; have hfz10_0 := blk_frozen BK107.out 0; have hfz10_1 := blk_frozen BK107.out 1; have hfz10_2 := blk_frozen BK107.out 2; have hfz10_3 := blk_frozen BK107.out 3))
     apply wp_scope_straight
     go_wp2_with (first | ((with_reducible refine gate_callee (f := 74) rfl ?_); refine goesL_ (some 17) rfl rfl Try.func74 (by kernel_rfl) rfl #[.agg #[.int .i64 a0_0, .int .i64 a0_1, .int .i64 a0_2, .int .i64 a0_3]] rfl (by (try simp only [List.map_toArray, List.map_cons, List.map_nil]); first | done | rfl | (simp only [List.length_drop, List.length_take]; rfl)) ?_; (with_reducible refine (mintime_space_many.calls a0_0 a0_1 a0_2 a0_3 t108 _ A2.out).mono ?_); rintro e w11 ⟨rfl, hb⟩; refine ⟨_, rfl, ?_⟩; have n0_ := Aside0.mk (blk_below (g := gb107) (o := .cells #[.int .i64 a0_0, .int .i64 a0_1, .int .i64 a0_2, .int .i64 a0_3] 98 (0, 0)) (bk_ BK107.out) hb); have n1_ := Aside0.mk (below_step hb_ hb); clear BK107; clear HB; have BK107 := n0_; have HB := n1_; clear n0_ n1_; (try clear hb); (try clear hb2); (try clear hk); (try clear hi)) | ((with_reducible refine gate_dst (N := 18) rfl ?_); refine Kd.R_make (Kd.int .i64) _ 3 rfl (N := 18) rfl 27 _ _ rfl t108 rfl rfl Try.underlying27 (.int .i64 0) 8 info3 rfl (by decide) (by omega) 0 (ok := fun _ => True) (okp := fun _ => True) rfl (fun _ hk => hk) trivial (od_) (Nat.le_trans (Nat.mul_le_mul_right _ (od_ : t108.toNat ≤ 35184372088832)) (by omega)) (Below.refl _ _) (Nat.le_refl _) ?_; intro v110 w12 ho13 hb hg_ hnew_; clear hg_ hnew_; (first | rw [← Ny109.out] at ho13 | (simp only [Int.reduceToNat] at ho13; rw [← Ny109.out] at ho13)); have n0_ := Aside0.mk (Kd.R_lower ho13 (below_size hb_)); have n1_ := Aside0.mk (blk_below (g := gb107) (o := .cells #[.int .i64 a0_0, .int .i64 a0_1, .int .i64 a0_2, .int .i64 a0_3] 98 (0, 0)) (bk_ BK107.out) hb); have n2_ := Aside0.mk (below_step hb_ hb); clear BK107; clear HB; have HO111 := n0_; have BK107 := n1_; have HB := n2_; clear n0_ n1_ n2_; clear hb ho13; have hcz14_0 : w12.cell? ⟨gb107, 0, none⟩ = some (.int .i64 a0_0) := (blk_cell BK107.out 0).trans rfl; have hcz14_1 : w12.cell? ⟨gb107, 1, none⟩ = some (.int .i64 a0_1) := (blk_cell BK107.out 1).trans rfl; have hcz14_2 : w12.cell? ⟨gb107, 2, none⟩ = some (.int .i64 a0_2) := (blk_cell BK107.out 2).trans rfl; have hcz14_3 : w12.cell? ⟨gb107, 3, none⟩ = some (.int .i64 a0_3) := (blk_cell BK107.out 3).trans rfl; have hfz14_0 := blk_frozen BK107.out 0; have hfz14_1 := blk_frozen BK107.out 1; have hfz14_2 := blk_frozen BK107.out 2; have hfz14_3 := blk_frozen BK107.out 3) | ((with_reducible refine gate_dst (N := 5) rfl ?_); refine box_event ?hg (N := 5) ?hd (cs := #[.int .i64 0, .int .i64 0, .int .i64 0]) (t := 33) ?hr ?_; (case hd => rfl); (case hg => rfl); (case hr => first | (go_simp; done) | (go_simp; rfl)); intro gb112 hg w15 hbox hb; have n0_ := Aside0.mk (Kd.R_below (rk_ HO111.out) hb); have n1_ := Aside0.mk (blk_below (g := gb107) (o := .cells #[.int .i64 a0_0, .int .i64 a0_1, .int .i64 a0_2, .int .i64 a0_3] 98 (0, 0)) (bk_ BK107.out) hb); have n2_ := Aside0.mk (below_step hb_ hb); have n3_ := Aside0.mk (hbox); have n4_ := Aside0.mk ((by rw [hg]; exact (below_size hb_) : w.heap.size ≤ gb112)); have n5_ := Aside0.mk ((by rw [hg]; exact (below_size hb_) : w.heap.size ≤ gb112)); have n6_ := Aside0.mk ((by rw [hg]; exact Nat.ne_of_lt (blk_lt (g := gb107) (o := .cells #[.int .i64 a0_0, .int .i64 a0_1, .int .i64 a0_2, .int .i64 a0_3] 98 (0, 0)) (bk_ BK107.out)) : gb107 ≠ gb112)); have n7_ := Aside0.mk ((by rw [hg]; exact Nat.ne_of_gt (blk_lt (g := gb107) (o := .cells #[.int .i64 a0_0, .int .i64 a0_1, .int .i64 a0_2, .int .i64 a0_3] 98 (0, 0)) (bk_ BK107.out)) : gb112 ≠ gb107)); clear HO111; clear BK107; clear HB; have HO111 := n0_; have BK107 := n1_; have HB := n2_; have BK112 := n3_; have GW112 := n4_; have GE112 := n5_; have NB107_112 := n6_; have NB112_107 := n7_; clear n0_ n1_ n2_ n3_ n4_ n5_ n6_ n7_; clear hb hbox hg; have hnb16 := NB112_107.out; have hnc16 := NB107_112.out; have hcz17_0 : w15.cell? ⟨gb112, 0, none⟩ = some (.int .i64 0) := (blk_cell BK112.out 0).trans rfl; have hcz17_1 : w15.cell? ⟨gb112, 1, none⟩ = some (.int .i64 0) := (blk_cell BK112.out 1).trans rfl; have hcz17_2 : w15.cell? ⟨gb112, 2, none⟩ = some (.int .i64 0) := (blk_cell BK112.out 2).trans rfl; have hfz17_0 := blk_frozen BK112.out 0; have hfz17_1 := blk_frozen BK112.out 1; have hfz17_2 := blk_frozen BK112.out 2; have hcz18_0 : w15.cell? ⟨gb107, 0, none⟩ = some (.int .i64 a0_0) := (blk_cell BK107.out 0).trans rfl; have hcz18_1 : w15.cell? ⟨gb107, 1, none⟩ = some (.int .i64 a0_1) := (blk_cell BK107.out 1).trans rfl; have hcz18_2 : w15.cell? ⟨gb107, 2, none⟩ = some (.int .i64 a0_2) := (blk_cell BK107.out 2).trans rfl; have hcz18_3 : w15.cell? ⟨gb107, 3, none⟩ = some (.int .i64 a0_3) := (blk_cell BK107.out 3).trans rfl; have hfz18_0 := blk_frozen BK107.out 0; have hfz18_1 := blk_frozen BK107.out 1; have hfz18_2 := blk_frozen BK107.out 2; have hfz18_3 := blk_frozen BK107.out 3) | (go_at_call 50; (with_reducible refine (mintime_space_of.calls a0_0 a0_1 a0_2 a0_3 a0_3 0 0 t113 t114 _ A5.out).mono ?_); rintro e w19 ⟨rfl, hb⟩; have n0_ := Aside0.mk (Kd.R_below (by (with_reducible repeat (first | apply Kd.R_alloc | apply Kd.R_drewN | apply Kd.R_drew)); exact (Kd.R_mono (Kd.R_far (p := ⟨gb112, 2, none⟩) (Kd.R_far (p := ⟨gb112, 1, none⟩) (Kd.R_far (p := ⟨gb112, 0, none⟩) (Kd.R_types HO111.out BK112.out (by decide)) (fun _ hk => hk.2) (.int .i64 a0_3)) (fun _ hk => hk.2) (.int .i64 0)) (fun _ hk => hk.2) (.int .i64 0)) (fun _ h_ => h_.1))) hb); have n1_ := Aside0.mk (blk_below (g := gb107) (o := .cells #[.int .i64 a0_0, .int .i64 a0_1, .int .i64 a0_2, .int .i64 a0_3] 98 (0, 0)) (by (with_reducible repeat (first | refine blk_drewN ?_ _ | refine blk_drew ?_ | refine blk_alloc ?_ _)); refine blk_far ?_ NB107_112.out _; (with_reducible repeat (first | refine blk_drewN ?_ _ | refine blk_drew ?_ | refine blk_alloc ?_ _)); refine blk_far ?_ NB107_112.out _; (with_reducible repeat (first | refine blk_drewN ?_ _ | refine blk_drew ?_ | refine blk_alloc ?_ _)); refine blk_far ?_ NB107_112.out _; (with_reducible repeat (first | refine blk_drewN ?_ _ | refine blk_drew ?_ | refine blk_alloc ?_ _)); exact BK107.out) hb); have n2_ := Aside0.mk (blk_below (g := gb112) (o := .cells #[.int .i64 a0_3, .int .i64 0, .int .i64 0] 33 (0, 0)) (by (with_reducible repeat (first | refine blk_drewN ?_ _ | refine blk_drew ?_ | refine blk_alloc ?_ _)); refine blk_put (cs := #[.int .i64 a0_3, .int .i64 0, .int .i64 0]) ?_ 2 _ rfl; (with_reducible repeat (first | refine blk_drewN ?_ _ | refine blk_drew ?_ | refine blk_alloc ?_ _)); refine blk_put (cs := #[.int .i64 a0_3, .int .i64 0, .int .i64 0]) ?_ 1 _ rfl; (with_reducible repeat (first | refine blk_drewN ?_ _ | refine blk_drew ?_ | refine blk_alloc ?_ _)); refine blk_put (cs := #[.int .i64 0, .int .i64 0, .int .i64 0]) ?_ 0 _ rfl; (with_reducible repeat (first | refine blk_drewN ?_ _ | refine blk_drew ?_ | refine blk_alloc ?_ _)); exact BK112.out) hb); have n3_ := Aside0.mk (below_step hb_ hb); clear HO111; clear BK107; clear BK112; clear HB; have HO111 := n0_; have BK107 := n1_; have BK112 := n2_; have HB := n3_; clear n0_ n1_ n2_ n3_; (try clear hb); (try clear hb2); (try clear hk); (try clear hi); have p8 : 0 ≤ (t113 : Int) := od_; have q8 : (t113 : Int) < ((y109.length : Int) : Int) := od_; obtain ⟨go8, co8, eo8, gb8, gl8, cl8, HG8⟩ := Kd.R_form HO111.out (by omega); (first | cases eo8 | (injection eo8 with ea_ en_ ec_; (first | subst ea_ | (injection ea_ with ea_; subst ea_)); subst ec_; clear en_)); have GB8 := Aside0.mk gb8; have GG8 := Aside0.mk HG8; clear gb8 gl8 HG8; obtain ⟨hx8_0, hf8_0⟩ := Kd.R_celln 0 HO111.out (t113 : Int) p8 q8; replace p8 := eq_true p8; replace q8 := eq_true q8; obtain ⟨hy20_, hz20_⟩ := Kd.R_celln 0 HO111.out (t113 : Int) (od_) (od_); have HP20 := Kd.R_putg HO111.out (t113 : Int) 1) | ((with_reducible refine gate_store (t := 3) (p := 32) rfl ?_); refine store_event (t := 3) (p := 32) (v := ?vo_w21) (w1 := (w19.setCell ⟨go8, (t113 : Int).toNat, none⟩ (.int .i64 1))) ?hg ?ho ?hn ?hr ?_; (case ho => rfl); (case hg => rfl); (case hn => rfl); (case hr => first | (go_simp; done) | (go_simp; rfl)); intro w21 hw; have hg : w19.grownBy w21 (some go8) := (by rw [hw]; exact HP20.2); have hp_ : Kd.R (Kd.int .i64) 3 w21 w.heap.size (fun _ => True) (.slice (some ⟨go8, 0, none⟩) y109.length co8) y115 := (by rw [hw, Ny115.out]; exact HP20.1); clear HP20; have n0_ := Aside0.mk (blk_grown (g := gb107) (o := .cells #[.int .i64 a0_0, .int .i64 a0_1, .int .i64 a0_2, .int .i64 a0_3] 98 (0, 0)) (bk_ BK107.out) hg (Kd.R_ne HO111.out BK107.out (by decide))); have n1_ := Aside0.mk (hp_); have n2_ := Aside0.mk (blk_grown (g := gb112) (o := .cells #[.int .i64 a0_3, .int .i64 0, .int .i64 0] 33 (0, 0)) (bk_ BK112.out) hg (Kd.R_ne HO111.out BK112.out (by decide))); have n3_ := Aside0.mk ((by rw [hw]; exact below_set (HB.out) GB8.out : Below w.heap.size w w21)); clear BK107; clear HO111; clear BK112; clear HB; have BK107 := n0_; have HO111 := n1_; have BK112 := n2_; have HB := n3_; clear n0_ n1_ n2_ n3_; clear hg hw hp_; have hcz22_0 : w21.cell? ⟨gb112, 0, none⟩ = some (.int .i64 a0_3) := (blk_cell BK112.out 0).trans rfl; have hcz22_1 : w21.cell? ⟨gb112, 1, none⟩ = some (.int .i64 0) := (blk_cell BK112.out 1).trans rfl; have hcz22_2 : w21.cell? ⟨gb112, 2, none⟩ = some (.int .i64 0) := (blk_cell BK112.out 2).trans rfl; have hfz22_0 := blk_frozen BK112.out 0; have hfz22_1 := blk_frozen BK112.out 1; have hfz22_2 := blk_frozen BK112.out 2) | ((with_reducible refine gate_dst (N := 34) rfl ?_); refine Kd.R_lit k33 _ 33 ?hg (N := 34) ?hd (xs := ([(⟨a0_3, 0, 0⟩ : S33)] : List (S33))) (inner := [.int .i64 a0_3, .int .i64 0, .int .i64 0]) (ok := fun _ => True) (okp := fun _ => True) ?hr ?hp (fun _ hk => hk) trivial (Below.refl _ _) (Nat.le_refl _) (by simp) ?_; (case hd => rfl); (case hg => rfl); (case hr => first | (go_simp; done) | (go_simp; rfl)); (case hp => exact (Reps.c3 (show Kd.M k33 _ _ _ (⟨a0_3, 0, 0⟩ : S33) [.int .i64 a0_3, .int .i64 0, .int .i64 0] from (k33_mkM _ _ _ (⟨a0_3, 0, 0⟩ : S33) )) (Reps.none _ _))); intro v117 w23 ho24 hb hg_ hnew_; clear hg_ hnew_; (first | rw [← Ny116.out] at ho24 | (simp only [Int.reduceToNat] at ho24; rw [← Ny116.out] at ho24)); have n0_ := Aside0.mk (Kd.R_below (rk_ HO111.out) hb); have n1_ := Aside0.mk (Kd.R_lower (Kd.R_newB ho24 (g := gb112) (o := .cells #[.int .i64 a0_3, .int .i64 0, .int .i64 0] 33 (0, 0)) (bk_ BK112.out)) (below_size hb_)); have n2_ := Aside0.mk (blk_below (g := gb107) (o := .cells #[.int .i64 a0_0, .int .i64 a0_1, .int .i64 a0_2, .int .i64 a0_3] 98 (0, 0)) (bk_ BK107.out) hb); have n3_ := Aside0.mk (blk_below (g := gb112) (o := .cells #[.int .i64 a0_3, .int .i64 0, .int .i64 0] 33 (0, 0)) (bk_ BK112.out) hb); have n4_ := Aside0.mk (below_step hb_ hb); clear HO111; clear BK107; clear BK112; clear HB; have HO111 := n0_; have HO118 := n1_; have BK107 := n2_; have BK112 := n3_; have HB := n4_; clear n0_ n1_ n2_ n3_ n4_; clear hb ho24))
     apply wp_label
     go_wp2
     go_loopg [8] k (fun kq v8 w' => ∃ (x3_1 : List Int) (x8_1 : List (S33)), Aside0 (mintime_space_left.l0 kq x3_1 x8_1 a0_0 a0_1 a0_2 a0_3 = some r) ∧ Aside0 (kq ≤ k) ∧ Aside0 (Kd.R (Kd.int .i64) 3 w' w.heap.size (fun _ => True) (.slice (some ⟨go8, 0, none⟩) y109.length co8) x3_1) ∧ Aside0 (Kd.Q k33 33 w' w.heap.size (fun k_ => k_ ≠ gb112) v8 x8_1) ∧ Aside0 (w'.heap[gb107]? = some (.cells #[.int .i64 a0_0, .int .i64 a0_1, .int .i64 a0_2, .int .i64 a0_3] 98 (0, 0))) ∧ Aside0 (w'.heap[gb112]? = some (.cells #[.int .i64 a0_3, .int .i64 0, .int .i64 0] 33 (0, 0))) ∧ Aside0 (Below w.heap.size w w'))
     case atStart => exact ⟨(y115), (y116), H', ⟨Nat.le_refl _⟩, ⟨by (with_reducible repeat (first | apply Kd.R_alloc | apply Kd.R_drewN | apply Kd.R_drew)); exact HO111.out⟩, ⟨Kd.Q_of_R (by (with_reducible repeat (first | apply Kd.R_alloc | apply Kd.R_drewN | apply Kd.R_drew)); exact Kd.R_mono HO118.out (fun _ hk => hk.2))⟩, ⟨by (with_reducible repeat (first | refine blk_drewN ?_ _ | refine blk_drew ?_ | refine blk_alloc ?_ _)); exact BK107.out⟩, ⟨by (with_reducible repeat (first | refine blk_drewN ?_ _ | refine blk_drew ?_ | refine blk_alloc ?_ _)); exact BK112.out⟩, ⟨by repeat (first | (with_reducible first | exact HB.out | apply below_alloc | apply pw_below_drewN | apply below_drew1 | refine below_set ?_ GE107.out | refine below_set ?_ GE112.out) | exact HB.out)⟩⟩
     case round =>
      clear H'
      try clear c1
      try clear p2
      try clear c3
      try clear c3b0
      try clear c3b1
      try clear c4
      try clear c4b0
      try clear c4b1
      try clear c5
      try clear c6
      try clear c6b0
      try clear c7
      try clear c7b0
      try clear p8
      try clear q8
      try clear hx8
      try clear hf8
      try clear c16
      try clear hcz10_0
      try clear hcz10_1
      try clear hcz10_2
      try clear hcz10_3
      try clear hcz14_0
      try clear hcz14_1
      try clear hcz14_2
      try clear hcz14_3
      try clear hcz17_0
      try clear hcz17_1
      try clear hcz17_2
      try clear hcz18_0
      try clear hcz18_1
      try clear hcz18_2
      try clear hcz18_3
      try clear hcz22_0
      try clear hcz22_1
      try clear hcz22_2
      try clear hfz10_0
      try clear hfz10_1
      try clear hfz10_2
      try clear hfz10_3
      try clear hfz14_0
      try clear hfz14_1
      try clear hfz14_2
      try clear hfz14_3
      try clear hfz17_0
      try clear hfz17_1
      try clear hfz17_2
      try clear hfz18_0
      try clear hfz18_1
      try clear hfz18_2
      try clear hfz18_3
      try clear hfz22_0
      try clear hfz22_1
      try clear hfz22_2
      try clear hx8_0
      try clear p8
      try clear q8
      obtain ⟨x3_1, x8_1, HA, HK1, HO_3, HO_8, BK107, BK112, HB⟩ := hrel
      have hl3_1 := (Kd.R_reads' HO_3.out).1
      rw [hl3_1] at HO_3
      (try simp only [hl3_1])
      (try simp only [hl3_1] at BK107)
      (try simp only [hl3_1] at BK112)
      (try simp only [hl3_1] at HO_8)
      cases gk with
      | zero => exact absurd HA.out (by simp [mintime_space_left.l0])
      | succ k1 =>
       have H := HA.out
       clear HA
       simp only [mintime_space_left.l0] at H
       by_cases c25 : (x8_1.length : Int) > 0
       ·
        rw [if_pos c25] at H
        have c25b0 : decide (0 < (x8_1.length : Int)) = true := decide_eq_true c25
        have c25b1 : decide (0 < x8_1.length) = true := decide_eq_true (by omega)
        clear c25
        by_cases c26 : 0 < (x8_1.length : Int)
        ·
         rw [if_pos c26] at H
         have c26b0 : decide (0 < (x8_1.length : Int)) = true := decide_eq_true c26
         have c26b1 : decide (0 < x8_1.length) = true := decide_eq_true (by omega)
         clear c26
         by_cases c27 : 1 ≤ (x8_1.length : Int)
         ·
          rw [if_pos c27] at H
          have c27b0 := eq_true c27
          have c27b1 : decide (1 ≤ (x8_1.length : Int)) = true := decide_eq_true c27
          clear c27
          obtain ⟨y121, hy121⟩ : ∃ y_ : List (S33), y_ = (x8_1.drop (1 : Int).toNat) := ⟨_, rfl⟩
          replace H : ((mintime_space_of.f a0_0 a0_1 a0_2 a0_3 ((rd_T33 x8_1 0).f0) ((rd_T33 x8_1 0).f1) ((rd_T33 x8_1 0).f2)).bind fun bt124 => (mintime_space_left.l1 k1 x3_1 y121 bt124.1 (wrap64 (-a0_2)) a0_0 a0_1 a0_2 a0_3 ((rd_T33 x8_1 0).f0) ((rd_T33 x8_1 0).f1) ((rd_T33 x8_1 0).f2))) = some r := by first | (rw [hy121]; with_reducible exact H) | (have H2_ := (Option.bind_some _ _).symm.trans H; rw [hy121]; with_reducible exact H2_) | (have H2_ := (Option.bind_some _ _).symm.trans H; with_reducible exact H2_) | with_reducible exact H | (rw [hy121]; exact H) | exact H
          have Ny121 := Aside0.mk hy121
          clear hy121
          replace H := Option.bind_eq_some_iff.mp H
          obtain ⟨⟨t124, t125⟩, A280, H⟩ := H
          replace H : (mintime_space_left.l1 k1 x3_1 y121 t124 (wrap64 (-a0_2)) a0_0 a0_1 a0_2 a0_3 ((rd_T33 x8_1 0).f0) ((rd_T33 x8_1 0).f1) ((rd_T33 x8_1 0).f2)) = some r := H
          have A28 := Aside0.mk A280
          clear A280
          have H' := Aside0.mk H
          clear H
          obtain ⟨Ao29, co29, eo29, _⟩ := Kd.Q_slice HO_8.out
          subst eo29
          have p119 : 0 ≤ (0 : Int) := (by omega)
          have q119 : 0 < (x8_1.length : Int) := od_
          obtain ⟨ad119, e119, hx119_0, hx119_1, hx119_2⟩ := at_T33 (Kd.Q_reads' HO_8.out).2.2 0 p119 q119
          cases e119
          have qi119 : (0 < x8_1.length) = True := eq_true (by omega)
          (try rw [show ((0 : Int)).toNat = 0 from rfl] at hx119_0)
          (try rw [show 0 * 3 = 0 from rfl] at hx119_0)
          (try rw [Addr.add_zero'] at hx119_0)
          (try rw [show ((0 : Int)).toNat = 0 from rfl] at hx119_1)
          (try rw [show 0 * 3 = 0 from rfl] at hx119_1)
          (try rw [Addr.add_zero'] at hx119_1)
          (try rw [show ((0 : Int)).toNat = 0 from rfl] at hx119_2)
          (try rw [show 0 * 3 = 0 from rfl] at hx119_2)
          (try rw [Addr.add_zero'] at hx119_2)
          replace p119 := eq_true p119
          replace q119 := eq_true q119
          go_wp2_with (first | ((with_reducible refine gate_dst (N := 9) rfl ?_); refine box_event ?hg (N := 9) ?hd (cs := #[.int .i64 0, .int .i64 0, .int .i64 0]) (t := 33) ?hr ?_; (case hd => rfl); (case hg => rfl); (case hr => first | (go_simp; done) | (go_simp; rfl)); intro gb120 hg w30 hbox hb; have n0_ := Aside0.mk (Kd.R_below (rk_ HO_3.out) hb); have n1_ := Aside0.mk (Kd.Q_below (Kd.Q_elderB (qk_ HO_8.out) gb120 (Nat.le_of_eq hg.symm)) hb); have n2_ := Aside0.mk (blk_below (g := gb107) (o := .cells #[.int .i64 a0_0, .int .i64 a0_1, .int .i64 a0_2, .int .i64 a0_3] 98 (0, 0)) (bk_ BK107.out) hb); have n3_ := Aside0.mk (blk_below (g := gb112) (o := .cells #[.int .i64 a0_3, .int .i64 0, .int .i64 0] 33 (0, 0)) (bk_ BK112.out) hb); have n4_ := Aside0.mk (below_step hb_ hb); have n5_ := Aside0.mk (hbox); have n6_ := Aside0.mk ((by rw [hg]; exact (below_size hb_) : w.heap.size ≤ gb120)); have n7_ := Aside0.mk ((by rw [hg]; exact (below_size hb_) : w.heap.size ≤ gb120)); have n8_ := Aside0.mk ((by rw [hg]; exact Nat.ne_of_lt (blk_lt (g := gb107) (o := .cells #[.int .i64 a0_0, .int .i64 a0_1, .int .i64 a0_2, .int .i64 a0_3] 98 (0, 0)) (bk_ BK107.out)) : gb107 ≠ gb120)); have n9_ := Aside0.mk ((by rw [hg]; exact Nat.ne_of_gt (blk_lt (g := gb107) (o := .cells #[.int .i64 a0_0, .int .i64 a0_1, .int .i64 a0_2, .int .i64 a0_3] 98 (0, 0)) (bk_ BK107.out)) : gb120 ≠ gb107)); have n10_ := Aside0.mk ((by rw [hg]; exact Nat.ne_of_lt (blk_lt (g := gb112) (o := .cells #[.int .i64 a0_3, .int .i64 0, .int .i64 0] 33 (0, 0)) (bk_ BK112.out)) : gb112 ≠ gb120)); have n11_ := Aside0.mk ((by rw [hg]; exact Nat.ne_of_gt (blk_lt (g := gb112) (o := .cells #[.int .i64 a0_3, .int .i64 0, .int .i64 0] 33 (0, 0)) (bk_ BK112.out)) : gb120 ≠ gb112)); clear HO_3; clear HO_8; clear BK107; clear BK112; clear HB; have HO_3 := n0_; have HO_8 := n1_; have BK107 := n2_; have BK112 := n3_; have HB := n4_; have BK120 := n5_; have GW120 := n6_; have GE120 := n7_; have NB107_120 := n8_; have NB120_107 := n9_; have NB112_120 := n10_; have NB120_112 := n11_; clear n0_ n1_ n2_ n3_ n4_ n5_ n6_ n7_ n8_ n9_ n10_ n11_; clear hb hbox hg; have hnb31 := NB120_107.out; have hnc31 := NB107_120.out; have hnb32 := NB120_112.out; have hnc32 := NB112_120.out; have hcz33_0 : w30.cell? ⟨gb120, 0, none⟩ = some (.int .i64 0) := (blk_cell BK120.out 0).trans rfl; have hcz33_1 : w30.cell? ⟨gb120, 1, none⟩ = some (.int .i64 0) := (blk_cell BK120.out 1).trans rfl; have hcz33_2 : w30.cell? ⟨gb120, 2, none⟩ = some (.int .i64 0) := (blk_cell BK120.out 2).trans rfl; have hfz33_0 := blk_frozen BK120.out 0; have hfz33_1 := blk_frozen BK120.out 1; have hfz33_2 := blk_frozen BK120.out 2) | ((with_reducible refine gate_store (t := 33) (p := 9) rfl ?_); refine store_event (t := 33) (p := 9) (v := ?vo_w34) (w1 := (((w30.setCell ⟨gb120, 0, none⟩ (.int .i64 ((rd_T33 x8_1 0).f0))).setCell ⟨gb120, 1, none⟩ (.int .i64 ((rd_T33 x8_1 0).f1))).setCell ⟨gb120, 2, none⟩ (.int .i64 ((rd_T33 x8_1 0).f2)))) ?hg ?ho ?hn ?hr ?_; (case ho => rfl); (case hg => rfl); (case hn => rfl); (case hr => first | (go_simp; done) | (go_simp; rfl)); intro w34 hw; have n0_ : Aside0 (Kd.R (Kd.int .i64) 3 w34 w.heap.size (fun _ => True) (.slice (some ⟨go8, 0, none⟩) x3_1.length co8) x3_1) := ⟨(by rw [hw]; exact (by (with_reducible repeat (first | apply Kd.R_alloc | apply Kd.R_drewN | apply Kd.R_drew)); exact Kd.R_mono (Kd.R_far (p := ⟨gb120, 2, none⟩) (Kd.R_far (p := ⟨gb120, 1, none⟩) (Kd.R_far (p := ⟨gb120, 0, none⟩) (Kd.R_types HO_3.out BK120.out (by decide)) (fun _ hk => hk.2) (.int .i64 ((rd_T33 x8_1 0).f0))) (fun _ hk => hk.2) (.int .i64 ((rd_T33 x8_1 0).f1))) (fun _ hk => hk.2) (.int .i64 ((rd_T33 x8_1 0).f2))) (fun _ hk => trivial)))⟩; have n1_ : Aside0 (Kd.Q k33 33 w34 w.heap.size (fun k_ => k_ ≠ gb112 ∧ k_ ≠ gb120) (.slice (some ad119) x8_1.length co29) x8_1) := ⟨(by rw [hw]; exact (by (with_reducible repeat (first | apply Kd.Q_alloc | apply Kd.Q_drewN | apply Kd.Q_drew)); exact Kd.Q_mono (Kd.Q_far (p := ⟨gb120, 2, none⟩) (Kd.Q_far (p := ⟨gb120, 1, none⟩) (Kd.Q_far (p := ⟨gb120, 0, none⟩) (Kd.Q_mono HO_8.out (fun k_ hk => (⟨hk, hk.2⟩ : _ ∧ k_ ≠ gb120))) (fun _ hk => hk.2) (.int .i64 ((rd_T33 x8_1 0).f0))) (fun _ hk => hk.2) (.int .i64 ((rd_T33 x8_1 0).f1))) (fun _ hk => hk.2) (.int .i64 ((rd_T33 x8_1 0).f2))) (fun _ hk => ⟨hk.1.1, hk.1.2⟩)))⟩; have n2_ : Aside0 (w34.heap[gb107]? = some (.cells #[.int .i64 a0_0, .int .i64 a0_1, .int .i64 a0_2, .int .i64 a0_3] 98 (0, 0))) := ⟨(by rw [hw]; exact (by (with_reducible repeat (first | refine blk_drewN ?_ _ | refine blk_drew ?_ | refine blk_alloc ?_ _)); refine blk_far ?_ NB107_120.out _; (with_reducible repeat (first | refine blk_drewN ?_ _ | refine blk_drew ?_ | refine blk_alloc ?_ _)); refine blk_far ?_ NB107_120.out _; (with_reducible repeat (first | refine blk_drewN ?_ _ | refine blk_drew ?_ | refine blk_alloc ?_ _)); refine blk_far ?_ NB107_120.out _; (with_reducible repeat (first | refine blk_drewN ?_ _ | refine blk_drew ?_ | refine blk_alloc ?_ _)); exact BK107.out))⟩; have n3_ : Aside0 (w34.heap[gb112]? = some (.cells #[.int .i64 a0_3, .int .i64 0, .int .i64 0] 33 (0, 0))) := ⟨(by rw [hw]; exact (by (with_reducible repeat (first | refine blk_drewN ?_ _ | refine blk_drew ?_ | refine blk_alloc ?_ _)); refine blk_far ?_ NB112_120.out _; (with_reducible repeat (first | refine blk_drewN ?_ _ | refine blk_drew ?_ | refine blk_alloc ?_ _)); refine blk_far ?_ NB112_120.out _; (with_reducible repeat (first | refine blk_drewN ?_ _ | refine blk_drew ?_ | refine blk_alloc ?_ _)); refine blk_far ?_ NB112_120.out _; (with_reducible repeat (first | refine blk_drewN ?_ _ | refine blk_drew ?_ | refine blk_alloc ?_ _)); exact BK112.out))⟩; have n4_ : Aside0 (w34.heap[gb120]? = some (.cells #[.int .i64 ((rd_T33 x8_1 0).f0), .int .i64 ((rd_T33 x8_1 0).f1), .int .i64 ((rd_T33 x8_1 0).f2)] 33 (0, 0))) := ⟨(by rw [hw]; exact (by (with_reducible repeat (first | refine blk_drewN ?_ _ | refine blk_drew ?_ | refine blk_alloc ?_ _)); refine blk_put (cs := #[.int .i64 ((rd_T33 x8_1 0).f0), .int .i64 ((rd_T33 x8_1 0).f1), .int .i64 0]) ?_ 2 _ rfl; (with_reducible repeat (first | refine blk_drewN ?_ _ | refine blk_drew ?_ | refine blk_alloc ?_ _)); refine blk_put (cs := #[.int .i64 ((rd_T33 x8_1 0).f0), .int .i64 0, .int .i64 0]) ?_ 1 _ rfl; (with_reducible repeat (first | refine blk_drewN ?_ _ | refine blk_drew ?_ | refine blk_alloc ?_ _)); refine blk_put (cs := #[.int .i64 0, .int .i64 0, .int .i64 0]) ?_ 0 _ rfl; (with_reducible repeat (first | refine blk_drewN ?_ _ | refine blk_drew ?_ | refine blk_alloc ?_ _)); exact BK120.out))⟩; have n5_ : Aside0 (Below w.heap.size w w34) := ⟨(by rw [hw]; exact hb_)⟩; clear hw; clear HO_3; clear HO_8; clear BK107; clear BK112; clear BK120; clear HB; have HO_3 := n0_; have HO_8 := n1_; have BK107 := n2_; have BK112 := n3_; have BK120 := n4_; have HB := n5_; clear n0_ n1_ n2_ n3_ n4_ n5_; have q35 : (1 : Int) ≤ ((x8_1.length : Int) : Int) := od_; obtain ⟨i035, hi035, _, hsz35, _⟩ := info_parts info33; have hcut35 := cut_from (P := Try.prog) 38 33 .i64 Try.underlying38 hi035 3 hsz35 (some ad119) x8_1.length co29 1 (by omega) q35; have hr35 := Kd.Q_drop (k := (1 : Int).toNat) HO_8.out (by omega); obtain ⟨A35, hA35⟩ : ∃ A1, A1 = (if co29 = (1 : Int).toNat then (some ad119) else ((some ad119) : Option Addr).map (·.add ((1 : Int).toNat * 3))) := ⟨_, rfl⟩; obtain ⟨c35, hc35⟩ : ∃ c1, c1 = co29 - (1 : Int).toNat := ⟨_, rfl⟩; have hy35 : y121.length = x8_1.length - (1 : Int).toNat := (by rw [Ny121.out, List.length_drop]); rw [← Ny121.out] at hr35; rw [← hy35, ← hA35, ← hc35] at hcut35; replace hr35 : Kd.Q k33 33 w34 w.heap.size (fun k_ => k_ ≠ gb112 ∧ k_ ≠ gb120) (.slice A35 y121.length c35) y121 := (by rw [hA35, hc35, hy35]; exact hr35); have HE35 : Aside0 ((Value.slice A35 y121.length c35).ownBlock = (.slice (some ad119) x8_1.length co29 : Value).ownBlock) := ⟨by rw [hA35]; split <;> (cases ((some ad119) : Option Addr) <;> rfl)⟩; clear hy35 hi035 hsz35 HO_8 hA35 hc35; have HO123 := Aside0.mk hr35; clear hr35; replace q35 := eq_true q35; have hnb36 := NB107_112.out; have hnc36 := NB112_107.out; have hcz37_0 : w34.cell? ⟨gb107, 0, none⟩ = some (.int .i64 a0_0) := (blk_cell BK107.out 0).trans rfl; have hcz37_1 : w34.cell? ⟨gb107, 1, none⟩ = some (.int .i64 a0_1) := (blk_cell BK107.out 1).trans rfl; have hcz37_2 : w34.cell? ⟨gb107, 2, none⟩ = some (.int .i64 a0_2) := (blk_cell BK107.out 2).trans rfl; have hcz37_3 : w34.cell? ⟨gb107, 3, none⟩ = some (.int .i64 a0_3) := (blk_cell BK107.out 3).trans rfl; have hfz37_0 := blk_frozen BK107.out 0; have hfz37_1 := blk_frozen BK107.out 1; have hfz37_2 := blk_frozen BK107.out 2; have hfz37_3 := blk_frozen BK107.out 3; have hcz38_0 : w34.cell? ⟨gb120, 0, none⟩ = some (.int .i64 ((rd_T33 x8_1 0).f0)) := (blk_cell BK120.out 0).trans rfl; have hcz38_1 : w34.cell? ⟨gb120, 1, none⟩ = some (.int .i64 ((rd_T33 x8_1 0).f1)) := (blk_cell BK120.out 1).trans rfl; have hcz38_2 : w34.cell? ⟨gb120, 2, none⟩ = some (.int .i64 ((rd_T33 x8_1 0).f2)) := (blk_cell BK120.out 2).trans rfl; have hfz38_0 := blk_frozen BK120.out 0; have hfz38_1 := blk_frozen BK120.out 1; have hfz38_2 := blk_frozen BK120.out 2) | (go_at_call 50; (with_reducible refine (mintime_space_of.calls a0_0 a0_1 a0_2 a0_3 ((rd_T33 x8_1 0).f0) ((rd_T33 x8_1 0).f1) ((rd_T33 x8_1 0).f2) t124 t125 _ A28.out).mono ?_); rintro e w39 ⟨rfl, hb⟩; have n0_ := Aside0.mk (Kd.R_below (rk_ HO_3.out) hb); have n1_ := Aside0.mk (Kd.Q_below (qk_ HO123.out) hb); have n2_ := Aside0.mk (blk_below (g := gb107) (o := .cells #[.int .i64 a0_0, .int .i64 a0_1, .int .i64 a0_2, .int .i64 a0_3] 98 (0, 0)) (bk_ BK107.out) hb); have n3_ := Aside0.mk (blk_below (g := gb112) (o := .cells #[.int .i64 a0_3, .int .i64 0, .int .i64 0] 33 (0, 0)) (bk_ BK112.out) hb); have n4_ := Aside0.mk (blk_below (g := gb120) (o := .cells #[.int .i64 ((rd_T33 x8_1 0).f0), .int .i64 ((rd_T33 x8_1 0).f1), .int .i64 ((rd_T33 x8_1 0).f2)] 33 (0, 0)) (bk_ BK120.out) hb); have n5_ := Aside0.mk (below_step hb_ hb); clear HO_3; clear HO123; clear BK107; clear BK112; clear BK120; clear HB; have HO_3 := n0_; have HO123 := n1_; have BK107 := n2_; have BK112 := n3_; have BK120 := n4_; have HB := n5_; clear n0_ n1_ n2_ n3_ n4_ n5_; (try clear hb); (try clear hb2); (try clear hk); (try clear hi); have hcz40_0 : w39.cell? ⟨gb107, 0, none⟩ = some (.int .i64 a0_0) := (blk_cell BK107.out 0).trans rfl; have hcz40_1 : w39.cell? ⟨gb107, 1, none⟩ = some (.int .i64 a0_1) := (blk_cell BK107.out 1).trans rfl; have hcz40_2 : w39.cell? ⟨gb107, 2, none⟩ = some (.int .i64 a0_2) := (blk_cell BK107.out 2).trans rfl; have hcz40_3 : w39.cell? ⟨gb107, 3, none⟩ = some (.int .i64 a0_3) := (blk_cell BK107.out 3).trans rfl; have hfz40_0 := blk_frozen BK107.out 0; have hfz40_1 := blk_frozen BK107.out 1; have hfz40_2 := blk_frozen BK107.out 2; have hfz40_3 := blk_frozen BK107.out 3))
          go_loopg [8, 12] k1 (fun kq v8 v12 w' => ∃ (x3_2 : List Int) (x8_2 : List (S33)) (x12_2 : Int), v12 = .int .i64 x12_2 ∧ Aside0 (mintime_space_left.l1 kq x3_2 x8_2 t124 x12_2 a0_0 a0_1 a0_2 a0_3 ((rd_T33 x8_1 0).f0) ((rd_T33 x8_1 0).f1) ((rd_T33 x8_1 0).f2) = some r) ∧ Aside0 (kq ≤ k1) ∧ Aside0 (Kd.R (Kd.int .i64) 3 w' w.heap.size (fun _ => True) (.slice (some ⟨go8, 0, none⟩) x3_1.length co8) x3_2) ∧ Aside0 (Kd.Q k33 33 w' w.heap.size (fun k_ => k_ ≠ gb112 ∧ k_ ≠ gb120) v8 x8_2) ∧ Aside0 (w'.heap[gb107]? = some (.cells #[.int .i64 a0_0, .int .i64 a0_1, .int .i64 a0_2, .int .i64 a0_3] 98 (0, 0))) ∧ Aside0 (w'.heap[gb112]? = some (.cells #[.int .i64 a0_3, .int .i64 0, .int .i64 0] 33 (0, 0))) ∧ Aside0 (w'.heap[gb120]? = some (.cells #[.int .i64 ((rd_T33 x8_1 0).f0), .int .i64 ((rd_T33 x8_1 0).f1), .int .i64 ((rd_T33 x8_1 0).f2)] 33 (0, 0))) ∧ Aside0 (Below w.heap.size w w'))
          case atStart => exact ⟨(x3_1), (y121), (wrap64 (-a0_2)), (by first | rfl | (simp; done) | (simp [*]; done)), H', ⟨Nat.le_refl _⟩, ⟨by (try simp only [hl3_1]); (with_reducible repeat (first | apply Kd.R_alloc | apply Kd.R_drewN | apply Kd.R_drew)); exact HO_3.out⟩, ⟨by (try simp only [hl3_1]); (with_reducible repeat (first | apply Kd.Q_alloc | apply Kd.Q_drewN | apply Kd.Q_drew)); exact HO123.out⟩, ⟨by (try simp only [hl3_1]); (with_reducible repeat (first | refine blk_drewN ?_ _ | refine blk_drew ?_ | refine blk_alloc ?_ _)); exact BK107.out⟩, ⟨by (try simp only [hl3_1]); (with_reducible repeat (first | refine blk_drewN ?_ _ | refine blk_drew ?_ | refine blk_alloc ?_ _)); exact BK112.out⟩, ⟨by (try simp only [hl3_1]); (with_reducible repeat (first | refine blk_drewN ?_ _ | refine blk_drew ?_ | refine blk_alloc ?_ _)); exact BK120.out⟩, ⟨by repeat (first | (with_reducible first | exact HB.out | apply below_alloc | apply pw_below_drewN | apply below_drew1 | refine below_set ?_ GE107.out | refine below_set ?_ GE112.out | refine below_set ?_ GE120.out) | exact HB.out)⟩⟩
          case round =>
           clear H'
           try clear c1
           try clear p1
           try clear q1
           try clear hx1
           try clear qi1
           try clear c2
           try clear p2
           try clear c3
           try clear c3b0
           try clear c3b1
           try clear q3
           try clear c4
           try clear c4b0
           try clear c4b1
           try clear c5
           try clear c6
           try clear c6b0
           try clear p6
           try clear c7
           try clear c7b0
           try clear p8
           try clear q8
           try clear hx8
           try clear hf8
           try clear p11
           try clear q11
           try clear hx11
           try clear qi11
           try clear c16
           try clear c25
           try clear c25b0
           try clear c25b1
           try clear c26
           try clear c26b0
           try clear c26b1
           try clear c27
           try clear c27b0
           try clear c27b1
           try clear c31
           try clear c32
           try clear c35
           try clear q35
           try clear c36
           try clear hcz10_0
           try clear hcz10_1
           try clear hcz10_2
           try clear hcz10_3
           try clear hcz14_0
           try clear hcz14_1
           try clear hcz14_2
           try clear hcz14_3
           try clear hcz17_0
           try clear hcz17_1
           try clear hcz17_2
           try clear hcz18_0
           try clear hcz18_1
           try clear hcz18_2
           try clear hcz18_3
           try clear hcz22_0
           try clear hcz22_1
           try clear hcz22_2
           try clear hcz33_0
           try clear hcz33_1
           try clear hcz33_2
           try clear hcz37_0
           try clear hcz37_1
           try clear hcz37_2
           try clear hcz37_3
           try clear hcz38_0
           try clear hcz38_1
           try clear hcz38_2
           try clear hcz40_0
           try clear hcz40_1
           try clear hcz40_2
           try clear hcz40_3
           try clear hfz10_0
           try clear hfz10_1
           try clear hfz10_2
           try clear hfz10_3
           try clear hfz14_0
           try clear hfz14_1
           try clear hfz14_2
           try clear hfz14_3
           try clear hfz17_0
           try clear hfz17_1
           try clear hfz17_2
           try clear hfz18_0
           try clear hfz18_1
           try clear hfz18_2
           try clear hfz18_3
           try clear hfz22_0
           try clear hfz22_1
           try clear hfz22_2
           try clear hfz33_0
           try clear hfz33_1
           try clear hfz33_2
           try clear hfz37_0
           try clear hfz37_1
           try clear hfz37_2
           try clear hfz37_3
           try clear hfz38_0
           try clear hfz38_1
           try clear hfz38_2
           try clear hfz40_0
           try clear hfz40_1
           try clear hfz40_2
           try clear hfz40_3
           try clear hx119_0
           try clear hx119_1
           try clear hx119_2
           try clear hx8_0
           try clear p119
           try clear p2
           try clear p8
           try clear q119
           try clear q35
           try clear q8
           obtain ⟨x3_2, x8_2, x12_2, rfl, HA, HK2, HO_3, HO_8, BK107, BK112, BK120, HB⟩ := hrel
           have hl3_2 := (Kd.R_reads' HO_3.out).1
           rw [hl3_2] at HO_3
           (try simp only [hl3_2])
           (try simp only [hl3_2] at BK107)
           (try simp only [hl3_2] at BK112)
           (try simp only [hl3_2] at BK120)
           (try simp only [hl3_2] at HO_8)
           cases gk with
           | zero => exact absurd HA.out (by simp [mintime_space_left.l1])
           | succ k2 =>
            have H := HA.out
            clear HA
            simp only [mintime_space_left.l1] at H
            by_cases c41 : x12_2 ≤ a0_2
            ·
             rw [if_pos c41] at H
             have c41b0 : decide (x12_2 ≤ a0_2) = true := decide_eq_true c41
             clear c41
             replace H := Option.bind_eq_some_iff.mp H
             obtain ⟨⟨t126, t127, t128⟩, A420, H⟩ := H
             replace H : ((mintime_space_of.f a0_0 a0_1 a0_2 a0_3 t126 t127 t128).bind fun bt130 => (if bt130.2 = true then (if 0 ≤ bt130.1 then (if bt130.1 < (x3_2.length : Int) then (mintime_space_left.j2 k2 x3_2 x8_2 t124 x12_2 bt130.1 (decide ((rd x3_2 bt130.1) > 0)) a0_0 a0_1 a0_2 a0_3 ((rd_T33 x8_1 0).f0) ((rd_T33 x8_1 0).f1) ((rd_T33 x8_1 0).f2) t126 t127 t128) else (none)) else (none)) else (mintime_space_left.j2 k2 x3_2 x8_2 t124 x12_2 bt130.1 true a0_0 a0_1 a0_2 a0_3 ((rd_T33 x8_1 0).f0) ((rd_T33 x8_1 0).f1) ((rd_T33 x8_1 0).f2) t126 t127 t128))) = some r := H
             have A42 := Aside0.mk A420
             clear A420
             replace H := Option.bind_eq_some_iff.mp H
             obtain ⟨⟨t130, t131⟩, A430, H⟩ := H
             replace H : (if t131 = true then (if 0 ≤ t130 then (if t130 < (x3_2.length : Int) then (mintime_space_left.j2 k2 x3_2 x8_2 t124 x12_2 t130 (decide ((rd x3_2 t130) > 0)) a0_0 a0_1 a0_2 a0_3 ((rd_T33 x8_1 0).f0) ((rd_T33 x8_1 0).f1) ((rd_T33 x8_1 0).f2) t126 t127 t128) else (none)) else (none)) else (mintime_space_left.j2 k2 x3_2 x8_2 t124 x12_2 t130 true a0_0 a0_1 a0_2 a0_3 ((rd_T33 x8_1 0).f0) ((rd_T33 x8_1 0).f1) ((rd_T33 x8_1 0).f2) t126 t127 t128)) = some r := H
             have A43 := Aside0.mk A430
             clear A430
             have HC44 := Aside0.mk H
             clear H
             have hnb45 := NB107_112.out
             have hnc45 := NB112_107.out
             have hnb46 := NB107_120.out
             have hnc46 := NB120_107.out
             have hcz47_0 : wr.cell? ⟨gb107, 0, none⟩ = some (.int .i64 a0_0) := (blk_cell BK107.out 0).trans rfl
             have hcz47_1 : wr.cell? ⟨gb107, 1, none⟩ = some (.int .i64 a0_1) := (blk_cell BK107.out 1).trans rfl
             have hcz47_2 : wr.cell? ⟨gb107, 2, none⟩ = some (.int .i64 a0_2) := (blk_cell BK107.out 2).trans rfl
             have hcz47_3 : wr.cell? ⟨gb107, 3, none⟩ = some (.int .i64 a0_3) := (blk_cell BK107.out 3).trans rfl
             have hfz47_0 := blk_frozen BK107.out 0
             have hfz47_1 := blk_frozen BK107.out 1
             have hfz47_2 := blk_frozen BK107.out 2
             have hfz47_3 := blk_frozen BK107.out 3
             have hnb48 := NB120_112.out
             have hnc48 := NB112_120.out
             have hcz49_0 : wr.cell? ⟨gb120, 0, none⟩ = some (.int .i64 ((rd_T33 x8_1 0).f0)) := (blk_cell BK120.out 0).trans rfl
             have hcz49_1 : wr.cell? ⟨gb120, 1, none⟩ = some (.int .i64 ((rd_T33 x8_1 0).f1)) := (blk_cell BK120.out 1).trans rfl
             have hcz49_2 : wr.cell? ⟨gb120, 2, none⟩ = some (.int .i64 ((rd_T33 x8_1 0).f2)) := (blk_cell BK120.out 2).trans rfl
             have hfz49_0 := blk_frozen BK120.out 0
             have hfz49_1 := blk_frozen BK120.out 1
             have hfz49_2 := blk_frozen BK120.out 2
             go_upto_region 16 with (first | ((with_reducible refine gate_callee (f := 75) rfl ?_); refine goesL_ (some 62) rfl rfl Try.func75 (by kernel_rfl) rfl #[.agg #[.int .i64 ((rd_T33 x8_1 0).f0), .int .i64 ((rd_T33 x8_1 0).f1), .int .i64 ((rd_T33 x8_1 0).f2)], .int .i64 x12_2] rfl (by (try simp only [List.map_toArray, List.map_cons, List.map_nil]); first | done | rfl | (simp only [List.length_drop, List.length_take]; rfl)) ?_; (with_reducible refine (mintime_ahead.calls ((rd_T33 x8_1 0).f0) ((rd_T33 x8_1 0).f1) ((rd_T33 x8_1 0).f2) x12_2 t126 t127 t128 _ A42.out).mono ?_); rintro e w50 ⟨rfl, hb⟩; refine ⟨_, rfl, ?_⟩; have n0_ := Aside0.mk (Kd.R_below (rk_ HO_3.out) hb); have n1_ := Aside0.mk (Kd.Q_below (qk_ HO_8.out) hb); have n2_ := Aside0.mk (blk_below (g := gb107) (o := .cells #[.int .i64 a0_0, .int .i64 a0_1, .int .i64 a0_2, .int .i64 a0_3] 98 (0, 0)) (bk_ BK107.out) hb); have n3_ := Aside0.mk (blk_below (g := gb112) (o := .cells #[.int .i64 a0_3, .int .i64 0, .int .i64 0] 33 (0, 0)) (bk_ BK112.out) hb); have n4_ := Aside0.mk (blk_below (g := gb120) (o := .cells #[.int .i64 ((rd_T33 x8_1 0).f0), .int .i64 ((rd_T33 x8_1 0).f1), .int .i64 ((rd_T33 x8_1 0).f2)] 33 (0, 0)) (bk_ BK120.out) hb); have n5_ := Aside0.mk (below_step hb_ hb); clear HO_3; clear HO_8; clear BK107; clear BK112; clear BK120; clear HB; have HO_3 := n0_; have HO_8 := n1_; have BK107 := n2_; have BK112 := n3_; have BK120 := n4_; have HB := n5_; clear n0_ n1_ n2_ n3_ n4_ n5_; (try clear hb); (try clear hb2); (try clear hk); (try clear hi)) | ((with_reducible refine gate_dst (N := 13) rfl ?_); refine box_event ?hg (N := 13) ?hd (cs := #[.int .i64 0, .int .i64 0, .int .i64 0]) (t := 33) ?hr ?_; (case hd => rfl); (case hg => rfl); (case hr => first | (go_simp; done) | (go_simp; rfl)); intro gb129 hg w51 hbox hb; have n0_ := Aside0.mk (Kd.R_below (rk_ HO_3.out) hb); have n1_ := Aside0.mk (Kd.Q_below (Kd.Q_elderB (qk_ HO_8.out) gb129 (Nat.le_of_eq hg.symm)) hb); have n2_ := Aside0.mk (blk_below (g := gb107) (o := .cells #[.int .i64 a0_0, .int .i64 a0_1, .int .i64 a0_2, .int .i64 a0_3] 98 (0, 0)) (bk_ BK107.out) hb); have n3_ := Aside0.mk (blk_below (g := gb112) (o := .cells #[.int .i64 a0_3, .int .i64 0, .int .i64 0] 33 (0, 0)) (bk_ BK112.out) hb); have n4_ := Aside0.mk (blk_below (g := gb120) (o := .cells #[.int .i64 ((rd_T33 x8_1 0).f0), .int .i64 ((rd_T33 x8_1 0).f1), .int .i64 ((rd_T33 x8_1 0).f2)] 33 (0, 0)) (bk_ BK120.out) hb); have n5_ := Aside0.mk (below_step hb_ hb); have n6_ := Aside0.mk (hbox); have n7_ := Aside0.mk ((by rw [hg]; exact (below_size hb_) : w.heap.size ≤ gb129)); have n8_ := Aside0.mk ((by rw [hg]; exact (below_size hb_) : w.heap.size ≤ gb129)); have n9_ := Aside0.mk ((by rw [hg]; exact Nat.ne_of_lt (blk_lt (g := gb107) (o := .cells #[.int .i64 a0_0, .int .i64 a0_1, .int .i64 a0_2, .int .i64 a0_3] 98 (0, 0)) (bk_ BK107.out)) : gb107 ≠ gb129)); have n10_ := Aside0.mk ((by rw [hg]; exact Nat.ne_of_gt (blk_lt (g := gb107) (o := .cells #[.int .i64 a0_0, .int .i64 a0_1, .int .i64 a0_2, .int .i64 a0_3] 98 (0, 0)) (bk_ BK107.out)) : gb129 ≠ gb107)); have n11_ := Aside0.mk ((by rw [hg]; exact Nat.ne_of_lt (blk_lt (g := gb112) (o := .cells #[.int .i64 a0_3, .int .i64 0, .int .i64 0] 33 (0, 0)) (bk_ BK112.out)) : gb112 ≠ gb129)); have n12_ := Aside0.mk ((by rw [hg]; exact Nat.ne_of_gt (blk_lt (g := gb112) (o := .cells #[.int .i64 a0_3, .int .i64 0, .int .i64 0] 33 (0, 0)) (bk_ BK112.out)) : gb129 ≠ gb112)); have n13_ := Aside0.mk ((by rw [hg]; exact Nat.ne_of_lt (blk_lt (g := gb120) (o := .cells #[.int .i64 ((rd_T33 x8_1 0).f0), .int .i64 ((rd_T33 x8_1 0).f1), .int .i64 ((rd_T33 x8_1 0).f2)] 33 (0, 0)) (bk_ BK120.out)) : gb120 ≠ gb129)); have n14_ := Aside0.mk ((by rw [hg]; exact Nat.ne_of_gt (blk_lt (g := gb120) (o := .cells #[.int .i64 ((rd_T33 x8_1 0).f0), .int .i64 ((rd_T33 x8_1 0).f1), .int .i64 ((rd_T33 x8_1 0).f2)] 33 (0, 0)) (bk_ BK120.out)) : gb129 ≠ gb120)); clear HO_3; clear HO_8; clear BK107; clear BK112; clear BK120; clear HB; have HO_3 := n0_; have HO_8 := n1_; have BK107 := n2_; have BK112 := n3_; have BK120 := n4_; have HB := n5_; have BK129 := n6_; have GW129 := n7_; have GE129 := n8_; have NB107_129 := n9_; have NB129_107 := n10_; have NB112_129 := n11_; have NB129_112 := n12_; have NB120_129 := n13_; have NB129_120 := n14_; clear n0_ n1_ n2_ n3_ n4_ n5_ n6_ n7_ n8_ n9_ n10_ n11_ n12_ n13_ n14_; clear hb hbox hg; have hnb52 := NB129_107.out; have hnc52 := NB107_129.out; have hnb53 := NB129_112.out; have hnc53 := NB112_129.out; have hnb54 := NB129_120.out; have hnc54 := NB120_129.out; have hcz55_0 : w51.cell? ⟨gb129, 0, none⟩ = some (.int .i64 0) := (blk_cell BK129.out 0).trans rfl; have hcz55_1 : w51.cell? ⟨gb129, 1, none⟩ = some (.int .i64 0) := (blk_cell BK129.out 1).trans rfl; have hcz55_2 : w51.cell? ⟨gb129, 2, none⟩ = some (.int .i64 0) := (blk_cell BK129.out 2).trans rfl; have hfz55_0 := blk_frozen BK129.out 0; have hfz55_1 := blk_frozen BK129.out 1; have hfz55_2 := blk_frozen BK129.out 2; have hcz56_0 : w51.cell? ⟨gb107, 0, none⟩ = some (.int .i64 a0_0) := (blk_cell BK107.out 0).trans rfl; have hcz56_1 : w51.cell? ⟨gb107, 1, none⟩ = some (.int .i64 a0_1) := (blk_cell BK107.out 1).trans rfl; have hcz56_2 : w51.cell? ⟨gb107, 2, none⟩ = some (.int .i64 a0_2) := (blk_cell BK107.out 2).trans rfl; have hcz56_3 : w51.cell? ⟨gb107, 3, none⟩ = some (.int .i64 a0_3) := (blk_cell BK107.out 3).trans rfl; have hfz56_0 := blk_frozen BK107.out 0; have hfz56_1 := blk_frozen BK107.out 1; have hfz56_2 := blk_frozen BK107.out 2; have hfz56_3 := blk_frozen BK107.out 3) | (go_at_call 50; (with_reducible refine (mintime_space_of.calls a0_0 a0_1 a0_2 a0_3 t126 t127 t128 t130 t131 _ A43.out).mono ?_); rintro e w57 ⟨rfl, hb⟩; have n0_ := Aside0.mk (Kd.R_below (by (with_reducible repeat (first | apply Kd.R_alloc | apply Kd.R_drewN | apply Kd.R_drew)); exact (Kd.R_mono (Kd.R_far (p := ⟨gb129, 2, none⟩) (Kd.R_far (p := ⟨gb129, 1, none⟩) (Kd.R_far (p := ⟨gb129, 0, none⟩) (Kd.R_types HO_3.out BK129.out (by decide)) (fun _ hk => hk.2) (.int .i64 t126)) (fun _ hk => hk.2) (.int .i64 t127)) (fun _ hk => hk.2) (.int .i64 t128)) (fun _ h_ => h_.1))) hb); have n1_ := Aside0.mk (Kd.Q_below (by (with_reducible repeat (first | apply Kd.Q_alloc | apply Kd.Q_drewN | apply Kd.Q_drew)); exact (Kd.Q_mono (Kd.Q_far (p := ⟨gb129, 2, none⟩) (Kd.Q_far (p := ⟨gb129, 1, none⟩) (Kd.Q_far (p := ⟨gb129, 0, none⟩) (Kd.Q_mono HO_8.out (fun k_ hk => (⟨hk, hk.2⟩ : _ ∧ k_ ≠ gb129))) (fun _ hk => hk.2) (.int .i64 t126)) (fun _ hk => hk.2) (.int .i64 t127)) (fun _ hk => hk.2) (.int .i64 t128)) (fun _ h_ => h_.1))) hb); have n2_ := Aside0.mk (blk_below (g := gb107) (o := .cells #[.int .i64 a0_0, .int .i64 a0_1, .int .i64 a0_2, .int .i64 a0_3] 98 (0, 0)) (by (with_reducible repeat (first | refine blk_drewN ?_ _ | refine blk_drew ?_ | refine blk_alloc ?_ _)); refine blk_far ?_ NB107_129.out _; (with_reducible repeat (first | refine blk_drewN ?_ _ | refine blk_drew ?_ | refine blk_alloc ?_ _)); refine blk_far ?_ NB107_129.out _; (with_reducible repeat (first | refine blk_drewN ?_ _ | refine blk_drew ?_ | refine blk_alloc ?_ _)); refine blk_far ?_ NB107_129.out _; (with_reducible repeat (first | refine blk_drewN ?_ _ | refine blk_drew ?_ | refine blk_alloc ?_ _)); exact BK107.out) hb); have n3_ := Aside0.mk (blk_below (g := gb112) (o := .cells #[.int .i64 a0_3, .int .i64 0, .int .i64 0] 33 (0, 0)) (by (with_reducible repeat (first | refine blk_drewN ?_ _ | refine blk_drew ?_ | refine blk_alloc ?_ _)); refine blk_far ?_ NB112_129.out _; (with_reducible repeat (first | refine blk_drewN ?_ _ | refine blk_drew ?_ | refine blk_alloc ?_ _)); refine blk_far ?_ NB112_129.out _; (with_reducible repeat (first | refine blk_drewN ?_ _ | refine blk_drew ?_ | refine blk_alloc ?_ _)); refine blk_far ?_ NB112_129.out _; (with_reducible repeat (first | refine blk_drewN ?_ _ | refine blk_drew ?_ | refine blk_alloc ?_ _)); exact BK112.out) hb); have n4_ := Aside0.mk (blk_below (g := gb120) (o := .cells #[.int .i64 ((rd_T33 x8_1 0).f0), .int .i64 ((rd_T33 x8_1 0).f1), .int .i64 ((rd_T33 x8_1 0).f2)] 33 (0, 0)) (by (with_reducible repeat (first | refine blk_drewN ?_ _ | refine blk_drew ?_ | refine blk_alloc ?_ _)); refine blk_far ?_ NB120_129.out _; (with_reducible repeat (first | refine blk_drewN ?_ _ | refine blk_drew ?_ | refine blk_alloc ?_ _)); refine blk_far ?_ NB120_129.out _; (with_reducible repeat (first | refine blk_drewN ?_ _ | refine blk_drew ?_ | refine blk_alloc ?_ _)); refine blk_far ?_ NB120_129.out _; (with_reducible repeat (first | refine blk_drewN ?_ _ | refine blk_drew ?_ | refine blk_alloc ?_ _)); exact BK120.out) hb); have n5_ := Aside0.mk (blk_below (g := gb129) (o := .cells #[.int .i64 t126, .int .i64 t127, .int .i64 t128] 33 (0, 0)) (by (with_reducible repeat (first | refine blk_drewN ?_ _ | refine blk_drew ?_ | refine blk_alloc ?_ _)); refine blk_put (cs := #[.int .i64 t126, .int .i64 t127, .int .i64 0]) ?_ 2 _ rfl; (with_reducible repeat (first | refine blk_drewN ?_ _ | refine blk_drew ?_ | refine blk_alloc ?_ _)); refine blk_put (cs := #[.int .i64 t126, .int .i64 0, .int .i64 0]) ?_ 1 _ rfl; (with_reducible repeat (first | refine blk_drewN ?_ _ | refine blk_drew ?_ | refine blk_alloc ?_ _)); refine blk_put (cs := #[.int .i64 0, .int .i64 0, .int .i64 0]) ?_ 0 _ rfl; (with_reducible repeat (first | refine blk_drewN ?_ _ | refine blk_drew ?_ | refine blk_alloc ?_ _)); exact BK129.out) hb); have n6_ := Aside0.mk (below_step hb_ hb); clear HO_3; clear HO_8; clear BK107; clear BK112; clear BK120; clear BK129; clear HB; have HO_3 := n0_; have HO_8 := n1_; have BK107 := n2_; have BK112 := n3_; have BK120 := n4_; have BK129 := n5_; have HB := n6_; clear n0_ n1_ n2_ n3_ n4_ n5_ n6_; (try clear hb); (try clear hb2); (try clear hk); (try clear hi)))
             (try simp only [Act.put, List.setIfInBounds_toArray, List.set_cons_zero, List.set_cons_succ])
             go_cut [77] (fun v77 wc => ∃ (kq : Nat) (x77_43 : Bool), v77 = .bool x77_43 ∧ Aside0 (mintime_space_left.j2 kq x3_2 x8_2 t124 x12_2 t130 x77_43 a0_0 a0_1 a0_2 a0_3 ((rd_T33 x8_1 0).f0) ((rd_T33 x8_1 0).f1) ((rd_T33 x8_1 0).f2) t126 t127 t128 = some r) ∧ Aside0 (kq ≤ k2) ∧ Aside0 (Kd.R (Kd.int .i64) 3 wc w.heap.size (fun _ => True) (.slice (some ⟨go8, 0, none⟩) x3_2.length co8) x3_2) ∧ Aside0 (Kd.Q k33 33 wc w.heap.size (fun k_ => k_ ≠ gb112 ∧ k_ ≠ gb120 ∧ k_ ≠ gb129) u8 x8_2) ∧ Aside0 (wc.heap[gb107]? = some (.cells #[.int .i64 a0_0, .int .i64 a0_1, .int .i64 a0_2, .int .i64 a0_3] 98 (0, 0))) ∧ Aside0 (wc.heap[gb112]? = some (.cells #[.int .i64 a0_3, .int .i64 0, .int .i64 0] 33 (0, 0))) ∧ Aside0 (wc.heap[gb120]? = some (.cells #[.int .i64 ((rd_T33 x8_1 0).f0), .int .i64 ((rd_T33 x8_1 0).f1), .int .i64 ((rd_T33 x8_1 0).f2)] 33 (0, 0))) ∧ Aside0 (wc.heap[gb129]? = some (.cells #[.int .i64 t126, .int .i64 t127, .int .i64 t128] 33 (0, 0))) ∧ Aside0 (Below w.heap.size w wc))
             case first =>
              have H := HC44.out
              clear HC44
              by_cases c58 : t131 = true
              ·
               subst c58
               have H1 : (if 0 ≤ t130 then (if t130 < (x3_2.length : Int) then (mintime_space_left.j2 k2 x3_2 x8_2 t124 x12_2 t130 (decide ((rd x3_2 t130) > 0)) a0_0 a0_1 a0_2 a0_3 ((rd_T33 x8_1 0).f0) ((rd_T33 x8_1 0).f1) ((rd_T33 x8_1 0).f2) t126 t127 t128) else (none)) else (none)) = some r := by rw [if_pos rfl] at H; exact H
               clear H
               have H := H1
               clear H1
               by_cases c59 : 0 ≤ t130
               ·
                rw [if_pos c59] at H
                have c59b0 : decide (0 ≤ t130) = true := decide_eq_true c59
                clear c59
                (first | rw [c59b0] | (simp only [i64_w, i32_w]; rw [c59b0]) | skip)
                by_cases c60 : t130 < (x3_2.length : Int)
                ·
                 rw [if_pos c60] at H
                 have c60b0 : decide (t130 < (x3_2.length : Int)) = true := decide_eq_true c60
                 clear c60
                 have H' := Aside0.mk H
                 clear H
                 have p132 : 0 ≤ (t130 : Int) := od_
                 have q132 : t130 < (x3_2.length : Int) := od_
                 obtain ⟨ad132, e132, hx132_0⟩ := Kd.at_int (Kd.R_reads' HO_3.out).2.2 t130 p132 q132
                 obtain rfl : (⟨go8, 0, none⟩ : Addr) = ad132 := (by injection e132)
                 (first | simp only [add_plain] at hx132_0 | simp only [add_at] at hx132_0 | simp only [Addr.add, Nat.zero_add] at hx132_0 | skip)
                 replace p132 := eq_true p132
                 replace q132 := eq_true q132
                 go_wp2
                 go_meet
                 case rel => exact ⟨_, (decide ((rd x3_2 t130) > 0)), (by first | rfl | (simp; done) | (simp [*]; done)), H', ⟨by have := HK1.out; have := HK2.out; first | omega | exact Nat.le_refl _⟩, ⟨by (try simp only [hl3_1]); (try simp only [hl3_2]); (with_reducible repeat (first | apply Kd.R_alloc | apply Kd.R_drewN | apply Kd.R_drew)); exact HO_3.out⟩, ⟨by (try simp only [hl3_1]); (try simp only [hl3_2]); (with_reducible repeat (first | apply Kd.Q_alloc | apply Kd.Q_drewN | apply Kd.Q_drew)); exact Kd.Q_mono HO_8.out (fun _ hk => ⟨hk.1.1, ⟨hk.1.2, hk.2⟩⟩)⟩, ⟨by (try simp only [hl3_1]); (try simp only [hl3_2]); (with_reducible repeat (first | refine blk_drewN ?_ _ | refine blk_drew ?_ | refine blk_alloc ?_ _)); exact BK107.out⟩, ⟨by (try simp only [hl3_1]); (try simp only [hl3_2]); (with_reducible repeat (first | refine blk_drewN ?_ _ | refine blk_drew ?_ | refine blk_alloc ?_ _)); exact BK112.out⟩, ⟨by (try simp only [hl3_1]); (try simp only [hl3_2]); (with_reducible repeat (first | refine blk_drewN ?_ _ | refine blk_drew ?_ | refine blk_alloc ?_ _)); exact BK120.out⟩, ⟨by (try simp only [hl3_1]); (try simp only [hl3_2]); (with_reducible repeat (first | refine blk_drewN ?_ _ | refine blk_drew ?_ | refine blk_alloc ?_ _)); exact BK129.out⟩, ⟨by repeat (first | (with_reducible first | exact HB.out | apply below_alloc | apply pw_below_drewN | apply below_drew1 | refine below_set ?_ GE107.out | refine below_set ?_ GE112.out | refine below_set ?_ GE120.out | refine below_set ?_ GE129.out) | exact HB.out)⟩⟩
                ·
                 rw [if_neg c60] at H
                 exact absurd H (by simp)
               ·
                rw [if_neg c59] at H
                exact absurd H (by simp)
              ·
               replace c58 := Bool.eq_false_iff.mpr c58
               subst c58
               have H1 : (mintime_space_left.j2 k2 x3_2 x8_2 t124 x12_2 t130 true a0_0 a0_1 a0_2 a0_3 ((rd_T33 x8_1 0).f0) ((rd_T33 x8_1 0).f1) ((rd_T33 x8_1 0).f2) t126 t127 t128) = some r := by rw [if_neg (show ¬ (false = true) by decide)] at H; exact H
               clear H
               have H := H1
               clear H1
               have H' := Aside0.mk H
               clear H
               go_wp2
               go_meet
               case rel => exact ⟨_, (true), (by first | rfl | (simp; done) | (simp [*]; done)), H', ⟨by have := HK1.out; have := HK2.out; first | omega | exact Nat.le_refl _⟩, ⟨by (try simp only [hl3_1]); (try simp only [hl3_2]); (with_reducible repeat (first | apply Kd.R_alloc | apply Kd.R_drewN | apply Kd.R_drew)); exact HO_3.out⟩, ⟨by (try simp only [hl3_1]); (try simp only [hl3_2]); (with_reducible repeat (first | apply Kd.Q_alloc | apply Kd.Q_drewN | apply Kd.Q_drew)); exact Kd.Q_mono HO_8.out (fun _ hk => ⟨hk.1.1, ⟨hk.1.2, hk.2⟩⟩)⟩, ⟨by (try simp only [hl3_1]); (try simp only [hl3_2]); (with_reducible repeat (first | refine blk_drewN ?_ _ | refine blk_drew ?_ | refine blk_alloc ?_ _)); exact BK107.out⟩, ⟨by (try simp only [hl3_1]); (try simp only [hl3_2]); (with_reducible repeat (first | refine blk_drewN ?_ _ | refine blk_drew ?_ | refine blk_alloc ?_ _)); exact BK112.out⟩, ⟨by (try simp only [hl3_1]); (try simp only [hl3_2]); (with_reducible repeat (first | refine blk_drewN ?_ _ | refine blk_drew ?_ | refine blk_alloc ?_ _)); exact BK120.out⟩, ⟨by (try simp only [hl3_1]); (try simp only [hl3_2]); (with_reducible repeat (first | refine blk_drewN ?_ _ | refine blk_drew ?_ | refine blk_alloc ?_ _)); exact BK129.out⟩, ⟨by repeat (first | (with_reducible first | exact HB.out | apply below_alloc | apply pw_below_drewN | apply below_drew1 | refine below_set ?_ GE107.out | refine below_set ?_ GE112.out | refine below_set ?_ GE120.out | refine below_set ?_ GE129.out) | exact HB.out)⟩⟩
             case rest =>
              clear HC44
              try clear c1
              try clear p1
              try clear q1
              try clear hx1
              try clear qi1
              try clear c2
              try clear p2
              try clear c3
              try clear c3b0
              try clear c3b1
              try clear q3
              try clear c4
              try clear c4b0
              try clear c4b1
              try clear c5
              try clear c6
              try clear c6b0
              try clear p6
              try clear c7
              try clear c7b0
              try clear p8
              try clear q8
              try clear hx8
              try clear hf8
              try clear p11
              try clear q11
              try clear hx11
              try clear qi11
              try clear p13
              try clear q13
              try clear hx13
              try clear c16
              try clear c25
              try clear c25b0
              try clear c25b1
              try clear c26
              try clear c26b0
              try clear c26b1
              try clear c27
              try clear c27b0
              try clear c27b1
              try clear c31
              try clear c32
              try clear c35
              try clear q35
              try clear c36
              try clear c41
              try clear c41b0
              try clear c45
              try clear c46
              try clear c48
              try clear c49
              try clear c50
              try clear c52
              try clear c53
              try clear c54
              try clear c58
              try clear c59
              try clear c59b0
              try clear c60
              try clear c60b0
              try clear hcz10_0
              try clear hcz10_1
              try clear hcz10_2
              try clear hcz10_3
              try clear hcz14_0
              try clear hcz14_1
              try clear hcz14_2
              try clear hcz14_3
              try clear hcz17_0
              try clear hcz17_1
              try clear hcz17_2
              try clear hcz18_0
              try clear hcz18_1
              try clear hcz18_2
              try clear hcz18_3
              try clear hcz22_0
              try clear hcz22_1
              try clear hcz22_2
              try clear hcz33_0
              try clear hcz33_1
              try clear hcz33_2
              try clear hcz37_0
              try clear hcz37_1
              try clear hcz37_2
              try clear hcz37_3
              try clear hcz38_0
              try clear hcz38_1
              try clear hcz38_2
              try clear hcz40_0
              try clear hcz40_1
              try clear hcz40_2
              try clear hcz40_3
              try clear hcz47_0
              try clear hcz47_1
              try clear hcz47_2
              try clear hcz47_3
              try clear hcz49_0
              try clear hcz49_1
              try clear hcz49_2
              try clear hcz55_0
              try clear hcz55_1
              try clear hcz55_2
              try clear hcz56_0
              try clear hcz56_1
              try clear hcz56_2
              try clear hcz56_3
              try clear hfz10_0
              try clear hfz10_1
              try clear hfz10_2
              try clear hfz10_3
              try clear hfz14_0
              try clear hfz14_1
              try clear hfz14_2
              try clear hfz14_3
              try clear hfz17_0
              try clear hfz17_1
              try clear hfz17_2
              try clear hfz18_0
              try clear hfz18_1
              try clear hfz18_2
              try clear hfz18_3
              try clear hfz22_0
              try clear hfz22_1
              try clear hfz22_2
              try clear hfz33_0
              try clear hfz33_1
              try clear hfz33_2
              try clear hfz37_0
              try clear hfz37_1
              try clear hfz37_2
              try clear hfz37_3
              try clear hfz38_0
              try clear hfz38_1
              try clear hfz38_2
              try clear hfz40_0
              try clear hfz40_1
              try clear hfz40_2
              try clear hfz40_3
              try clear hfz47_0
              try clear hfz47_1
              try clear hfz47_2
              try clear hfz47_3
              try clear hfz49_0
              try clear hfz49_1
              try clear hfz49_2
              try clear hfz55_0
              try clear hfz55_1
              try clear hfz55_2
              try clear hfz56_0
              try clear hfz56_1
              try clear hfz56_2
              try clear hfz56_3
              try clear hx119_0
              try clear hx119_1
              try clear hx119_2
              try clear hx132_0
              try clear hx8_0
              try clear p1
              try clear p11
              try clear p119
              try clear p132
              try clear p2
              try clear p6
              try clear p8
              try clear q1
              try clear q11
              try clear q119
              try clear q132
              try clear q3
              try clear q35
              try clear q8
              obtain ⟨kq, x77_43, rfl, HA, HJ43, HO_3, HO_8, BK107, BK112, BK120, BK129, HB⟩ := hcut
              cases kq with
              | zero => exact absurd HA.out (by simp [mintime_space_left.j2])
              | succ kj43 =>
               have H := HA.out
               clear HA
               simp only [mintime_space_left.j2] at H
               by_cases c61 : x77_43 = true
               ·
                subst c61
                have H1 : (mintime_space_left.l1 kj43 x3_2 x8_2 t124 (wrap64 (x12_2 + 1)) a0_0 a0_1 a0_2 a0_3 ((rd_T33 x8_1 0).f0) ((rd_T33 x8_1 0).f1) ((rd_T33 x8_1 0).f2)) = some r := by rw [if_pos rfl] at H; exact H
                clear H
                have H := H1
                clear H1
                have H' := Aside0.mk H
                clear H
                go_wp2
                (try simp only [← hl3_2])
                go_roundg kj43
                case measure => have := HK1.out; have := HK2.out; have := HJ43.out; omega
                case rel => exact ⟨(x3_2), (x8_2), (wrap64 (x12_2 + 1)), (by first | rfl | (simp; done) | (simp [*]; done)), H', ⟨by have := HK1.out; have := HK2.out; have := HJ43.out; omega⟩, ⟨by (try simp only [hl3_1]); (try simp only [hl3_2]); (with_reducible repeat (first | apply Kd.R_alloc | apply Kd.R_drewN | apply Kd.R_drew)); exact HO_3.out⟩, ⟨by (try simp only [hl3_1]); (try simp only [hl3_2]); (with_reducible repeat (first | apply Kd.Q_alloc | apply Kd.Q_drewN | apply Kd.Q_drew)); exact Kd.Q_mono HO_8.out (fun _ hk => ⟨hk.1, hk.2.1⟩)⟩, ⟨by (try simp only [hl3_1]); (try simp only [hl3_2]); (with_reducible repeat (first | refine blk_drewN ?_ _ | refine blk_drew ?_ | refine blk_alloc ?_ _)); exact BK107.out⟩, ⟨by (try simp only [hl3_1]); (try simp only [hl3_2]); (with_reducible repeat (first | refine blk_drewN ?_ _ | refine blk_drew ?_ | refine blk_alloc ?_ _)); exact BK112.out⟩, ⟨by (try simp only [hl3_1]); (try simp only [hl3_2]); (with_reducible repeat (first | refine blk_drewN ?_ _ | refine blk_drew ?_ | refine blk_alloc ?_ _)); exact BK120.out⟩, ⟨by repeat (first | (with_reducible first | exact HB.out | apply below_alloc | apply pw_below_drewN | apply below_drew1 | refine below_set ?_ GE107.out | refine below_set ?_ GE112.out | refine below_set ?_ GE120.out | refine below_set ?_ GE129.out) | exact HB.out)⟩⟩
               ·
                replace c61 := Bool.eq_false_iff.mpr c61
                subst c61
                have H1 : (if 0 ≤ t124 then (if t124 < (x3_2.length : Int) then (if 0 ≤ t130 then (if t130 < (x3_2.length : Int) then ((some (x3_2.set (t130 : Int).toNat (wrap64 ((rd x3_2 t124) + 1)) : List Int)).bind fun y134 => (if (t126 == 0 && (t127 == 0 && (t128 == 0))) = true then (some y134) else (if x8_2.length < 5864062014805 then (mintime_space_left.l1 kj43 y134 (x8_2 ++ [(⟨t126, t127, t128⟩ : S33)]) t124 (wrap64 (x12_2 + 1)) a0_0 a0_1 a0_2 a0_3 ((rd_T33 x8_1 0).f0) ((rd_T33 x8_1 0).f1) ((rd_T33 x8_1 0).f2)) else (none)))) else (none)) else (none)) else (none)) else (none)) = some r := by rw [if_neg (show ¬ (false = true) by decide)] at H; exact H
                clear H
                have H := H1
                clear H1
                by_cases c62 : 0 ≤ t124
                ·
                 rw [if_pos c62] at H
                 have c62b0 : decide (0 ≤ t124) = true := decide_eq_true c62
                 clear c62
                 by_cases c63 : t124 < (x3_2.length : Int)
                 ·
                  rw [if_pos c63] at H
                  have c63b0 : decide (t124 < (x3_2.length : Int)) = true := decide_eq_true c63
                  clear c63
                  by_cases c64 : 0 ≤ t130
                  ·
                   rw [if_pos c64] at H
                   have c64b0 : decide (0 ≤ t130) = true := decide_eq_true c64
                   clear c64
                   by_cases c65 : t130 < (x3_2.length : Int)
                   ·
                    rw [if_pos c65] at H
                    have c65b0 : decide (t130 < (x3_2.length : Int)) = true := decide_eq_true c65
                    clear c65
                    obtain ⟨y134, hy134⟩ : ∃ y_ : List Int, y_ = (x3_2.set (t130 : Int).toNat (wrap64 ((rd x3_2 t124) + 1))) := ⟨_, rfl⟩
                    replace H : (if (t126 == 0 && (t127 == 0 && (t128 == 0))) = true then (some y134) else (if x8_2.length < 5864062014805 then (mintime_space_left.l1 kj43 y134 (x8_2 ++ [(⟨t126, t127, t128⟩ : S33)]) t124 (wrap64 (x12_2 + 1)) a0_0 a0_1 a0_2 a0_3 ((rd_T33 x8_1 0).f0) ((rd_T33 x8_1 0).f1) ((rd_T33 x8_1 0).f2)) else (none))) = some r := by first | (rw [hy134]; with_reducible exact H) | (have H2_ := (Option.bind_some _ _).symm.trans H; rw [hy134]; with_reducible exact H2_) | (have H2_ := (Option.bind_some _ _).symm.trans H; with_reducible exact H2_) | with_reducible exact H | (rw [hy134]; exact H) | exact H
                    have Ny134 := Aside0.mk hy134
                    clear hy134
                    by_cases c67 : (t126 == 0 && (t127 == 0 && (t128 == 0))) = true
                    ·
                     rw [if_pos c67] at H
                     have c67b0 : (t126 == 0 && (t127 == 0 && (t128 == 0))) = true := c67
                     clear c67
                     obtain rfl := Option.some.inj H
                     have p133 : 0 ≤ (t124 : Int) := od_
                     have q133 : t124 < (x3_2.length : Int) := od_
                     obtain ⟨ad133, e133, hx133_0⟩ := Kd.at_int (Kd.R_reads' HO_3.out).2.2 t124 p133 q133
                     obtain rfl : (⟨go8, 0, none⟩ : Addr) = ad133 := (by injection e133)
                     (first | simp only [add_plain] at hx133_0 | simp only [add_at] at hx133_0 | simp only [Addr.add, Nat.zero_add] at hx133_0 | skip)
                     replace p133 := eq_true p133
                     replace q133 := eq_true q133
                     have p66 : 0 ≤ (t130 : Int) := od_
                     have q66 : (t130 : Int) < ((x3_2.length : Int) : Int) := od_
                     obtain ⟨hx66_0, hf66_0⟩ := Kd.R_celln 0 HO_3.out (t130 : Int) p66 q66
                     replace p66 := eq_true p66
                     replace q66 := eq_true q66
                     have HP68 := Kd.R_putg HO_3.out (t130 : Int) (wrap64 ((rd x3_2 t124) + 1))
                     go_wp2_with (first | ((with_reducible refine gate_store (t := 3) (p := 85) rfl ?_); refine store_event (t := 3) (p := 85) (v := ?vo_w69) (w1 := (wc.setCell ⟨go8, (t130 : Int).toNat, none⟩ (.int .i64 (wrap64 ((rd x3_2 t124) + 1))))) ?hg ?ho ?hn ?hr ?_; (case ho => rfl); (case hg => rfl); (case hn => rfl); (case hr => first | (go_simp; done) | (go_simp; rfl)); intro w69 hw; have hg : wc.grownBy w69 (some go8) := (by rw [hw]; exact HP68.2); have hp_ : Kd.R (Kd.int .i64) 3 w69 w.heap.size (fun _ => True) (.slice (some ⟨go8, 0, none⟩) x3_2.length co8) y134 := (by rw [hw, Ny134.out]; exact HP68.1); clear HP68; have n0_ := Aside0.mk (hp_); have n1_ := Aside0.mk (Kd.Q_over' (v := (.slice (some ⟨go8, 0, none⟩) x3_2.length co8)) (qk_ HO_8.out) (Kd.R_typed HO_3.out) (by decide) hg); have n2_ := Aside0.mk (blk_grown (g := gb107) (o := .cells #[.int .i64 a0_0, .int .i64 a0_1, .int .i64 a0_2, .int .i64 a0_3] 98 (0, 0)) (bk_ BK107.out) hg (Kd.R_ne HO_3.out BK107.out (by decide))); have n3_ := Aside0.mk (blk_grown (g := gb112) (o := .cells #[.int .i64 a0_3, .int .i64 0, .int .i64 0] 33 (0, 0)) (bk_ BK112.out) hg (Kd.R_ne HO_3.out BK112.out (by decide))); have n4_ := Aside0.mk (blk_grown (g := gb120) (o := .cells #[.int .i64 ((rd_T33 x8_1 0).f0), .int .i64 ((rd_T33 x8_1 0).f1), .int .i64 ((rd_T33 x8_1 0).f2)] 33 (0, 0)) (bk_ BK120.out) hg (Kd.R_ne HO_3.out BK120.out (by decide))); have n5_ := Aside0.mk (blk_grown (g := gb129) (o := .cells #[.int .i64 t126, .int .i64 t127, .int .i64 t128] 33 (0, 0)) (bk_ BK129.out) hg (Kd.R_ne HO_3.out BK129.out (by decide))); have n6_ := Aside0.mk ((by rw [hw]; exact below_set (HB.out) GB8.out : Below w.heap.size w w69)); clear HO_3; clear HO_8; clear BK107; clear BK112; clear BK120; clear BK129; clear HB; have HO_3 := n0_; have HO_8 := n1_; have BK107 := n2_; have BK112 := n3_; have BK120 := n4_; have BK129 := n5_; have HB := n6_; clear n0_ n1_ n2_ n3_ n4_ n5_ n6_; clear hg hw hp_; have hnb70 := NB129_107.out; have hnc70 := NB107_129.out; have hnb71 := NB129_112.out; have hnc71 := NB112_129.out; have hnb72 := NB129_120.out; have hnc72 := NB120_129.out; have hcz73_0 : w69.cell? ⟨gb129, 0, none⟩ = some (.int .i64 t126) := (blk_cell BK129.out 0).trans rfl; have hcz73_1 : w69.cell? ⟨gb129, 1, none⟩ = some (.int .i64 t127) := (blk_cell BK129.out 1).trans rfl; have hcz73_2 : w69.cell? ⟨gb129, 2, none⟩ = some (.int .i64 t128) := (blk_cell BK129.out 2).trans rfl; have hfz73_0 := blk_frozen BK129.out 0; have hfz73_1 := blk_frozen BK129.out 1; have hfz73_2 := blk_frozen BK129.out 2))
                     go_ret
                     exact ⟨_, by first | rfl | (simp [errW_none, errW_some] <;> rfl) | (simp [*, errW_none, errW_some] <;> rfl), by (with_reducible repeat (first | apply Kd.R_alloc | apply Kd.R_drewN | apply Kd.R_drew)); exact HO_3.out, by repeat (first | (with_reducible first | exact HB.out | apply below_alloc | apply pw_below_drewN | apply below_drew1 | refine below_set ?_ GE107.out | refine below_set ?_ GE112.out | refine below_set ?_ GE120.out | refine below_set ?_ GE129.out) | exact HB.out)⟩
                    ·
                     rw [if_neg c67] at H
                     have c67b0 : (t126 == 0 && (t127 == 0 && (t128 == 0))) = false := by simpa using c67
                     clear c67
                     by_cases c74 : x8_2.length < 5864062014805
                     ·
                      rw [if_pos c74] at H
                      have LMc74 := Aside0.mk c74
                      clear c74
                      obtain ⟨y135, hy135⟩ : ∃ y_ : List (S33), y_ = (x8_2 ++ [(⟨t126, t127, t128⟩ : S33)]) := ⟨_, rfl⟩
                      replace H : (mintime_space_left.l1 kj43 y134 y135 t124 (wrap64 (x12_2 + 1)) a0_0 a0_1 a0_2 a0_3 ((rd_T33 x8_1 0).f0) ((rd_T33 x8_1 0).f1) ((rd_T33 x8_1 0).f2)) = some r := by first | (rw [hy135]; with_reducible exact H) | (have H2_ := (Option.bind_some _ _).symm.trans H; rw [hy135]; with_reducible exact H2_) | (have H2_ := (Option.bind_some _ _).symm.trans H; with_reducible exact H2_) | with_reducible exact H | (rw [hy135]; exact H) | exact H
                      have Ny135 := Aside0.mk hy135
                      clear hy135
                      have H' := Aside0.mk H
                      clear H
                      have p133 : 0 ≤ (t124 : Int) := od_
                      have q133 : t124 < (x3_2.length : Int) := od_
                      obtain ⟨ad133, e133, hx133_0⟩ := Kd.at_int (Kd.R_reads' HO_3.out).2.2 t124 p133 q133
                      obtain rfl : (⟨go8, 0, none⟩ : Addr) = ad133 := (by injection e133)
                      (first | simp only [add_plain] at hx133_0 | simp only [add_at] at hx133_0 | simp only [Addr.add, Nat.zero_add] at hx133_0 | skip)
                      replace p133 := eq_true p133
                      replace q133 := eq_true q133
                      have p66 : 0 ≤ (t130 : Int) := od_
                      have q66 : (t130 : Int) < ((x3_2.length : Int) : Int) := od_
                      obtain ⟨hx66_0, hf66_0⟩ := Kd.R_celln 0 HO_3.out (t130 : Int) p66 q66
                      replace p66 := eq_true p66
                      replace q66 := eq_true q66
                      have HP75 := Kd.R_putg HO_3.out (t130 : Int) (wrap64 ((rd x3_2 t124) + 1))
                      go_wp2_with (first | ((with_reducible refine gate_store (t := 3) (p := 85) rfl ?_); refine store_event (t := 3) (p := 85) (v := ?vo_w76) (w1 := (wc.setCell ⟨go8, (t130 : Int).toNat, none⟩ (.int .i64 (wrap64 ((rd x3_2 t124) + 1))))) ?hg ?ho ?hn ?hr ?_; (case ho => rfl); (case hg => rfl); (case hn => rfl); (case hr => first | (go_simp; done) | (go_simp; rfl)); intro w76 hw; have hg : wc.grownBy w76 (some go8) := (by rw [hw]; exact HP75.2); have hp_ : Kd.R (Kd.int .i64) 3 w76 w.heap.size (fun _ => True) (.slice (some ⟨go8, 0, none⟩) x3_2.length co8) y134 := (by rw [hw, Ny134.out]; exact HP75.1); clear HP75; have n0_ := Aside0.mk (hp_); have n1_ := Aside0.mk (Kd.Q_over' (v := (.slice (some ⟨go8, 0, none⟩) x3_2.length co8)) (qk_ HO_8.out) (Kd.R_typed HO_3.out) (by decide) hg); have n2_ := Aside0.mk (blk_grown (g := gb107) (o := .cells #[.int .i64 a0_0, .int .i64 a0_1, .int .i64 a0_2, .int .i64 a0_3] 98 (0, 0)) (bk_ BK107.out) hg (Kd.R_ne HO_3.out BK107.out (by decide))); have n3_ := Aside0.mk (blk_grown (g := gb112) (o := .cells #[.int .i64 a0_3, .int .i64 0, .int .i64 0] 33 (0, 0)) (bk_ BK112.out) hg (Kd.R_ne HO_3.out BK112.out (by decide))); have n4_ := Aside0.mk (blk_grown (g := gb120) (o := .cells #[.int .i64 ((rd_T33 x8_1 0).f0), .int .i64 ((rd_T33 x8_1 0).f1), .int .i64 ((rd_T33 x8_1 0).f2)] 33 (0, 0)) (bk_ BK120.out) hg (Kd.R_ne HO_3.out BK120.out (by decide))); have n5_ := Aside0.mk (blk_grown (g := gb129) (o := .cells #[.int .i64 t126, .int .i64 t127, .int .i64 t128] 33 (0, 0)) (bk_ BK129.out) hg (Kd.R_ne HO_3.out BK129.out (by decide))); have n6_ := Aside0.mk ((by rw [hw]; exact below_set (HB.out) GB8.out : Below w.heap.size w w76)); clear HO_3; clear HO_8; clear BK107; clear BK112; clear BK120; clear BK129; clear HB; have HO_3 := n0_; have HO_8 := n1_; have BK107 := n2_; have BK112 := n3_; have BK120 := n4_; have BK129 := n5_; have HB := n6_; clear n0_ n1_ n2_ n3_ n4_ n5_ n6_; clear hg hw hp_; have hnb77 := NB129_107.out; have hnc77 := NB107_129.out; have hnb78 := NB129_112.out; have hnc78 := NB112_129.out; have hnb79 := NB129_120.out; have hnc79 := NB120_129.out; have hcz80_0 : w76.cell? ⟨gb129, 0, none⟩ = some (.int .i64 t126) := (blk_cell BK129.out 0).trans rfl; have hcz80_1 : w76.cell? ⟨gb129, 1, none⟩ = some (.int .i64 t127) := (blk_cell BK129.out 1).trans rfl; have hcz80_2 : w76.cell? ⟨gb129, 2, none⟩ = some (.int .i64 t128) := (blk_cell BK129.out 2).trans rfl; have hfz80_0 := blk_frozen BK129.out 0; have hfz80_1 := blk_frozen BK129.out 1; have hfz80_2 := blk_frozen BK129.out 2) | ((with_reducible refine gate_builtin (b := .append) (xs := #[.tmp 89, .tmp 91]) rfl ?_); at_builtin; refine Kd.Q_append k33 (w0 := w) w.heap.size rfl (.tmp 89) (.tmp 91) 38 33 (.agg #[(.int .i64 0), (.int .i64 0), (.int .i64 0)]) 24 rfl Try.underlying38 info33 rfl (by decide) (by omega) u8 x8_2 (⟨t126, t127, t128⟩ : S33) [.int .i64 t126, .int .i64 t127, .int .i64 t128] (fun k_ => k_ ≠ gb112 ∧ k_ ≠ gb120 ∧ k_ ≠ gb129) (fun _ => False) rfl rfl ?aP (fun _ hk => hk.elim) ?aF ?aO ?aB ?aS ?aL ?_; (case aP => exact k33_mkM _ _ _ (⟨t126, t127, t128⟩ : S33)); (case aB => exact hb_); (case aF => exact (fun k_ hk => ⟨Kd.freshB (g := gb112) (o := .cells #[.int .i64 a0_3, .int .i64 0, .int .i64 0] 33 (0, 0)) (bk_ BK112.out) k_ hk, Kd.freshB (g := gb120) (o := .cells #[.int .i64 ((rd_T33 x8_1 0).f0), .int .i64 ((rd_T33 x8_1 0).f1), .int .i64 ((rd_T33 x8_1 0).f2)] 33 (0, 0)) (bk_ BK120.out) k_ hk, Kd.freshB (g := gb129) (o := .cells #[.int .i64 t126, .int .i64 t127, .int .i64 t128] 33 (0, 0)) (bk_ BK129.out) k_ hk⟩)); (case aO => exact (qk_ HO_8.out)); (case aS => exact (below_size hb_)); (case aL => have := LMc74.out; omega); intro v136 w81 ho hb hg hat; rw [← Ny135.out] at ho; have n0_ := Aside0.mk (Kd.R_over' (rk_ HO_3.out) (Kd.Q_typed (qk_ HO_8.out)) (by decide) hg); have n1_ := Aside0.mk (blk_grown (g := gb107) (o := .cells #[.int .i64 a0_0, .int .i64 a0_1, .int .i64 a0_2, .int .i64 a0_3] 98 (0, 0)) (bk_ BK107.out) hg (Kd.Q_ne HO_8.out BK107.out (by decide))); have n2_ := Aside0.mk (blk_grown (g := gb112) (o := .cells #[.int .i64 a0_3, .int .i64 0, .int .i64 0] 33 (0, 0)) (bk_ BK112.out) hg (Kd.Q_away HO_8.out (fun _ hk => hk.1))); have n3_ := Aside0.mk (blk_grown (g := gb120) (o := .cells #[.int .i64 ((rd_T33 x8_1 0).f0), .int .i64 ((rd_T33 x8_1 0).f1), .int .i64 ((rd_T33 x8_1 0).f2)] 33 (0, 0)) (bk_ BK120.out) hg (Kd.Q_away HO_8.out (fun _ hk => hk.2.1))); have n4_ := Aside0.mk (blk_grown (g := gb129) (o := .cells #[.int .i64 t126, .int .i64 t127, .int .i64 t128] 33 (0, 0)) (bk_ BK129.out) hg (Kd.Q_away HO_8.out (fun _ hk => hk.2.2))); have n5_ := Aside0.mk (hb); have n6_ := Aside0.mk (ho); clear HO_3; clear BK107; clear BK112; clear BK120; clear BK129; clear HB; clear HO_8; have HO_3 := n0_; have BK107 := n1_; have BK112 := n2_; have BK120 := n3_; have BK129 := n4_; have HB := n5_; have HO137 := n6_; clear n0_ n1_ n2_ n3_ n4_ n5_ n6_; clear ho hb hg hat))
                      (try simp only [← hl3_2])
                      go_roundg kj43
                      case measure => have := HK1.out; have := HK2.out; have := HJ43.out; omega
                      case rel => exact ⟨(y134), (y135), (wrap64 (x12_2 + 1)), (by first | rfl | (simp; done) | (simp [*]; done)), H', ⟨by have := HK1.out; have := HK2.out; have := HJ43.out; omega⟩, ⟨by (try simp only [hl3_1]); (try simp only [hl3_2]); (with_reducible repeat (first | apply Kd.R_alloc | apply Kd.R_drewN | apply Kd.R_drew)); exact HO_3.out⟩, ⟨by (try simp only [hl3_1]); (try simp only [hl3_2]); (with_reducible repeat (first | apply Kd.Q_alloc | apply Kd.Q_drewN | apply Kd.Q_drew)); exact Kd.Q_mono HO137.out (fun _ hk => ⟨hk.1, hk.2.1⟩)⟩, ⟨by (try simp only [hl3_1]); (try simp only [hl3_2]); (with_reducible repeat (first | refine blk_drewN ?_ _ | refine blk_drew ?_ | refine blk_alloc ?_ _)); exact BK107.out⟩, ⟨by (try simp only [hl3_1]); (try simp only [hl3_2]); (with_reducible repeat (first | refine blk_drewN ?_ _ | refine blk_drew ?_ | refine blk_alloc ?_ _)); exact BK112.out⟩, ⟨by (try simp only [hl3_1]); (try simp only [hl3_2]); (with_reducible repeat (first | refine blk_drewN ?_ _ | refine blk_drew ?_ | refine blk_alloc ?_ _)); exact BK120.out⟩, ⟨by repeat (first | (with_reducible first | exact HB.out | apply below_alloc | apply pw_below_drewN | apply below_drew1 | refine below_set ?_ GE107.out | refine below_set ?_ GE112.out | refine below_set ?_ GE120.out | refine below_set ?_ GE129.out) | exact HB.out)⟩⟩
                     ·
                      rw [if_neg c74] at H
                      exact absurd H (by simp)
                   ·
                    rw [if_neg c65] at H
                    exact absurd H (by simp)
                  ·
                   rw [if_neg c64] at H
                   exact absurd H (by simp)
                 ·
                  rw [if_neg c63] at H
                  exact absurd H (by simp)
                ·
                 rw [if_neg c62] at H
                 exact absurd H (by simp)
            ·
             rw [if_neg c41] at H
             have c41b0 : decide (x12_2 ≤ a0_2) = false := decide_eq_false c41
             clear c41
             have H' := Aside0.mk H
             clear H
             have hnb82 := NB107_112.out
             have hnc82 := NB112_107.out
             have hnb83 := NB107_120.out
             have hnc83 := NB120_107.out
             have hcz84_0 : wr.cell? ⟨gb107, 0, none⟩ = some (.int .i64 a0_0) := (blk_cell BK107.out 0).trans rfl
             have hcz84_1 : wr.cell? ⟨gb107, 1, none⟩ = some (.int .i64 a0_1) := (blk_cell BK107.out 1).trans rfl
             have hcz84_2 : wr.cell? ⟨gb107, 2, none⟩ = some (.int .i64 a0_2) := (blk_cell BK107.out 2).trans rfl
             have hcz84_3 : wr.cell? ⟨gb107, 3, none⟩ = some (.int .i64 a0_3) := (blk_cell BK107.out 3).trans rfl
             have hfz84_0 := blk_frozen BK107.out 0
             have hfz84_1 := blk_frozen BK107.out 1
             have hfz84_2 := blk_frozen BK107.out 2
             have hfz84_3 := blk_frozen BK107.out 3
             go_wp2
             (try simp only [← hl3_1, ← hl3_2])
             go_roundg k2
             case measure => have := HK1.out; have := HK2.out; omega
             case rel => exact ⟨(x3_2), (x8_2), H', ⟨by have := HK1.out; have := HK2.out; omega⟩, ⟨by (try simp only [hl3_1]); (try simp only [hl3_2]); (with_reducible repeat (first | apply Kd.R_alloc | apply Kd.R_drewN | apply Kd.R_drew)); exact HO_3.out⟩, ⟨by (try simp only [hl3_1]); (try simp only [hl3_2]); (with_reducible repeat (first | apply Kd.Q_alloc | apply Kd.Q_drewN | apply Kd.Q_drew)); exact Kd.Q_mono HO_8.out (fun _ hk => hk.1)⟩, ⟨by (try simp only [hl3_1]); (try simp only [hl3_2]); (with_reducible repeat (first | refine blk_drewN ?_ _ | refine blk_drew ?_ | refine blk_alloc ?_ _)); exact BK107.out⟩, ⟨by (try simp only [hl3_1]); (try simp only [hl3_2]); (with_reducible repeat (first | refine blk_drewN ?_ _ | refine blk_drew ?_ | refine blk_alloc ?_ _)); exact BK112.out⟩, ⟨by repeat (first | (with_reducible first | exact HB.out | apply below_alloc | apply pw_below_drewN | apply below_drew1 | refine below_set ?_ GE107.out | refine below_set ?_ GE112.out | refine below_set ?_ GE120.out) | exact HB.out)⟩⟩
         ·
          rw [if_neg c27] at H
          exact absurd H (by simp)
        ·
         rw [if_neg c26] at H
         exact absurd H (by simp)
       ·
        rw [if_neg c25] at H
        have c25b0 : decide (0 < (x8_1.length : Int)) = false := decide_eq_false c25
        have c25b1 : decide (0 < x8_1.length) = false := decide_eq_false (by omega)
        clear c25
        obtain rfl := Option.some.inj H
        obtain ⟨Ao85, co85, eo85, _⟩ := Kd.Q_slice HO_8.out
        subst eo85
        go_wp2
        go_ret
        exact ⟨_, by first | rfl | (simp [errW_none, errW_some] <;> rfl) | (simp [*, errW_none, errW_some] <;> rfl), by (with_reducible repeat (first | apply Kd.R_alloc | apply Kd.R_drewN | apply Kd.R_drew)); exact HO_3.out, by repeat (first | (with_reducible first | exact HB.out | apply below_alloc | apply pw_below_drewN | apply below_drew1 | refine below_set ?_ GE107.out | refine below_set ?_ GE112.out) | exact HB.out)⟩
    ·
     rw [if_neg c7] at H
     exact absurd H (by simp)
   ·
    rw [if_neg c6] at H
    exact absurd H (by simp)
  ·
   rw [if_neg c4] at H
   exact absurd H (by simp)
 ·
  rw [if_neg c3] at H
  exact absurd H (by simp)

end Go.Proofs.Ytmmaodlngnjmlaa.P
