-- Written by this session's own program, for this seat. Lean checks it.
import Derived.Test.YtjcefdockfbnaaaP0
import Derived.Test.YtjcefdockfbnaaaP1
import Derived.Test.YtjcefdockfbnaaaP2
import Derived.Test.YtjcefdockfbnaaaP3
import Derived.Test.YtjcefdockfbnaaaP6
import Derived.Test.YtjcefdockfbnaaaP9
namespace Go.Proofs.Ytjcefdockfbnaaa.P
open Go.RowKit Go.Proofs.YtjcefdockfbnaaaW.PrintWords Go.Proofs.YtjcefdockfbnaaaW.PrintLast Go.Proofs.YtjcefdockfbnaaaW.PrintMore
attribute [local go_sem] max2_int min2_int max_two min_two max_three min_three max_four min_four   -- for this text's walks alone
set_option linter.unusedVariables false
set_option linter.unusedSimpArgs false

/-! ### profile_within: function 54 -/
def profile_within.f (a0 : Int) (a1 : Int) : Option (Bool) := some (decide ((mx a0 (wrap64 (-a0))) ≤ a1))
set_option maxHeartbeats 8000000 in
set_option maxRecDepth 100000 in
theorem profile_within.calls (a0 : Int) (a1 : Int) (r : Bool) (w : World) (h : profile_within.f a0 a1 = some r) :
    Calls Try.prog 54 #[.int .i64 a0, .int .i64 a1] w fun e w' => e = .returned (.bool r) ∧ Below w.heap.size w w' := by
  have HB := Aside0.mk (Below.refl w.heap.size w)
  have H : (some (decide ((mx a0 (wrap64 (-a0))) ≤ a1))) = some r := h
  clear h
  obtain ⟨ji3, hji3⟩ : ∃ j_ : Int, (mx a0 (wrap64 (-a0))) = j_ := ⟨_, rfl⟩
  replace H : (some (decide ((ji3) ≤ a1))) = some r := by first | (rw [hji3] at H; exact H) | (simp only [hji3] at H ⊢; exact H)
  have hji3_ : (if a0 < (wrap64 (-a0)) then (wrap64 (-a0)) else a0) = ji3 := hji3
  obtain rfl := Option.some.inj H
  go_enter Try.func54, Try.ntmps54
  go_wp2
  go_ret
  exact ⟨by first | rfl | (simp [errW_none, errW_some] <;> rfl) | (simp only [← hji3]; first | rfl | (simp [errW_none, errW_some] <;> rfl)) | (simp [*, errW_none, errW_some] <;> rfl), by repeat (first | (with_reducible first | exact HB.out | apply below_alloc | apply pw_below_drewN | apply below_drew1) | exact HB.out)⟩

/-! ### profile_fits: function 53 -/
def profile_fits.f (a0_0 : Int) (a0_1 : Int) (a0_2 : Int) (a1_0 : Int) (a1_1 : Int) (a1_2 : Int) : Option (Bool) := (profile_within.f a1_1 a0_0).bind fun t325 => (if t325 = true then ((profile_within.f a1_2 a0_1).bind fun t326 => (some t326)) else (some false))
set_option maxHeartbeats 8000000 in
set_option maxRecDepth 100000 in
theorem profile_fits.calls (a0_0 : Int) (a0_1 : Int) (a0_2 : Int) (a1_0 : Int) (a1_1 : Int) (a1_2 : Int) (r : Bool) (w : World) (h : profile_fits.f a0_0 a0_1 a0_2 a1_0 a1_1 a1_2 = some r) :
    Calls Try.prog 53 #[.agg #[.int .i64 a0_0, .int .i64 a0_1, .int .i64 a0_2], .agg #[.int .i64 a1_0, .int .i64 a1_1, .int .i64 a1_2]] w fun e w' => e = .returned (.bool r) ∧ Below w.heap.size w w' := by
  have hu23 := Try.underlying23
  have hu37 := Try.underlying37
  have HB := Aside0.mk (Below.refl w.heap.size w)
  have H : ((profile_within.f a1_1 a0_0).bind fun t325 => (if t325 = true then ((profile_within.f a1_2 a0_1).bind fun t326 => (some t326)) else (some false))) = some r := h
  clear h
  replace H := Option.bind_eq_some_iff.mp H
  obtain ⟨t325, A30, H⟩ := H
  replace H : (if t325 = true then ((profile_within.f a1_2 a0_1).bind fun t326 => (some t326)) else (some false)) = some r := H
  have A3 := Aside0.mk A30
  clear A30
  by_cases c4 : t325 = true
  · subst c4
    have H1 : ((profile_within.f a1_2 a0_1).bind fun t326 => (some t326)) = some r := by rw [if_pos rfl] at H; exact H
    clear H
    have H := H1
    clear H1
    replace H := Option.bind_eq_some_iff.mp H
    obtain ⟨t326, A50, H⟩ := H
    replace H : (some t326) = some r := H
    have A5 := Aside0.mk A50
    clear A50
    obtain rfl := Option.some.inj H
    go_enter Try.func53, Try.ntmps53
    go_wp2_with (first | ((with_reducible refine gate_dst (N := 2) rfl ?_); refine box_event ?hg (N := 2) ?hd (cs := #[.int .i64 a0_0, .int .i64 a0_1, .int .i64 a0_2]) (t := 23) ?hr ?_; (case hd => rfl); (case hg => rfl); (case hr => first | (go_simp; done) | (go_simp; rfl)); intro gb323 hg w6 hbox hb; have n0_ := Aside0.mk (below_step (by repeat (first | (with_reducible first | exact HB.out | apply below_alloc | apply pw_below_drewN | apply below_drew1) | exact HB.out)) hb); have n1_ := Aside0.mk (hbox); have n2_ := Aside0.mk ((by rw [hg]; exact (below_size (by repeat (first | (with_reducible first | exact HB.out | apply below_alloc | apply pw_below_drewN | apply below_drew1) | exact HB.out))) : w.heap.size ≤ gb323)); have n3_ := Aside0.mk ((by rw [hg]; exact (below_size (by repeat (first | (with_reducible first | exact HB.out | apply below_alloc | apply pw_below_drewN | apply below_drew1) | exact HB.out))) : w.heap.size ≤ gb323)); clear HB; have HB := n0_; have BK323 := n1_; have GW323 := n2_; have GE323 := n3_; clear n0_ n1_ n2_ n3_; clear hb hbox hg) | ((with_reducible refine gate_dst (N := 3) rfl ?_); refine box_event ?hg (N := 3) ?hd (cs := #[.int .i64 a1_0, .int .i64 a1_1, .int .i64 a1_2]) (t := 37) ?hr ?_; (case hd => rfl); (case hg => rfl); (case hr => first | (go_simp; done) | (go_simp; rfl)); intro gb324 hg w7 hbox hb; have n0_ := Aside0.mk (blk_below (g := gb323) (o := .cells #[.int .i64 a0_0, .int .i64 a0_1, .int .i64 a0_2] 23 (0, 0)) (by (with_reducible repeat (first | refine blk_drewN ?_ _ | refine blk_drew ?_ | refine blk_alloc ?_ _)); exact BK323.out) hb); have n1_ := Aside0.mk (below_step (by repeat (first | (with_reducible first | exact HB.out | apply below_alloc | apply pw_below_drewN | apply below_drew1 | refine below_set ?_ GE323.out) | exact HB.out)) hb); have n2_ := Aside0.mk (hbox); have n3_ := Aside0.mk ((by rw [hg]; exact (below_size (by repeat (first | (with_reducible first | exact HB.out | apply below_alloc | apply pw_below_drewN | apply below_drew1 | refine below_set ?_ GE323.out) | exact HB.out))) : w.heap.size ≤ gb324)); have n4_ := Aside0.mk ((by rw [hg]; exact (below_size (by repeat (first | (with_reducible first | exact HB.out | apply below_alloc | apply pw_below_drewN | apply below_drew1 | refine below_set ?_ GE323.out) | exact HB.out))) : w.heap.size ≤ gb324)); have n5_ := Aside0.mk ((by rw [hg]; exact Nat.ne_of_lt (blk_lt (g := gb323) (o := .cells #[.int .i64 a0_0, .int .i64 a0_1, .int .i64 a0_2] 23 (0, 0)) (by (with_reducible repeat (first | refine blk_drewN ?_ _ | refine blk_drew ?_ | refine blk_alloc ?_ _)); exact BK323.out)) : gb323 ≠ gb324)); have n6_ := Aside0.mk ((by rw [hg]; exact Nat.ne_of_gt (blk_lt (g := gb323) (o := .cells #[.int .i64 a0_0, .int .i64 a0_1, .int .i64 a0_2] 23 (0, 0)) (by (with_reducible repeat (first | refine blk_drewN ?_ _ | refine blk_drew ?_ | refine blk_alloc ?_ _)); exact BK323.out)) : gb324 ≠ gb323)); clear BK323; clear HB; have BK323 := n0_; have HB := n1_; have BK324 := n2_; have GW324 := n3_; have GE324 := n4_; have NB323_324 := n5_; have NB324_323 := n6_; clear n0_ n1_ n2_ n3_ n4_ n5_ n6_; clear hb hbox hg; have hnb8 := NB324_323.out; have hnc8 := NB323_324.out; have hcz9_0 : w7.cell? ⟨gb324, 0, none⟩ = some (.int .i64 a1_0) := (blk_cell BK324.out 0).trans rfl; have hcz9_1 : w7.cell? ⟨gb324, 1, none⟩ = some (.int .i64 a1_1) := (blk_cell BK324.out 1).trans rfl; have hcz9_2 : w7.cell? ⟨gb324, 2, none⟩ = some (.int .i64 a1_2) := (blk_cell BK324.out 2).trans rfl; have hfz9_0 := blk_frozen BK324.out 0; have hfz9_1 := blk_frozen BK324.out 1; have hfz9_2 := blk_frozen BK324.out 2; have hcz10_0 : w7.cell? ⟨gb323, 0, none⟩ = some (.int .i64 a0_0) := (blk_cell BK323.out 0).trans rfl; have hcz10_1 : w7.cell? ⟨gb323, 1, none⟩ = some (.int .i64 a0_1) := (blk_cell BK323.out 1).trans rfl; have hcz10_2 : w7.cell? ⟨gb323, 2, none⟩ = some (.int .i64 a0_2) := (blk_cell BK323.out 2).trans rfl; have hfz10_0 := blk_frozen BK323.out 0; have hfz10_1 := blk_frozen BK323.out 1; have hfz10_2 := blk_frozen BK323.out 2) | ((with_reducible refine gate_callee (f := 54) rfl ?_); refine goesL_ (some 9) rfl rfl Try.func54 (by kernel_rfl) rfl #[.int .i64 a1_1, .int .i64 a0_0] rfl (by (try simp only [List.map_toArray, List.map_cons, List.map_nil]); first | done | rfl | (simp only [List.length_drop, List.length_take]; rfl)) ?_; (with_reducible refine (profile_within.calls a1_1 a0_0 true _ A3.out).mono ?_); rintro e w11 ⟨rfl, hb⟩; refine ⟨_, rfl, ?_⟩; have n0_ := Aside0.mk (blk_below (g := gb323) (o := .cells #[.int .i64 a0_0, .int .i64 a0_1, .int .i64 a0_2] 23 (0, 0)) (by (with_reducible repeat (first | refine blk_drewN ?_ _ | refine blk_drew ?_ | refine blk_alloc ?_ _)); exact BK323.out) hb); have n1_ := Aside0.mk (blk_below (g := gb324) (o := .cells #[.int .i64 a1_0, .int .i64 a1_1, .int .i64 a1_2] 37 (0, 0)) (by (with_reducible repeat (first | refine blk_drewN ?_ _ | refine blk_drew ?_ | refine blk_alloc ?_ _)); exact BK324.out) hb); have n2_ := Aside0.mk (below_step (by repeat (first | (with_reducible first | exact HB.out | apply below_alloc | apply pw_below_drewN | apply below_drew1 | refine below_set ?_ GE323.out | refine below_set ?_ GE324.out) | exact HB.out)) hb); clear BK323; clear BK324; clear HB; have BK323 := n0_; have BK324 := n1_; have HB := n2_; clear n0_ n1_ n2_; (try clear hb); (try clear hb2); (try clear hk); (try clear hi); have hcz12_0 : w11.cell? ⟨gb324, 0, none⟩ = some (.int .i64 a1_0) := (blk_cell BK324.out 0).trans rfl; have hcz12_1 : w11.cell? ⟨gb324, 1, none⟩ = some (.int .i64 a1_1) := (blk_cell BK324.out 1).trans rfl; have hcz12_2 : w11.cell? ⟨gb324, 2, none⟩ = some (.int .i64 a1_2) := (blk_cell BK324.out 2).trans rfl; have hfz12_0 := blk_frozen BK324.out 0; have hfz12_1 := blk_frozen BK324.out 1; have hfz12_2 := blk_frozen BK324.out 2; have hcz13_0 : w11.cell? ⟨gb323, 0, none⟩ = some (.int .i64 a0_0) := (blk_cell BK323.out 0).trans rfl; have hcz13_1 : w11.cell? ⟨gb323, 1, none⟩ = some (.int .i64 a0_1) := (blk_cell BK323.out 1).trans rfl; have hcz13_2 : w11.cell? ⟨gb323, 2, none⟩ = some (.int .i64 a0_2) := (blk_cell BK323.out 2).trans rfl; have hfz13_0 := blk_frozen BK323.out 0; have hfz13_1 := blk_frozen BK323.out 1; have hfz13_2 := blk_frozen BK323.out 2) | (go_at_call 54; (with_reducible refine (profile_within.calls a1_2 a0_1 t326 _ A5.out).mono ?_); rintro e w14 ⟨rfl, hb⟩; have n0_ := Aside0.mk (blk_below (g := gb323) (o := .cells #[.int .i64 a0_0, .int .i64 a0_1, .int .i64 a0_2] 23 (0, 0)) (by (with_reducible repeat (first | refine blk_drewN ?_ _ | refine blk_drew ?_ | refine blk_alloc ?_ _)); exact BK323.out) hb); have n1_ := Aside0.mk (blk_below (g := gb324) (o := .cells #[.int .i64 a1_0, .int .i64 a1_1, .int .i64 a1_2] 37 (0, 0)) (by (with_reducible repeat (first | refine blk_drewN ?_ _ | refine blk_drew ?_ | refine blk_alloc ?_ _)); exact BK324.out) hb); have n2_ := Aside0.mk (below_step (by repeat (first | (with_reducible first | exact HB.out | apply below_alloc | apply pw_below_drewN | apply below_drew1 | refine below_set ?_ GE323.out | refine below_set ?_ GE324.out) | exact HB.out)) hb); clear BK323; clear BK324; clear HB; have BK323 := n0_; have BK324 := n1_; have HB := n2_; clear n0_ n1_ n2_; (try clear hb); (try clear hb2); (try clear hk); (try clear hi)))
    go_ret
    exact ⟨by first | rfl | (simp [errW_none, errW_some] <;> rfl) | (simp [*, errW_none, errW_some] <;> rfl), by repeat (first | (with_reducible first | exact HB.out | apply below_alloc | apply pw_below_drewN | apply below_drew1 | refine below_set ?_ GE323.out | refine below_set ?_ GE324.out) | exact HB.out)⟩
  · replace c4 := Bool.eq_false_iff.mpr c4
    subst c4
    have H1 : (some false) = some r := by rw [if_neg (show ¬ (false = true) by decide)] at H; exact H
    clear H
    have H := H1
    clear H1
    obtain rfl := Option.some.inj H
    go_enter Try.func53, Try.ntmps53
    go_wp2_with (first | ((with_reducible refine gate_dst (N := 2) rfl ?_); refine box_event ?hg (N := 2) ?hd (cs := #[.int .i64 a0_0, .int .i64 a0_1, .int .i64 a0_2]) (t := 23) ?hr ?_; (case hd => rfl); (case hg => rfl); (case hr => first | (go_simp; done) | (go_simp; rfl)); intro gb323 hg w15 hbox hb; have n0_ := Aside0.mk (below_step (by repeat (first | (with_reducible first | exact HB.out | apply below_alloc | apply pw_below_drewN | apply below_drew1) | exact HB.out)) hb); have n1_ := Aside0.mk (hbox); have n2_ := Aside0.mk ((by rw [hg]; exact (below_size (by repeat (first | (with_reducible first | exact HB.out | apply below_alloc | apply pw_below_drewN | apply below_drew1) | exact HB.out))) : w.heap.size ≤ gb323)); have n3_ := Aside0.mk ((by rw [hg]; exact (below_size (by repeat (first | (with_reducible first | exact HB.out | apply below_alloc | apply pw_below_drewN | apply below_drew1) | exact HB.out))) : w.heap.size ≤ gb323)); clear HB; have HB := n0_; have BK323 := n1_; have GW323 := n2_; have GE323 := n3_; clear n0_ n1_ n2_ n3_; clear hb hbox hg) | ((with_reducible refine gate_dst (N := 3) rfl ?_); refine box_event ?hg (N := 3) ?hd (cs := #[.int .i64 a1_0, .int .i64 a1_1, .int .i64 a1_2]) (t := 37) ?hr ?_; (case hd => rfl); (case hg => rfl); (case hr => first | (go_simp; done) | (go_simp; rfl)); intro gb324 hg w16 hbox hb; have n0_ := Aside0.mk (blk_below (g := gb323) (o := .cells #[.int .i64 a0_0, .int .i64 a0_1, .int .i64 a0_2] 23 (0, 0)) (by (with_reducible repeat (first | refine blk_drewN ?_ _ | refine blk_drew ?_ | refine blk_alloc ?_ _)); exact BK323.out) hb); have n1_ := Aside0.mk (below_step (by repeat (first | (with_reducible first | exact HB.out | apply below_alloc | apply pw_below_drewN | apply below_drew1 | refine below_set ?_ GE323.out) | exact HB.out)) hb); have n2_ := Aside0.mk (hbox); have n3_ := Aside0.mk ((by rw [hg]; exact (below_size (by repeat (first | (with_reducible first | exact HB.out | apply below_alloc | apply pw_below_drewN | apply below_drew1 | refine below_set ?_ GE323.out) | exact HB.out))) : w.heap.size ≤ gb324)); have n4_ := Aside0.mk ((by rw [hg]; exact (below_size (by repeat (first | (with_reducible first | exact HB.out | apply below_alloc | apply pw_below_drewN | apply below_drew1 | refine below_set ?_ GE323.out) | exact HB.out))) : w.heap.size ≤ gb324)); have n5_ := Aside0.mk ((by rw [hg]; exact Nat.ne_of_lt (blk_lt (g := gb323) (o := .cells #[.int .i64 a0_0, .int .i64 a0_1, .int .i64 a0_2] 23 (0, 0)) (by (with_reducible repeat (first | refine blk_drewN ?_ _ | refine blk_drew ?_ | refine blk_alloc ?_ _)); exact BK323.out)) : gb323 ≠ gb324)); have n6_ := Aside0.mk ((by rw [hg]; exact Nat.ne_of_gt (blk_lt (g := gb323) (o := .cells #[.int .i64 a0_0, .int .i64 a0_1, .int .i64 a0_2] 23 (0, 0)) (by (with_reducible repeat (first | refine blk_drewN ?_ _ | refine blk_drew ?_ | refine blk_alloc ?_ _)); exact BK323.out)) : gb324 ≠ gb323)); clear BK323; clear HB; have BK323 := n0_; have HB := n1_; have BK324 := n2_; have GW324 := n3_; have GE324 := n4_; have NB323_324 := n5_; have NB324_323 := n6_; clear n0_ n1_ n2_ n3_ n4_ n5_ n6_; clear hb hbox hg; have hnb17 := NB324_323.out; have hnc17 := NB323_324.out; have hcz18_0 : w16.cell? ⟨gb324, 0, none⟩ = some (.int .i64 a1_0) := (blk_cell BK324.out 0).trans rfl; have hcz18_1 : w16.cell? ⟨gb324, 1, none⟩ = some (.int .i64 a1_1) := (blk_cell BK324.out 1).trans rfl; have hcz18_2 : w16.cell? ⟨gb324, 2, none⟩ = some (.int .i64 a1_2) := (blk_cell BK324.out 2).trans rfl; have hfz18_0 := blk_frozen BK324.out 0; have hfz18_1 := blk_frozen BK324.out 1; have hfz18_2 := blk_frozen BK324.out 2; have hcz19_0 : w16.cell? ⟨gb323, 0, none⟩ = some (.int .i64 a0_0) := (blk_cell BK323.out 0).trans rfl; have hcz19_1 : w16.cell? ⟨gb323, 1, none⟩ = some (.int .i64 a0_1) := (blk_cell BK323.out 1).trans rfl; have hcz19_2 : w16.cell? ⟨gb323, 2, none⟩ = some (.int .i64 a0_2) := (blk_cell BK323.out 2).trans rfl; have hfz19_0 := blk_frozen BK323.out 0; have hfz19_1 := blk_frozen BK323.out 1; have hfz19_2 := blk_frozen BK323.out 2) | ((with_reducible refine gate_callee (f := 54) rfl ?_); refine goesL_ (some 9) rfl rfl Try.func54 (by kernel_rfl) rfl #[.int .i64 a1_1, .int .i64 a0_0] rfl (by (try simp only [List.map_toArray, List.map_cons, List.map_nil]); first | done | rfl | (simp only [List.length_drop, List.length_take]; rfl)) ?_; (with_reducible refine (profile_within.calls a1_1 a0_0 false _ A3.out).mono ?_); rintro e w20 ⟨rfl, hb⟩; refine ⟨_, rfl, ?_⟩; have n0_ := Aside0.mk (blk_below (g := gb323) (o := .cells #[.int .i64 a0_0, .int .i64 a0_1, .int .i64 a0_2] 23 (0, 0)) (by (with_reducible repeat (first | refine blk_drewN ?_ _ | refine blk_drew ?_ | refine blk_alloc ?_ _)); exact BK323.out) hb); have n1_ := Aside0.mk (blk_below (g := gb324) (o := .cells #[.int .i64 a1_0, .int .i64 a1_1, .int .i64 a1_2] 37 (0, 0)) (by (with_reducible repeat (first | refine blk_drewN ?_ _ | refine blk_drew ?_ | refine blk_alloc ?_ _)); exact BK324.out) hb); have n2_ := Aside0.mk (below_step (by repeat (first | (with_reducible first | exact HB.out | apply below_alloc | apply pw_below_drewN | apply below_drew1 | refine below_set ?_ GE323.out | refine below_set ?_ GE324.out) | exact HB.out)) hb); clear BK323; clear BK324; clear HB; have BK323 := n0_; have BK324 := n1_; have HB := n2_; clear n0_ n1_ n2_; (try clear hb); (try clear hb2); (try clear hk); (try clear hi)))
    go_ret
    exact ⟨by first | rfl | (simp [errW_none, errW_some] <;> rfl) | (simp [*, errW_none, errW_some] <;> rfl), by repeat (first | (with_reducible first | exact HB.out | apply below_alloc | apply pw_below_drewN | apply below_drew1 | refine below_set ?_ GE323.out | refine below_set ?_ GE324.out) | exact HB.out)⟩

/-! ### profile_Within: function 38 -/
def withinB (n most : Int) : Bool := decide (mx n (wrap64 (-n)) ≤ most)
def fitsB (a0_0 : Int) (a0_1 : Int) (a0_2 : Int) (a1_0 : Int) (a1_1 : Int) (a1_2 : Int) : Bool := withinB a1_1 a0_0 && withinB a1_2 a0_1
theorem fits_f (a0_0 : Int) (a0_1 : Int) (a0_2 : Int) (a1_0 : Int) (a1_1 : Int) (a1_2 : Int) : profile_fits.f a0_0 a0_1 a0_2 a1_0 a1_1 a1_2 = some (fitsB a0_0 a0_1 a0_2 a1_0 a1_1 a1_2) := by
  unfold profile_fits.f profile_within.f fitsB withinB
  by_cases c : mx a1_1 (wrap64 (-a1_1)) ≤ a0_0 <;> simp [c]
def profile_Within.f (a0_0 : Int) (a0_1 : Int) (a0_2 : Int) (a1_0 : Int) (a1_1 : Int) (a1_2 : Int) (l2 : List Int) : Option (Bool) := if l2.length ≤ 1000000000000 then
  some (fitsB a0_0 a0_1 a0_2 a1_0 a1_1 a1_2 && (Ticks.tr a1_0 a1_1 a1_2 l2).all fun q => withinB q.1 a0_2 && fitsB a0_0 a0_1 a0_2 q.2.1 q.2.2.1 q.2.2.2) else none
theorem profile_Within.calls (a0_0 : Int) (a0_1 : Int) (a0_2 : Int) (a1_0 : Int) (a1_1 : Int) (a1_2 : Int) (A2 : Option Addr) (c2 : Nat) (l2 : List Int) (r : Bool) (w : World) (hr2 : Kd.C (Kd.int .i64) w A2 l2.length l2) (hc2 : l2.length ≤ c2) (h : profile_Within.f a0_0 a0_1 a0_2 a1_0 a1_1 a1_2 l2 = some r) :
    Calls Try.prog 38 #[.agg #[.int .i64 a0_0, .int .i64 a0_1, .int .i64 a0_2], .agg #[.int .i64 a1_0, .int .i64 a1_1, .int .i64 a1_2], .slice A2 l2.length c2] w fun e w' => e = .returned (.bool r) ∧ Below w.heap.size w w' := by
  unfold profile_Within.f at h
  by_cases c : l2.length ≤ 1000000000000
  · rw [if_pos c] at h
    obtain rfl := Option.some.inj h
    exact callsIn_wide.1 (Ticks.within_in withinB fitsB (fun x y w => profile_within.calls x y _ w rfl) (fun x y z p v a w => profile_fits.calls x y z p v a _ w (fits_f x y z p v a)) 3 (Nat.le_refl _) a0_0 a0_1 a0_2 a1_0 a1_1 a1_2 A2 l2 c2 w (Ticks.argOf hr2).1 (Ticks.argOf hr2).2 (by omega))
  · rw [if_neg c] at h
    cases h

attribute [local go_sem high] eqA37

/-! ### ambidexterlaw22_MintimeReaches: function 14 -/
mutual
def ambidexterlaw22_MintimeReaches.j0 : Nat → Bool → Int → List Int → Int → Bool → List (S37) → Bool → Option (Bool)
  | 0, _, _, _, _, _, _, _ => none
  | k + 1, x5, x7, x8, x10, x11, x12, x76 => if x76 = true then (some false) else (ambidexterlaw22_MintimeReaches.l0 k x5 x7 x8 x10 x11 x12 0)
def ambidexterlaw22_MintimeReaches.l0 : Nat → Bool → Int → List Int → Int → Bool → List (S37) → Int → Option (Bool)
  | 0, _, _, _, _, _, _, _ => none
  | k + 1, x5, x7, x8, x10, x11, x12, x13 => if x13 < (x12.length : Int) then (if 0 ≤ x13 then (if ((rd_T37 x12 x13).f0) < 0 then (some false) else (if ((rd_T37 x12 x13).f0) > x7 then (some false) else (ambidexterlaw22_MintimeReaches.l0 k x5 x7 x8 x10 x11 x12 (wrap64 (x13 + 1))))) else (none)) else (if x5 = true then ((profile_Final.f 0 0 0 x8).bind fun bt345 => (if (bt345.1 == x7 && (bt345.2.1 == 0 && (bt345.2.2 == 0))) = true then (if x10 = (x8.length : Int) then (if x11 = true then (if x7 > 0 then (some true) else (some (x10 == 0))) else (some false)) else (some false)) else (some false))) else (some false))
end
def ambidexterlaw22_MintimeReaches.f (k : Nat) (a0_0 : Int) (a0_1 : Int) (a0_2 : Int) (a1 : Int) : Option (Bool) := (ambidexterlaw22_head.f k).bind fun t328 => ((ambidexterlaw22_Limits.f a0_0 a0_1 a0_2).bind fun bt329 => ((mintime_Profile.f k bt329.1 bt329.2.1 bt329.2.2 (Int.tmod (wrap64 (a1)) 421)).bind fun bt333 => ((mintime_Duration.f k bt329.1 bt329.2.1 bt329.2.2 (Int.tmod (wrap64 (a1)) 421)).bind fun bt337 => (if bt333.2 = true then ((profile_Simulate.f 0 0 0 bt333.1).bind fun t339 => (if (t339.length : Int) = (bt333.1.length : Int) then ((profile_Within.f bt329.1 bt329.2.1 bt329.2.2 0 0 0 bt333.1).bind fun t342 => (ambidexterlaw22_MintimeReaches.j0 k t328 (Int.tmod (wrap64 (a1)) 421) bt333.1 bt337.1 bt337.2 t339 (!t342))) else (ambidexterlaw22_MintimeReaches.j0 k t328 (Int.tmod (wrap64 (a1)) 421) bt333.1 bt337.1 bt337.2 t339 true))) else (if t328 = true then (if (Int.tmod (wrap64 (a1)) 421) = 1 then (if bt329.2.2 = 1 then (if (bt333.1.length : Int) = 0 then (if bt337.1 = 0 then (some (!bt337.2)) else (some false)) else (some false)) else (some false)) else (some false)) else (some false))))))
theorem ambidexterlaw22_MintimeReaches.mono_l : ∀ k, (∀ y0 y1 y2 y3 y4 y5 y6, LeO (ambidexterlaw22_MintimeReaches.j0 k y0 y1 y2 y3 y4 y5 y6) (ambidexterlaw22_MintimeReaches.j0 (k + 1) y0 y1 y2 y3 y4 y5 y6)) ∧ (∀ y0 y1 y2 y3 y4 y5 y6, LeO (ambidexterlaw22_MintimeReaches.l0 k y0 y1 y2 y3 y4 y5 y6) (ambidexterlaw22_MintimeReaches.l0 (k + 1) y0 y1 y2 y3 y4 y5 y6))
  | 0 => ⟨fun _ _ _ _ _ _ _ r h => by simp [ambidexterlaw22_MintimeReaches.j0] at h, fun _ _ _ _ _ _ _ r h => by simp [ambidexterlaw22_MintimeReaches.l0] at h⟩
  | k + 1 => by
    obtain ⟨ih0, ih1⟩ := ambidexterlaw22_MintimeReaches.mono_l k
    refine ⟨?_, ?_⟩
    · intro y0 y1 y2 y3 y4 y5 y6
      unfold ambidexterlaw22_MintimeReaches.j0
      repeat' first
      | (with_reducible exact ih0 _ _ _ _ _ _ _)
      | (with_reducible exact ih1 _ _ _ _ _ _ _)
      | (with_reducible exact ambidexterlaw22_head.mono _)
      | (with_reducible exact mintime_Duration.mono _ _ _ _ _)
      | (with_reducible exact mintime_Profile.mono _ _ _ _ _)
      | (with_reducible exact LeO.refl _)
      | (with_reducible exact LeO.none _)
      | (with_reducible refine LeO.ite ?_ ?_)
      | (with_reducible refine LeO.bind ?_ (fun _ => ?_))
      | exact ih0 _ _ _ _ _ _ _
      | exact ih1 _ _ _ _ _ _ _
      | exact ambidexterlaw22_head.mono _
      | exact mintime_Duration.mono _ _ _ _ _
      | exact mintime_Profile.mono _ _ _ _ _
      | exact LeO.none _
      | refine LeO.ite ?_ ?_
      | refine LeO.bind ?_ (fun _ => ?_)
    · intro y0 y1 y2 y3 y4 y5 y6
      unfold ambidexterlaw22_MintimeReaches.l0
      repeat' first
      | (with_reducible exact ih0 _ _ _ _ _ _ _)
      | (with_reducible exact ih1 _ _ _ _ _ _ _)
      | (with_reducible exact ambidexterlaw22_head.mono _)
      | (with_reducible exact mintime_Duration.mono _ _ _ _ _)
      | (with_reducible exact mintime_Profile.mono _ _ _ _ _)
      | (with_reducible exact LeO.refl _)
      | (with_reducible exact LeO.none _)
      | (with_reducible refine LeO.ite ?_ ?_)
      | (with_reducible refine LeO.bind ?_ (fun _ => ?_))
      | exact ih0 _ _ _ _ _ _ _
      | exact ih1 _ _ _ _ _ _ _
      | exact ambidexterlaw22_head.mono _
      | exact mintime_Duration.mono _ _ _ _ _
      | exact mintime_Profile.mono _ _ _ _ _
      | exact LeO.none _
      | refine LeO.ite ?_ ?_
      | refine LeO.bind ?_ (fun _ => ?_)
theorem ambidexterlaw22_MintimeReaches.mono : ∀ a0 a1 a2 a3 k, LeO (ambidexterlaw22_MintimeReaches.f k a0 a1 a2 a3) (ambidexterlaw22_MintimeReaches.f (k + 1) a0 a1 a2 a3) := by
  intro a0 a1 a2 a3 k
  obtain ⟨ih0, ih1⟩ := ambidexterlaw22_MintimeReaches.mono_l k
  unfold ambidexterlaw22_MintimeReaches.f
  repeat' first
      | (with_reducible exact ih0 _ _ _ _ _ _ _)
      | (with_reducible exact ih1 _ _ _ _ _ _ _)
      | (with_reducible exact ambidexterlaw22_head.mono _)
      | (with_reducible exact mintime_Duration.mono _ _ _ _ _)
      | (with_reducible exact mintime_Profile.mono _ _ _ _ _)
      | (with_reducible exact LeO.refl _)
      | (with_reducible exact LeO.none _)
      | (with_reducible refine LeO.ite ?_ ?_)
      | (with_reducible refine LeO.bind ?_ (fun _ => ?_))
      | exact ih0 _ _ _ _ _ _ _
      | exact ih1 _ _ _ _ _ _ _
      | exact ambidexterlaw22_head.mono _
      | exact mintime_Duration.mono _ _ _ _ _
      | exact mintime_Profile.mono _ _ _ _ _
      | exact LeO.none _
      | refine LeO.ite ?_ ?_
      | refine LeO.bind ?_ (fun _ => ?_)
set_option maxHeartbeats 8000000 in
set_option maxRecDepth 100000 in
theorem ambidexterlaw22_MintimeReaches.calls0 (k : Nat) (a0_0 : Int) (a0_1 : Int) (a0_2 : Int) (a1 : Int) (r : Bool) (w : World) (h : ambidexterlaw22_MintimeReaches.f k a0_0 a0_1 a0_2 a1 = some r) (hT : r = true) :
    Calls Try.prog 14 #[.agg #[.int .u8 a0_0, .int .u8 a0_1, .int .u8 a0_2], .int .u16 a1] w fun e w' => e = .returned (.bool r) ∧ Below w.heap.size w w' := by
  have hu32 := Try.underlying32
  have hu23 := Try.underlying23
  have hu37 := Try.underlying37
  have HB := Aside0.mk (Below.refl w.heap.size w)
  have H : ((ambidexterlaw22_head.f k).bind fun t328 => ((ambidexterlaw22_Limits.f a0_0 a0_1 a0_2).bind fun bt329 => ((mintime_Profile.f k bt329.1 bt329.2.1 bt329.2.2 (Int.tmod (wrap64 (a1)) 421)).bind fun bt333 => ((mintime_Duration.f k bt329.1 bt329.2.1 bt329.2.2 (Int.tmod (wrap64 (a1)) 421)).bind fun bt337 => (if bt333.2 = true then ((profile_Simulate.f 0 0 0 bt333.1).bind fun t339 => (if (t339.length : Int) = (bt333.1.length : Int) then ((profile_Within.f bt329.1 bt329.2.1 bt329.2.2 0 0 0 bt333.1).bind fun t342 => (ambidexterlaw22_MintimeReaches.j0 k t328 (Int.tmod (wrap64 (a1)) 421) bt333.1 bt337.1 bt337.2 t339 (!t342))) else (ambidexterlaw22_MintimeReaches.j0 k t328 (Int.tmod (wrap64 (a1)) 421) bt333.1 bt337.1 bt337.2 t339 true))) else (if t328 = true then (if (Int.tmod (wrap64 (a1)) 421) = 1 then (if bt329.2.2 = 1 then (if (bt333.1.length : Int) = 0 then (if bt337.1 = 0 then (some (!bt337.2)) else (some false)) else (some false)) else (some false)) else (some false)) else (some false))))))) = some r := h
  clear h
  have HT := Aside0.mk hT
  clear hT
  replace H := Option.bind_eq_some_iff.mp H
  obtain ⟨t328, A30, H⟩ := H
  obtain rfl := ambidexterlaw22_head.is_true k A30
  replace H : ((ambidexterlaw22_Limits.f a0_0 a0_1 a0_2).bind fun bt329 => ((mintime_Profile.f k bt329.1 bt329.2.1 bt329.2.2 (Int.tmod (wrap64 (a1)) 421)).bind fun bt333 => ((mintime_Duration.f k bt329.1 bt329.2.1 bt329.2.2 (Int.tmod (wrap64 (a1)) 421)).bind fun bt337 => (if bt333.2 = true then ((profile_Simulate.f 0 0 0 bt333.1).bind fun t339 => (if (t339.length : Int) = (bt333.1.length : Int) then ((profile_Within.f bt329.1 bt329.2.1 bt329.2.2 0 0 0 bt333.1).bind fun t342 => (ambidexterlaw22_MintimeReaches.j0 k true (Int.tmod (wrap64 (a1)) 421) bt333.1 bt337.1 bt337.2 t339 (!t342))) else (ambidexterlaw22_MintimeReaches.j0 k true (Int.tmod (wrap64 (a1)) 421) bt333.1 bt337.1 bt337.2 t339 true))) else (if true = true then (if (Int.tmod (wrap64 (a1)) 421) = 1 then (if bt329.2.2 = 1 then (if (bt333.1.length : Int) = 0 then (if bt337.1 = 0 then (some (!bt337.2)) else (some false)) else (some false)) else (some false)) else (some false)) else (some false)))))) = some r := H
  have A3 := Aside0.mk A30
  clear A30
  replace H := Option.bind_eq_some_iff.mp H
  obtain ⟨⟨t329, t330, t331⟩, A40, H⟩ := H
  replace H : ((mintime_Profile.f k t329 t330 t331 (Int.tmod (wrap64 (a1)) 421)).bind fun bt333 => ((mintime_Duration.f k t329 t330 t331 (Int.tmod (wrap64 (a1)) 421)).bind fun bt337 => (if bt333.2 = true then ((profile_Simulate.f 0 0 0 bt333.1).bind fun t339 => (if (t339.length : Int) = (bt333.1.length : Int) then ((profile_Within.f t329 t330 t331 0 0 0 bt333.1).bind fun t342 => (ambidexterlaw22_MintimeReaches.j0 k true (Int.tmod (wrap64 (a1)) 421) bt333.1 bt337.1 bt337.2 t339 (!t342))) else (ambidexterlaw22_MintimeReaches.j0 k true (Int.tmod (wrap64 (a1)) 421) bt333.1 bt337.1 bt337.2 t339 true))) else (if true = true then (if (Int.tmod (wrap64 (a1)) 421) = 1 then (if t331 = 1 then (if (bt333.1.length : Int) = 0 then (if bt337.1 = 0 then (some (!bt337.2)) else (some false)) else (some false)) else (some false)) else (some false)) else (some false))))) = some r := H
  have A4 := Aside0.mk A40
  clear A40
  replace H := Option.bind_eq_some_iff.mp H
  obtain ⟨⟨t333, t336⟩, A50, H⟩ := H
  replace H : ((mintime_Duration.f k t329 t330 t331 (Int.tmod (wrap64 (a1)) 421)).bind fun bt337 => (if t336 = true then ((profile_Simulate.f 0 0 0 t333).bind fun t339 => (if (t339.length : Int) = (t333.length : Int) then ((profile_Within.f t329 t330 t331 0 0 0 t333).bind fun t342 => (ambidexterlaw22_MintimeReaches.j0 k true (Int.tmod (wrap64 (a1)) 421) t333 bt337.1 bt337.2 t339 (!t342))) else (ambidexterlaw22_MintimeReaches.j0 k true (Int.tmod (wrap64 (a1)) 421) t333 bt337.1 bt337.2 t339 true))) else (if true = true then (if (Int.tmod (wrap64 (a1)) 421) = 1 then (if t331 = 1 then (if (t333.length : Int) = 0 then (if bt337.1 = 0 then (some (!bt337.2)) else (some false)) else (some false)) else (some false)) else (some false)) else (some false)))) = some r := H
  have A5 := Aside0.mk A50
  clear A50
  replace H := Option.bind_eq_some_iff.mp H
  obtain ⟨⟨t337, t338⟩, A60, H⟩ := H
  replace H : (if t336 = true then ((profile_Simulate.f 0 0 0 t333).bind fun t339 => (if (t339.length : Int) = (t333.length : Int) then ((profile_Within.f t329 t330 t331 0 0 0 t333).bind fun t342 => (ambidexterlaw22_MintimeReaches.j0 k true (Int.tmod (wrap64 (a1)) 421) t333 t337 t338 t339 (!t342))) else (ambidexterlaw22_MintimeReaches.j0 k true (Int.tmod (wrap64 (a1)) 421) t333 t337 t338 t339 true))) else (if true = true then (if (Int.tmod (wrap64 (a1)) 421) = 1 then (if t331 = 1 then (if (t333.length : Int) = 0 then (if t337 = 0 then (some (!t338)) else (some false)) else (some false)) else (some false)) else (some false)) else (some false))) = some r := H
  have A6 := Aside0.mk A60
  clear A60
  by_cases c7 : t336 = true
  · subst c7
    have H1 : ((profile_Simulate.f 0 0 0 t333).bind fun t339 => (if (t339.length : Int) = (t333.length : Int) then ((profile_Within.f t329 t330 t331 0 0 0 t333).bind fun t342 => (ambidexterlaw22_MintimeReaches.j0 k true (Int.tmod (wrap64 (a1)) 421) t333 t337 t338 t339 (!t342))) else (ambidexterlaw22_MintimeReaches.j0 k true (Int.tmod (wrap64 (a1)) 421) t333 t337 t338 t339 true))) = some r := by rw [if_pos rfl] at H; exact H
    clear H
    have H := H1
    clear H1
    replace H := Option.bind_eq_some_iff.mp H
    obtain ⟨t339, A80, H⟩ := H
    replace H : (if (t339.length : Int) = (t333.length : Int) then ((profile_Within.f t329 t330 t331 0 0 0 t333).bind fun t342 => (ambidexterlaw22_MintimeReaches.j0 k true (Int.tmod (wrap64 (a1)) 421) t333 t337 t338 t339 (!t342))) else (ambidexterlaw22_MintimeReaches.j0 k true (Int.tmod (wrap64 (a1)) 421) t333 t337 t338 t339 true)) = some r := H
    have A8 := Aside0.mk A80
    clear A80
    have HC9 := Aside0.mk H
    clear H
    go_enter Try.func14, Try.ntmps14
    go_upto_region 9 with (first | ((with_reducible refine gate_dst (N := 2) rfl ?_); (try (refine gate_guard (by rfl) ?_; dsimp only)); refine box_event ?hg (N := 2) ?hd (cs := #[.int .u8 a0_0, .int .u8 a0_1, .int .u8 a0_2]) (t := 32) ?hr ?_; (case hd => rfl); (case hg => rfl); (case hr => first | (go_simp; done) | (go_simp; rfl)); intro gb327 hg w10 hbox hb; have n0_ := Aside0.mk (below_step (by repeat (first | (with_reducible first | exact HB.out | apply below_alloc | apply pw_below_drewN | apply below_drew1) | exact HB.out)) hb); have n1_ := Aside0.mk (hbox); have n2_ := Aside0.mk ((by rw [hg]; exact (below_size (by repeat (first | (with_reducible first | exact HB.out | apply below_alloc | apply pw_below_drewN | apply below_drew1) | exact HB.out))) : w.heap.size ≤ gb327)); have n3_ := Aside0.mk ((by rw [hg]; exact (below_size (by repeat (first | (with_reducible first | exact HB.out | apply below_alloc | apply pw_below_drewN | apply below_drew1) | exact HB.out))) : w.heap.size ≤ gb327)); clear HB; have HB := n0_; have BK327 := n1_; have GW327 := n2_; have GE327 := n3_; clear n0_ n1_ n2_ n3_; clear hb hbox hg) | ((with_reducible refine gate_callee (f := 15) rfl ?_); refine goesL_ (some 14) rfl rfl Try.func15 (by kernel_rfl) rfl #[] rfl (by (try simp only [List.map_toArray, List.map_cons, List.map_nil]); first | done | rfl | (simp only [List.length_drop, List.length_take]; rfl)) ?_; (with_reducible refine (ambidexterlaw22_head.calls k  true _ A3.out).mono ?_); rintro e w11 ⟨rfl, hb⟩; refine ⟨_, rfl, ?_⟩; have n0_ := Aside0.mk (blk_below (g := gb327) (o := .cells #[.int .u8 a0_0, .int .u8 a0_1, .int .u8 a0_2] 32 (0, 0)) (by (with_reducible repeat (first | refine blk_drewN ?_ _ | refine blk_drew ?_ | refine blk_alloc ?_ _)); exact BK327.out) hb); have n1_ := Aside0.mk (below_step (by repeat (first | (with_reducible first | exact HB.out | apply below_alloc | apply pw_below_drewN | apply below_drew1 | refine below_set ?_ GE327.out) | exact HB.out)) hb); clear BK327; clear HB; have BK327 := n0_; have HB := n1_; clear n0_ n1_; (try clear hb); (try clear hb2); (try clear hk); (try clear hi); have hcz12_0 : w11.cell? ⟨gb327, 0, none⟩ = some (.int .u8 a0_0) := (blk_cell BK327.out 0).trans rfl; have hcz12_1 : w11.cell? ⟨gb327, 1, none⟩ = some (.int .u8 a0_1) := (blk_cell BK327.out 1).trans rfl; have hcz12_2 : w11.cell? ⟨gb327, 2, none⟩ = some (.int .u8 a0_2) := (blk_cell BK327.out 2).trans rfl; have hfz12_0 := blk_frozen BK327.out 0; have hfz12_1 := blk_frozen BK327.out 1; have hfz12_2 := blk_frozen BK327.out 2) | ((with_reducible refine gate_callee (f := 20) rfl ?_); refine goesL_ (some 21) rfl rfl Try.func20 (by kernel_rfl) rfl #[.int .u8 a0_0, .int .u8 a0_1, .int .u8 a0_2] rfl (by (try simp only [List.map_toArray, List.map_cons, List.map_nil]); first | done | rfl | (simp only [List.length_drop, List.length_take]; rfl)) ?_; (with_reducible refine (ambidexterlaw22_Limits.calls a0_0 a0_1 a0_2 t329 t330 t331 _ A4.out).mono ?_); rintro e w13 ⟨rfl, hb⟩; refine ⟨_, rfl, ?_⟩; have n0_ := Aside0.mk (blk_below (g := gb327) (o := .cells #[.int .u8 a0_0, .int .u8 a0_1, .int .u8 a0_2] 32 (0, 0)) (by (with_reducible repeat (first | refine blk_drewN ?_ _ | refine blk_drew ?_ | refine blk_alloc ?_ _)); exact BK327.out) hb); have n1_ := Aside0.mk (below_step (by repeat (first | (with_reducible first | exact HB.out | apply below_alloc | apply pw_below_drewN | apply below_drew1 | refine below_set ?_ GE327.out) | exact HB.out)) hb); clear BK327; clear HB; have BK327 := n0_; have HB := n1_; clear n0_ n1_; (try clear hb); (try clear hb2); (try clear hk); (try clear hi)) | ((with_reducible refine gate_dst (N := 6) rfl ?_); (try (refine gate_guard (by rfl) ?_; dsimp only)); refine box_event ?hg (N := 6) ?hd (cs := #[.int .i64 0, .int .i64 0, .int .i64 0]) (t := 23) ?hr ?_; (case hd => rfl); (case hg => rfl); (case hr => first | (go_simp; done) | (go_simp; rfl)); intro gb332 hg w14 hbox hb; have n0_ := Aside0.mk (blk_below (g := gb327) (o := .cells #[.int .u8 a0_0, .int .u8 a0_1, .int .u8 a0_2] 32 (0, 0)) (by (with_reducible repeat (first | refine blk_drewN ?_ _ | refine blk_drew ?_ | refine blk_alloc ?_ _)); exact BK327.out) hb); have n1_ := Aside0.mk (below_step (by repeat (first | (with_reducible first | exact HB.out | apply below_alloc | apply pw_below_drewN | apply below_drew1 | refine below_set ?_ GE327.out) | exact HB.out)) hb); have n2_ := Aside0.mk (hbox); have n3_ := Aside0.mk ((by rw [hg]; exact (below_size (by repeat (first | (with_reducible first | exact HB.out | apply below_alloc | apply pw_below_drewN | apply below_drew1 | refine below_set ?_ GE327.out) | exact HB.out))) : w.heap.size ≤ gb332)); have n4_ := Aside0.mk ((by rw [hg]; exact (below_size (by repeat (first | (with_reducible first | exact HB.out | apply below_alloc | apply pw_below_drewN | apply below_drew1 | refine below_set ?_ GE327.out) | exact HB.out))) : w.heap.size ≤ gb332)); have n5_ := Aside0.mk ((by rw [hg]; exact Nat.ne_of_lt (blk_lt (g := gb327) (o := .cells #[.int .u8 a0_0, .int .u8 a0_1, .int .u8 a0_2] 32 (0, 0)) (by (with_reducible repeat (first | refine blk_drewN ?_ _ | refine blk_drew ?_ | refine blk_alloc ?_ _)); exact BK327.out)) : gb327 ≠ gb332)); have n6_ := Aside0.mk ((by rw [hg]; exact Nat.ne_of_gt (blk_lt (g := gb327) (o := .cells #[.int .u8 a0_0, .int .u8 a0_1, .int .u8 a0_2] 32 (0, 0)) (by (with_reducible repeat (first | refine blk_drewN ?_ _ | refine blk_drew ?_ | refine blk_alloc ?_ _)); exact BK327.out)) : gb332 ≠ gb327)); clear BK327; clear HB; have BK327 := n0_; have HB := n1_; have BK332 := n2_; have GW332 := n3_; have GE332 := n4_; have NB327_332 := n5_; have NB332_327 := n6_; clear n0_ n1_ n2_ n3_ n4_ n5_ n6_; clear hb hbox hg; have hnb15 := NB332_327.out; have hnc15 := NB327_332.out; have hcz16_0 : w14.cell? ⟨gb332, 0, none⟩ = some (.int .i64 0) := (blk_cell BK332.out 0).trans rfl; have hcz16_1 : w14.cell? ⟨gb332, 1, none⟩ = some (.int .i64 0) := (blk_cell BK332.out 1).trans rfl; have hcz16_2 : w14.cell? ⟨gb332, 2, none⟩ = some (.int .i64 0) := (blk_cell BK332.out 2).trans rfl; have hfz16_0 := blk_frozen BK332.out 0; have hfz16_1 := blk_frozen BK332.out 1; have hfz16_2 := blk_frozen BK332.out 2) | ((with_reducible refine gate_callee (f := 16) rfl ?_); refine goesL_ (some 28) rfl rfl Try.func16 (by kernel_rfl) rfl #[.agg #[.int .i64 t329, .int .i64 t330, .int .i64 t331], .int .i64 (Int.tmod (wrap64 (a1)) 421)] rfl (by (try simp only [List.map_toArray, List.map_cons, List.map_nil]); first | done | rfl | (simp only [List.length_drop, List.length_take]; rfl)) ?_; (with_reducible refine (mintime_Profile.calls k t329 t330 t331 (Int.tmod (wrap64 (a1)) 421) t333 true _ A5.out).mono ?_); rintro e w17 ⟨v334, rfl, ho0, hb⟩; refine ⟨_, rfl, ?_⟩; have n0_ := Aside0.mk (Kd.R_lower ho0 (below_size (by repeat (first | (with_reducible first | exact HB.out | apply below_alloc | apply pw_below_drewN | apply below_drew1 | refine below_set ?_ GE327.out | refine below_set ?_ GE332.out) | exact HB.out)))); have n1_ := Aside0.mk (blk_below (g := gb327) (o := .cells #[.int .u8 a0_0, .int .u8 a0_1, .int .u8 a0_2] 32 (0, 0)) (by (with_reducible repeat (first | refine blk_drewN ?_ _ | refine blk_drew ?_ | refine blk_alloc ?_ _)); refine blk_far ?_ NB327_332.out _; (with_reducible repeat (first | refine blk_drewN ?_ _ | refine blk_drew ?_ | refine blk_alloc ?_ _)); refine blk_far ?_ NB327_332.out _; (with_reducible repeat (first | refine blk_drewN ?_ _ | refine blk_drew ?_ | refine blk_alloc ?_ _)); refine blk_far ?_ NB327_332.out _; (with_reducible repeat (first | refine blk_drewN ?_ _ | refine blk_drew ?_ | refine blk_alloc ?_ _)); exact BK327.out) hb); have n2_ := Aside0.mk (blk_below (g := gb332) (o := .cells #[.int .i64 t329, .int .i64 t330, .int .i64 t331] 23 (0, 0)) (by (with_reducible repeat (first | refine blk_drewN ?_ _ | refine blk_drew ?_ | refine blk_alloc ?_ _)); refine blk_put (cs := #[.int .i64 t329, .int .i64 t330, .int .i64 0]) ?_ 2 _ rfl; (with_reducible repeat (first | refine blk_drewN ?_ _ | refine blk_drew ?_ | refine blk_alloc ?_ _)); refine blk_put (cs := #[.int .i64 t329, .int .i64 0, .int .i64 0]) ?_ 1 _ rfl; (with_reducible repeat (first | refine blk_drewN ?_ _ | refine blk_drew ?_ | refine blk_alloc ?_ _)); refine blk_put (cs := #[.int .i64 0, .int .i64 0, .int .i64 0]) ?_ 0 _ rfl; (with_reducible repeat (first | refine blk_drewN ?_ _ | refine blk_drew ?_ | refine blk_alloc ?_ _)); exact BK332.out) hb); have n3_ := Aside0.mk (below_step (by repeat (first | (with_reducible first | exact HB.out | apply below_alloc | apply pw_below_drewN | apply below_drew1 | refine below_set ?_ GE327.out | refine below_set ?_ GE332.out) | exact HB.out)) hb); clear BK327; clear BK332; clear HB; have HO335 := n0_; have BK327 := n1_; have BK332 := n2_; have HB := n3_; clear n0_ n1_ n2_ n3_; (try clear hb); (try clear hb2); (try clear hk); (try clear hi); (try clear ho0); have hcz18_0 : w17.cell? ⟨gb332, 0, none⟩ = some (.int .i64 t329) := (blk_cell BK332.out 0).trans rfl; have hcz18_1 : w17.cell? ⟨gb332, 1, none⟩ = some (.int .i64 t330) := (blk_cell BK332.out 1).trans rfl; have hcz18_2 : w17.cell? ⟨gb332, 2, none⟩ = some (.int .i64 t331) := (blk_cell BK332.out 2).trans rfl; have hfz18_0 := blk_frozen BK332.out 0; have hfz18_1 := blk_frozen BK332.out 1; have hfz18_2 := blk_frozen BK332.out 2) | ((with_reducible refine gate_callee (f := 18) rfl ?_); refine goesL_ (some 34) rfl rfl Try.func18 (by kernel_rfl) rfl #[.agg #[.int .i64 t329, .int .i64 t330, .int .i64 t331], .int .i64 (Int.tmod (wrap64 (a1)) 421)] rfl (by (try simp only [List.map_toArray, List.map_cons, List.map_nil]); first | done | rfl | (simp only [List.length_drop, List.length_take]; rfl)) ?_; (with_reducible refine (mintime_Duration.calls k t329 t330 t331 (Int.tmod (wrap64 (a1)) 421) t337 t338 _ A6.out).mono ?_); rintro e w19 ⟨rfl, hb⟩; refine ⟨_, rfl, ?_⟩; have n0_ := Aside0.mk (Kd.R_below (by (with_reducible repeat (first | apply Kd.R_alloc | apply Kd.R_drewN | apply Kd.R_drew)); exact HO335.out) hb); have n1_ := Aside0.mk (blk_below (g := gb327) (o := .cells #[.int .u8 a0_0, .int .u8 a0_1, .int .u8 a0_2] 32 (0, 0)) (by (with_reducible repeat (first | refine blk_drewN ?_ _ | refine blk_drew ?_ | refine blk_alloc ?_ _)); exact BK327.out) hb); have n2_ := Aside0.mk (blk_below (g := gb332) (o := .cells #[.int .i64 t329, .int .i64 t330, .int .i64 t331] 23 (0, 0)) (by (with_reducible repeat (first | refine blk_drewN ?_ _ | refine blk_drew ?_ | refine blk_alloc ?_ _)); exact BK332.out) hb); have n3_ := Aside0.mk (below_step (by repeat (first | (with_reducible first | exact HB.out | apply below_alloc | apply pw_below_drewN | apply below_drew1 | refine below_set ?_ GE327.out | refine below_set ?_ GE332.out) | exact HB.out)) hb); clear HO335; clear BK327; clear BK332; clear HB; have HO335 := n0_; have BK327 := n1_; have BK332 := n2_; have HB := n3_; clear n0_ n1_ n2_ n3_; (try clear hb); (try clear hb2); (try clear hk); (try clear hi); obtain ⟨Ao20, co20, eo20⟩ := Kd.R_slice HO335.out; subst eo20) | ((with_reducible refine gate_callee (f := 36) rfl ?_); refine goesL_ (some 64) rfl rfl Try.func36 (by kernel_rfl) rfl #[.agg #[.int .i64 0, .int .i64 0, .int .i64 0], .slice Ao20 t333.length co20] rfl (by (try simp only [List.map_toArray, List.map_cons, List.map_nil]); first | done | rfl | (simp only [List.length_drop, List.length_take]; rfl)) ?_; (with_reducible refine (profile_Simulate.calls 0 0 0 _ _ t333 t339 _ ?side1 ?side2 A8.out).mono ?_); (case side1 => repeat (first | exact (Kd.R_reads' HO335.out).2.2 | (with_reducible refine Kd.C_alloc ?_ _) | (with_reducible refine Kd.C_drewN ?_ _) | (with_reducible refine Kd.C_drew ?_))); (case side2 => exact (Kd.R_reads' HO335.out).2.1); rintro e w21 ⟨v340, rfl, ho0, hb⟩; refine ⟨_, rfl, ?_⟩; have n0_ := Aside0.mk (Kd.R_below (by (with_reducible repeat (first | apply Kd.R_alloc | apply Kd.R_drewN | apply Kd.R_drew)); exact HO335.out) hb); have n1_ := Aside0.mk (Kd.R_lower ho0 (below_size (by repeat (first | (with_reducible first | exact HB.out | apply below_alloc | apply pw_below_drewN | apply below_drew1 | refine below_set ?_ GE327.out | refine below_set ?_ GE332.out) | exact HB.out)))); have n2_ := Aside0.mk (blk_below (g := gb327) (o := .cells #[.int .u8 a0_0, .int .u8 a0_1, .int .u8 a0_2] 32 (0, 0)) (by (with_reducible repeat (first | refine blk_drewN ?_ _ | refine blk_drew ?_ | refine blk_alloc ?_ _)); exact BK327.out) hb); have n3_ := Aside0.mk (blk_below (g := gb332) (o := .cells #[.int .i64 t329, .int .i64 t330, .int .i64 t331] 23 (0, 0)) (by (with_reducible repeat (first | refine blk_drewN ?_ _ | refine blk_drew ?_ | refine blk_alloc ?_ _)); exact BK332.out) hb); have n4_ := Aside0.mk (below_step (by repeat (first | (with_reducible first | exact HB.out | apply below_alloc | apply pw_below_drewN | apply below_drew1 | refine below_set ?_ GE327.out | refine below_set ?_ GE332.out) | exact HB.out)) hb); clear HO335; clear BK327; clear BK332; clear HB; have HO335 := n0_; have HO341 := n1_; have BK327 := n2_; have BK332 := n3_; have HB := n4_; clear n0_ n1_ n2_ n3_ n4_; (try clear hb); (try clear hb2); (try clear hk); (try clear hi); (try clear ho0)))
    (try simp only [Act.put, List.setIfInBounds_toArray, List.set_cons_zero, List.set_cons_succ])
    go_cut [76] (fun v76 wc => ∃ (kq : Nat) (x76_8 : Bool), v76 = .bool x76_8 ∧ Aside0 (ambidexterlaw22_MintimeReaches.j0 kq true (Int.tmod (wrap64 (a1)) 421) t333 t337 t338 t339 x76_8 = some r) ∧ Aside0 (kq ≤ k) ∧ Aside0 (Kd.R (Kd.int .i64) 3 wc w.heap.size (fun _ => True) (.slice Ao20 t333.length co20) t333) ∧ Aside0 (Kd.R k37 37 wc w.heap.size (fun _ => True) v340 t339) ∧ Aside0 (wc.heap[gb327]? = some (.cells #[.int .u8 a0_0, .int .u8 a0_1, .int .u8 a0_2] 32 (0, 0))) ∧ Aside0 (wc.heap[gb332]? = some (.cells #[.int .i64 t329, .int .i64 t330, .int .i64 t331] 23 (0, 0))) ∧ Aside0 (Below w.heap.size w wc))
    case first =>
      have H := HC9.out
      clear HC9
      by_cases c22 : (t339.length : Int) = (t333.length : Int)
      · rw [if_pos c22] at H
        have c22b0 : ((t339.length : Int) == (t333.length : Int)) = true := beq_iff_eq.mpr c22
        have c22b1 : ((t339.length : Int) != (t333.length : Int)) = false := bne_eq_false_iff_eq.mpr c22
        have c22b2 : (t339.length == t333.length) = true := by first | simpa using c22 | (simp at c22 ⊢; omega)
        clear c22
        (first | rw [c22b0] | (simp only [i64_w, i32_w]; rw [c22b0]) | skip)
        replace H := Option.bind_eq_some_iff.mp H
        obtain ⟨t342, A230, H⟩ := H
        replace H : (ambidexterlaw22_MintimeReaches.j0 k true (Int.tmod (wrap64 (a1)) 421) t333 t337 t338 t339 (!t342)) = some r := H
        have A23 := Aside0.mk A230
        clear A230
        have H' := Aside0.mk H
        clear H
        obtain ⟨Ao24, co24, eo24⟩ := Kd.R_slice HO341.out
        subst eo24
        have hnb25 := NB332_327.out
        have hnc25 := NB327_332.out
        have hcz26_0 : w21.cell? ⟨gb332, 0, none⟩ = some (.int .i64 t329) := (blk_cell BK332.out 0).trans rfl
        have hcz26_1 : w21.cell? ⟨gb332, 1, none⟩ = some (.int .i64 t330) := (blk_cell BK332.out 1).trans rfl
        have hcz26_2 : w21.cell? ⟨gb332, 2, none⟩ = some (.int .i64 t331) := (blk_cell BK332.out 2).trans rfl
        have hfz26_0 := blk_frozen BK332.out 0
        have hfz26_1 := blk_frozen BK332.out 1
        have hfz26_2 := blk_frozen BK332.out 2
        go_wp2_with (first | (go_at_call 38; (with_reducible refine (profile_Within.calls t329 t330 t331 0 0 0 _ _ t333 t342 _ ?side1 ?side2 A23.out).mono ?_); (case side1 => repeat (first | exact (Kd.R_reads' HO335.out).2.2 | (with_reducible refine Kd.C_alloc ?_ _) | (with_reducible refine Kd.C_drewN ?_ _) | (with_reducible refine Kd.C_drew ?_))); (case side2 => exact (Kd.R_reads' HO335.out).2.1); rintro e w27 ⟨rfl, hb⟩; have n0_ := Aside0.mk (Kd.R_below (by (with_reducible repeat (first | apply Kd.R_alloc | apply Kd.R_drewN | apply Kd.R_drew)); exact HO335.out) hb); have n1_ := Aside0.mk (Kd.R_below (by (with_reducible repeat (first | apply Kd.R_alloc | apply Kd.R_drewN | apply Kd.R_drew)); exact HO341.out) hb); have n2_ := Aside0.mk (blk_below (g := gb327) (o := .cells #[.int .u8 a0_0, .int .u8 a0_1, .int .u8 a0_2] 32 (0, 0)) (by (with_reducible repeat (first | refine blk_drewN ?_ _ | refine blk_drew ?_ | refine blk_alloc ?_ _)); exact BK327.out) hb); have n3_ := Aside0.mk (blk_below (g := gb332) (o := .cells #[.int .i64 t329, .int .i64 t330, .int .i64 t331] 23 (0, 0)) (by (with_reducible repeat (first | refine blk_drewN ?_ _ | refine blk_drew ?_ | refine blk_alloc ?_ _)); exact BK332.out) hb); have n4_ := Aside0.mk (below_step (by repeat (first | (with_reducible first | exact HB.out | apply below_alloc | apply pw_below_drewN | apply below_drew1 | refine below_set ?_ GE327.out | refine below_set ?_ GE332.out) | exact HB.out)) hb); clear HO335; clear HO341; clear BK327; clear BK332; clear HB; have HO335 := n0_; have HO341 := n1_; have BK327 := n2_; have BK332 := n3_; have HB := n4_; clear n0_ n1_ n2_ n3_ n4_; (try clear hb); (try clear hb2); (try clear hk); (try clear hi)))
        go_meet
        case rel => exact ⟨_, (!t342), (by first | rfl | (simp; done) | (simp [*]; done)), H', ⟨by first | omega | exact Nat.le_refl _⟩, ⟨by (with_reducible repeat (first | apply Kd.R_alloc | apply Kd.R_drewN | apply Kd.R_drew)); exact HO335.out⟩, ⟨by (with_reducible repeat (first | apply Kd.R_alloc | apply Kd.R_drewN | apply Kd.R_drew)); exact HO341.out⟩, ⟨by (with_reducible repeat (first | refine blk_drewN ?_ _ | refine blk_drew ?_ | refine blk_alloc ?_ _)); exact BK327.out⟩, ⟨by (with_reducible repeat (first | refine blk_drewN ?_ _ | refine blk_drew ?_ | refine blk_alloc ?_ _)); exact BK332.out⟩, ⟨by repeat (first | (with_reducible first | exact HB.out | apply below_alloc | apply pw_below_drewN | apply below_drew1 | refine below_set ?_ GE327.out | refine below_set ?_ GE332.out) | exact HB.out)⟩⟩
      · rw [if_neg c22] at H
        have c22b0 : ((t339.length : Int) == (t333.length : Int)) = false := beq_eq_false_iff_ne.mpr c22
        have c22b1 : ((t339.length : Int) != (t333.length : Int)) = true := bne_iff_ne.mpr c22
        have c22b2 : (t339.length == t333.length) = false := by first | simpa using c22 | (simp at c22 ⊢; omega)
        (first | rw [c22b0] | (simp only [i64_w, i32_w]; rw [c22b0]) | skip)
        have H' := Aside0.mk H
        clear H
        obtain ⟨Ao28, co28, eo28⟩ := Kd.R_slice HO341.out
        subst eo28
        go_wp2
        go_meet
        case rel => exact ⟨_, (true), (by first | rfl | (simp; done) | (simp [*]; done)), H', ⟨by first | omega | exact Nat.le_refl _⟩, ⟨by (with_reducible repeat (first | apply Kd.R_alloc | apply Kd.R_drewN | apply Kd.R_drew)); exact HO335.out⟩, ⟨by (with_reducible repeat (first | apply Kd.R_alloc | apply Kd.R_drewN | apply Kd.R_drew)); exact HO341.out⟩, ⟨by (with_reducible repeat (first | refine blk_drewN ?_ _ | refine blk_drew ?_ | refine blk_alloc ?_ _)); exact BK327.out⟩, ⟨by (with_reducible repeat (first | refine blk_drewN ?_ _ | refine blk_drew ?_ | refine blk_alloc ?_ _)); exact BK332.out⟩, ⟨by repeat (first | (with_reducible first | exact HB.out | apply below_alloc | apply pw_below_drewN | apply below_drew1 | refine below_set ?_ GE327.out | refine below_set ?_ GE332.out) | exact HB.out)⟩⟩
    case rest =>
      clear HC9
      try clear c1
      try clear c2
      try clear p2
      try clear c3
      try clear p6
      try clear c7
      try clear c14
      try clear c15
      try clear c16
      try clear c18
      try clear c20
      try clear c22
      try clear c22b0
      try clear c22b1
      try clear c22b2
      try clear c25
      try clear hcz12_0
      try clear hcz12_1
      try clear hcz12_2
      try clear hcz16_0
      try clear hcz16_1
      try clear hcz16_2
      try clear hcz18_0
      try clear hcz18_1
      try clear hcz18_2
      try clear hcz26_0
      try clear hcz26_1
      try clear hcz26_2
      try clear hfz12_0
      try clear hfz12_1
      try clear hfz12_2
      try clear hfz16_0
      try clear hfz16_1
      try clear hfz16_2
      try clear hfz18_0
      try clear hfz18_1
      try clear hfz18_2
      try clear hfz26_0
      try clear hfz26_1
      try clear hfz26_2
      obtain ⟨kq, x76_8, rfl, HA, HJ8, HO_8, HO_12, BK327, BK332, HB⟩ := hcut
      cases kq with
      | zero => exact absurd HA.out (by simp [ambidexterlaw22_MintimeReaches.j0])
      | succ kj8 =>
        have H := HA.out
        clear HA
        simp only [ambidexterlaw22_MintimeReaches.j0] at H
        by_cases c29 : x76_8 = true
        · subst c29
          have H1 : (some false) = some r := by rw [if_pos rfl] at H; exact H
          clear H
          have H := H1
          clear H1
          exact absurd HT.out (by rw [← Option.some.inj H]; decide)
        · replace c29 := Bool.eq_false_iff.mpr c29
          subst c29
          have H1 : (ambidexterlaw22_MintimeReaches.l0 kj8 true (Int.tmod (wrap64 (a1)) 421) t333 t337 t338 t339 0) = some r := by rw [if_neg (show ¬ (false = true) by decide)] at H; exact H
          clear H
          have H := H1
          clear H1
          have H' := Aside0.mk H
          clear H
          go_wp2
          go_loopg [13] kj8 (fun kq v13 w' => ∃ (x13_2 : Int), v13 = .int .i64 x13_2 ∧ Aside0 (ambidexterlaw22_MintimeReaches.l0 kq true (Int.tmod (wrap64 (a1)) 421) t333 t337 t338 t339 x13_2 = some r) ∧ Aside0 (kq ≤ kj8) ∧ Aside0 (Kd.R (Kd.int .i64) 3 w' w.heap.size (fun _ => True) (.slice Ao20 t333.length co20) t333) ∧ Aside0 (Kd.R k37 37 w' w.heap.size (fun _ => True) v340 t339) ∧ Aside0 (w'.heap[gb327]? = some (.cells #[.int .u8 a0_0, .int .u8 a0_1, .int .u8 a0_2] 32 (0, 0))) ∧ Aside0 (w'.heap[gb332]? = some (.cells #[.int .i64 t329, .int .i64 t330, .int .i64 t331] 23 (0, 0))) ∧ Aside0 (Below w.heap.size w w'))
          case atStart => exact ⟨(0), (by first | rfl | (simp; done) | (simp [*]; done)), H', ⟨Nat.le_refl _⟩, ⟨by (with_reducible repeat (first | apply Kd.R_alloc | apply Kd.R_drewN | apply Kd.R_drew)); exact HO_8.out⟩, ⟨by (with_reducible repeat (first | apply Kd.R_alloc | apply Kd.R_drewN | apply Kd.R_drew)); exact HO_12.out⟩, ⟨by (with_reducible repeat (first | refine blk_drewN ?_ _ | refine blk_drew ?_ | refine blk_alloc ?_ _)); exact BK327.out⟩, ⟨by (with_reducible repeat (first | refine blk_drewN ?_ _ | refine blk_drew ?_ | refine blk_alloc ?_ _)); exact BK332.out⟩, ⟨by repeat (first | (with_reducible first | exact HB.out | apply below_alloc | apply pw_below_drewN | apply below_drew1 | refine below_set ?_ GE327.out | refine below_set ?_ GE332.out) | exact HB.out)⟩⟩
          case round =>
            clear H'
            try clear c1
            try clear c2
            try clear p2
            try clear c3
            try clear p6
            try clear c7
            try clear c14
            try clear c15
            try clear c16
            try clear c18
            try clear c20
            try clear c22
            try clear c22b0
            try clear c22b1
            try clear c22b2
            try clear c25
            try clear c29
            try clear hcz12_0
            try clear hcz12_1
            try clear hcz12_2
            try clear hcz16_0
            try clear hcz16_1
            try clear hcz16_2
            try clear hcz18_0
            try clear hcz18_1
            try clear hcz18_2
            try clear hcz26_0
            try clear hcz26_1
            try clear hcz26_2
            try clear hfz12_0
            try clear hfz12_1
            try clear hfz12_2
            try clear hfz16_0
            try clear hfz16_1
            try clear hfz16_2
            try clear hfz18_0
            try clear hfz18_1
            try clear hfz18_2
            try clear hfz26_0
            try clear hfz26_1
            try clear hfz26_2
            try clear p2
            try clear p6
            obtain ⟨x13_2, rfl, HA, HK2, HO_8, HO_12, BK327, BK332, HB⟩ := hrel
            cases gk with
            | zero => exact absurd HA.out (by simp [ambidexterlaw22_MintimeReaches.l0])
            | succ k2 =>
              have H := HA.out
              clear HA
              simp only [ambidexterlaw22_MintimeReaches.l0] at H
              by_cases c30 : x13_2 < (t339.length : Int)
              · rw [if_pos c30] at H
                have c30b0 : decide (x13_2 < (t339.length : Int)) = true := decide_eq_true c30
                clear c30
                by_cases c31 : 0 ≤ x13_2
                · rw [if_pos c31] at H
                  have c31b0 : decide (0 ≤ x13_2) = true := decide_eq_true c31
                  clear c31
                  by_cases c32 : ((rd_T37 t339 x13_2).f0) < 0
                  · rw [if_pos c32] at H
                    have c32b0 : decide (((rd_T37 t339 x13_2).f0) < 0) = true := decide_eq_true c32
                    clear c32
                    exact absurd HT.out (by rw [← Option.some.inj H]; decide)
                  · rw [if_neg c32] at H
                    have c32b0 : decide (((rd_T37 t339 x13_2).f0) < 0) = false := decide_eq_false c32
                    clear c32
                    by_cases c33 : ((rd_T37 t339 x13_2).f0) > (Int.tmod (wrap64 (a1)) 421)
                    · rw [if_pos c33] at H
                      have c33b0 : decide ((Int.tmod (wrap64 (a1)) 421) < ((rd_T37 t339 x13_2).f0)) = true := decide_eq_true c33
                      clear c33
                      exact absurd HT.out (by rw [← Option.some.inj H]; decide)
                    · rw [if_neg c33] at H
                      have c33b0 : decide ((Int.tmod (wrap64 (a1)) 421) < ((rd_T37 t339 x13_2).f0)) = false := decide_eq_false c33
                      clear c33
                      have H' := Aside0.mk H
                      clear H
                      obtain ⟨Ao34, co34, eo34⟩ := Kd.R_slice HO_12.out
                      subst eo34
                      have p343 : 0 ≤ (x13_2 : Int) := of_decide_eq_true (by first | (with_reducible assumption) | assumption)
                      have q343 : x13_2 < (t339.length : Int) := of_decide_eq_true (by first | (with_reducible assumption) | assumption)
                      obtain ⟨ad343, e343, hx343_0, hx343_1, hx343_2⟩ := at_T37 (Kd.R_reads' HO_12.out).2.2 x13_2 p343 q343
                      cases e343
                      replace p343 := eq_true p343
                      replace q343 := eq_true q343
                      have p344 : 0 ≤ (x13_2 : Int) := of_decide_eq_true (by first | (with_reducible assumption) | assumption)
                      have q344 : x13_2 < (t339.length : Int) := of_decide_eq_true (by first | (with_reducible assumption) | assumption)
                      obtain ⟨ad344, e344, hx344_0, hx344_1, hx344_2⟩ := at_T37 (Kd.R_reads' HO_12.out).2.2 x13_2 p344 q344
                      obtain rfl : ad343 = ad344 := (by injection e344)
                      replace p344 := eq_true p344
                      replace q344 := eq_true q344
                      go_wp2
                      go_roundg k2
                      case measure => have := HJ8.out; have := HK2.out; omega
                      case rel => exact ⟨(wrap64 (x13_2 + 1)), (by first | rfl | (simp; done) | (simp [*]; done)), H', ⟨by have := HJ8.out; have := HK2.out; omega⟩, ⟨by (with_reducible repeat (first | apply Kd.R_alloc | apply Kd.R_drewN | apply Kd.R_drew)); exact HO_8.out⟩, ⟨by (with_reducible repeat (first | apply Kd.R_alloc | apply Kd.R_drewN | apply Kd.R_drew)); exact HO_12.out⟩, ⟨by (with_reducible repeat (first | refine blk_drewN ?_ _ | refine blk_drew ?_ | refine blk_alloc ?_ _)); exact BK327.out⟩, ⟨by (with_reducible repeat (first | refine blk_drewN ?_ _ | refine blk_drew ?_ | refine blk_alloc ?_ _)); exact BK332.out⟩, ⟨by repeat (first | (with_reducible first | exact HB.out | apply below_alloc | apply pw_below_drewN | apply below_drew1 | refine below_set ?_ GE327.out | refine below_set ?_ GE332.out) | exact HB.out)⟩⟩
                · rw [if_neg c31] at H
                  exact absurd H (by simp)
              · rw [if_neg c30] at H
                have c30b0 : decide (x13_2 < (t339.length : Int)) = false := decide_eq_false c30
                clear c30
                have H1 : ((profile_Final.f 0 0 0 t333).bind fun bt345 => (if (bt345.1 == (Int.tmod (wrap64 (a1)) 421) && (bt345.2.1 == 0 && (bt345.2.2 == 0))) = true then (if t337 = (t333.length : Int) then (if t338 = true then (if (Int.tmod (wrap64 (a1)) 421) > 0 then (some true) else (some (t337 == 0))) else (some false)) else (some false)) else (some false))) = some r := by first | (rw [if_pos rfl] at H; exact H) | (rw [if_pos True.intro] at H; exact H)
                clear H
                have H := H1
                clear H1
                replace H := Option.bind_eq_some_iff.mp H
                obtain ⟨⟨t345, t346, t347⟩, A350, H⟩ := H
                replace H : (if (t345 == (Int.tmod (wrap64 (a1)) 421) && (t346 == 0 && (t347 == 0))) = true then (if t337 = (t333.length : Int) then (if t338 = true then (if (Int.tmod (wrap64 (a1)) 421) > 0 then (some true) else (some (t337 == 0))) else (some false)) else (some false)) else (some false)) = some r := H
                have A35 := Aside0.mk A350
                clear A350
                by_cases c36 : (t345 == (Int.tmod (wrap64 (a1)) 421) && (t346 == 0 && (t347 == 0))) = true
                · rw [if_pos c36] at H
                  have c36b0 : (t345 == (Int.tmod (wrap64 (a1)) 421) && (t346 == 0 && (t347 == 0))) = true := c36
                  clear c36
                  by_cases c37 : t337 = (t333.length : Int)
                  · rw [if_pos c37] at H
                    have c37b0 : (t337 == (t333.length : Int)) = true := beq_iff_eq.mpr c37
                    have c37b1 : (t337 != (t333.length : Int)) = false := bne_eq_false_iff_eq.mpr c37
                    clear c37
                    by_cases c38 : t338 = true
                    · subst c38
                      have H1 : (if (Int.tmod (wrap64 (a1)) 421) > 0 then (some true) else (some (t337 == 0))) = some r := by rw [if_pos rfl] at H; exact H
                      clear H
                      have H := H1
                      clear H1
                      by_cases c39 : (Int.tmod (wrap64 (a1)) 421) > 0
                      · rw [if_pos c39] at H
                        have c39b0 : decide (0 < (Int.tmod (wrap64 (a1)) 421)) = true := decide_eq_true c39
                        clear c39
                        obtain rfl := Option.some.inj H
                        obtain ⟨Ao40, co40, eo40⟩ := Kd.R_slice HO_12.out
                        subst eo40
                        go_wp2_with (first | (go_at_call 22; (with_reducible refine (profile_Final.calls 0 0 0 _ _ t333 t345 t346 t347 _ ?side1 ?side2 A35.out).mono ?_); (case side1 => repeat (first | exact (Kd.R_reads' HO_8.out).2.2 | (with_reducible refine Kd.C_alloc ?_ _) | (with_reducible refine Kd.C_drewN ?_ _) | (with_reducible refine Kd.C_drew ?_))); (case side2 => exact (Kd.R_reads' HO_8.out).2.1); rintro e w41 ⟨rfl, hb⟩; have n0_ := Aside0.mk (Kd.R_below (by (with_reducible repeat (first | apply Kd.R_alloc | apply Kd.R_drewN | apply Kd.R_drew)); exact HO_8.out) hb); have n1_ := Aside0.mk (Kd.R_below (by (with_reducible repeat (first | apply Kd.R_alloc | apply Kd.R_drewN | apply Kd.R_drew)); exact HO_12.out) hb); have n2_ := Aside0.mk (blk_below (g := gb327) (o := .cells #[.int .u8 a0_0, .int .u8 a0_1, .int .u8 a0_2] 32 (0, 0)) (by (with_reducible repeat (first | refine blk_drewN ?_ _ | refine blk_drew ?_ | refine blk_alloc ?_ _)); exact BK327.out) hb); have n3_ := Aside0.mk (blk_below (g := gb332) (o := .cells #[.int .i64 t329, .int .i64 t330, .int .i64 t331] 23 (0, 0)) (by (with_reducible repeat (first | refine blk_drewN ?_ _ | refine blk_drew ?_ | refine blk_alloc ?_ _)); exact BK332.out) hb); have n4_ := Aside0.mk (below_step (by repeat (first | (with_reducible first | exact HB.out | apply below_alloc | apply pw_below_drewN | apply below_drew1 | refine below_set ?_ GE327.out | refine below_set ?_ GE332.out) | exact HB.out)) hb); clear HO_8; clear HO_12; clear BK327; clear BK332; clear HB; have HO_8 := n0_; have HO_12 := n1_; have BK327 := n2_; have BK332 := n3_; have HB := n4_; clear n0_ n1_ n2_ n3_ n4_; (try clear hb); (try clear hb2); (try clear hk); (try clear hi)))
                        go_ret
                        exact ⟨by first | rfl | (simp [errW_none, errW_some] <;> rfl) | (simp [*, errW_none, errW_some] <;> rfl), by repeat (first | (with_reducible first | exact HB.out | apply below_alloc | apply pw_below_drewN | apply below_drew1 | refine below_set ?_ GE327.out | refine below_set ?_ GE332.out) | exact HB.out)⟩
                      · rw [if_neg c39] at H
                        have c39b0 : decide (0 < (Int.tmod (wrap64 (a1)) 421)) = false := decide_eq_false c39
                        clear c39
                        obtain rfl := Option.some.inj H
                        obtain ⟨Ao42, co42, eo42⟩ := Kd.R_slice HO_12.out
                        subst eo42
                        go_wp2_with (first | (go_at_call 22; (with_reducible refine (profile_Final.calls 0 0 0 _ _ t333 t345 t346 t347 _ ?side1 ?side2 A35.out).mono ?_); (case side1 => repeat (first | exact (Kd.R_reads' HO_8.out).2.2 | (with_reducible refine Kd.C_alloc ?_ _) | (with_reducible refine Kd.C_drewN ?_ _) | (with_reducible refine Kd.C_drew ?_))); (case side2 => exact (Kd.R_reads' HO_8.out).2.1); rintro e w43 ⟨rfl, hb⟩; have n0_ := Aside0.mk (Kd.R_below (by (with_reducible repeat (first | apply Kd.R_alloc | apply Kd.R_drewN | apply Kd.R_drew)); exact HO_8.out) hb); have n1_ := Aside0.mk (Kd.R_below (by (with_reducible repeat (first | apply Kd.R_alloc | apply Kd.R_drewN | apply Kd.R_drew)); exact HO_12.out) hb); have n2_ := Aside0.mk (blk_below (g := gb327) (o := .cells #[.int .u8 a0_0, .int .u8 a0_1, .int .u8 a0_2] 32 (0, 0)) (by (with_reducible repeat (first | refine blk_drewN ?_ _ | refine blk_drew ?_ | refine blk_alloc ?_ _)); exact BK327.out) hb); have n3_ := Aside0.mk (blk_below (g := gb332) (o := .cells #[.int .i64 t329, .int .i64 t330, .int .i64 t331] 23 (0, 0)) (by (with_reducible repeat (first | refine blk_drewN ?_ _ | refine blk_drew ?_ | refine blk_alloc ?_ _)); exact BK332.out) hb); have n4_ := Aside0.mk (below_step (by repeat (first | (with_reducible first | exact HB.out | apply below_alloc | apply pw_below_drewN | apply below_drew1 | refine below_set ?_ GE327.out | refine below_set ?_ GE332.out) | exact HB.out)) hb); clear HO_8; clear HO_12; clear BK327; clear BK332; clear HB; have HO_8 := n0_; have HO_12 := n1_; have BK327 := n2_; have BK332 := n3_; have HB := n4_; clear n0_ n1_ n2_ n3_ n4_; (try clear hb); (try clear hb2); (try clear hk); (try clear hi)))
                        go_ret
                        exact ⟨by first | rfl | (simp [errW_none, errW_some] <;> rfl) | (simp [*, errW_none, errW_some] <;> rfl), by repeat (first | (with_reducible first | exact HB.out | apply below_alloc | apply pw_below_drewN | apply below_drew1 | refine below_set ?_ GE327.out | refine below_set ?_ GE332.out) | exact HB.out)⟩
                    · replace c38 := Bool.eq_false_iff.mpr c38
                      subst c38
                      have H1 : (some false) = some r := by rw [if_neg (show ¬ (false = true) by decide)] at H; exact H
                      clear H
                      have H := H1
                      clear H1
                      exact absurd HT.out (by rw [← Option.some.inj H]; decide)
                  · rw [if_neg c37] at H
                    have c37b0 : (t337 == (t333.length : Int)) = false := beq_eq_false_iff_ne.mpr c37
                    have c37b1 : (t337 != (t333.length : Int)) = true := bne_iff_ne.mpr c37
                    exact absurd HT.out (by rw [← Option.some.inj H]; decide)
                · rw [if_neg c36] at H
                  have c36b0 : (t345 == (Int.tmod (wrap64 (a1)) 421) && (t346 == 0 && (t347 == 0))) = false := by simpa using c36
                  clear c36
                  exact absurd HT.out (by rw [← Option.some.inj H]; decide)
  · replace c7 := Bool.eq_false_iff.mpr c7
    subst c7
    have H1 : (if true = true then (if (Int.tmod (wrap64 (a1)) 421) = 1 then (if t331 = 1 then (if (t333.length : Int) = 0 then (if t337 = 0 then (some (!t338)) else (some false)) else (some false)) else (some false)) else (some false)) else (some false)) = some r := by rw [if_neg (show ¬ (false = true) by decide)] at H; exact H
    clear H
    have H := H1
    clear H1
    have H1 : (if (Int.tmod (wrap64 (a1)) 421) = 1 then (if t331 = 1 then (if (t333.length : Int) = 0 then (if t337 = 0 then (some (!t338)) else (some false)) else (some false)) else (some false)) else (some false)) = some r := by first | (rw [if_pos rfl] at H; exact H) | (rw [if_pos True.intro] at H; exact H)
    clear H
    have H := H1
    clear H1
    by_cases c44 : (Int.tmod (wrap64 (a1)) 421) = 1
    · rw [if_pos c44] at H
      have c44b0 : ((Int.tmod (wrap64 (a1)) 421) == 1) = true := beq_iff_eq.mpr c44
      have c44b1 : ((Int.tmod (wrap64 (a1)) 421) != 1) = false := bne_eq_false_iff_eq.mpr c44
      clear c44
      by_cases c45 : t331 = 1
      · rw [if_pos c45] at H
        have c45b0 : (t331 == 1) = true := beq_iff_eq.mpr c45
        have c45b1 : (t331 != 1) = false := bne_eq_false_iff_eq.mpr c45
        clear c45
        by_cases c46 : (t333.length : Int) = 0
        · rw [if_pos c46] at H
          have c46b0 : ((t333.length : Int) == 0) = true := beq_iff_eq.mpr c46
          have c46b1 : ((t333.length : Int) != 0) = false := bne_eq_false_iff_eq.mpr c46
          clear c46
          by_cases c47 : t337 = 0
          · rw [if_pos c47] at H
            have c47b0 : (t337 == 0) = true := beq_iff_eq.mpr c47
            have c47b1 : (t337 != 0) = false := bne_eq_false_iff_eq.mpr c47
            clear c47
            obtain rfl := Option.some.inj H
            go_enter Try.func14, Try.ntmps14
            go_wp2_with (first | ((with_reducible refine gate_dst (N := 2) rfl ?_); (try (refine gate_guard (by rfl) ?_; dsimp only)); refine box_event ?hg (N := 2) ?hd (cs := #[.int .u8 a0_0, .int .u8 a0_1, .int .u8 a0_2]) (t := 32) ?hr ?_; (case hd => rfl); (case hg => rfl); (case hr => first | (go_simp; done) | (go_simp; rfl)); intro gb327 hg w48 hbox hb; have n0_ := Aside0.mk (below_step (by repeat (first | (with_reducible first | exact HB.out | apply below_alloc | apply pw_below_drewN | apply below_drew1) | exact HB.out)) hb); have n1_ := Aside0.mk (hbox); have n2_ := Aside0.mk ((by rw [hg]; exact (below_size (by repeat (first | (with_reducible first | exact HB.out | apply below_alloc | apply pw_below_drewN | apply below_drew1) | exact HB.out))) : w.heap.size ≤ gb327)); have n3_ := Aside0.mk ((by rw [hg]; exact (below_size (by repeat (first | (with_reducible first | exact HB.out | apply below_alloc | apply pw_below_drewN | apply below_drew1) | exact HB.out))) : w.heap.size ≤ gb327)); clear HB; have HB := n0_; have BK327 := n1_; have GW327 := n2_; have GE327 := n3_; clear n0_ n1_ n2_ n3_; clear hb hbox hg) | ((with_reducible refine gate_callee (f := 15) rfl ?_); refine goesL_ (some 14) rfl rfl Try.func15 (by kernel_rfl) rfl #[] rfl (by (try simp only [List.map_toArray, List.map_cons, List.map_nil]); first | done | rfl | (simp only [List.length_drop, List.length_take]; rfl)) ?_; (with_reducible refine (ambidexterlaw22_head.calls k  true _ A3.out).mono ?_); rintro e w49 ⟨rfl, hb⟩; refine ⟨_, rfl, ?_⟩; have n0_ := Aside0.mk (blk_below (g := gb327) (o := .cells #[.int .u8 a0_0, .int .u8 a0_1, .int .u8 a0_2] 32 (0, 0)) (by (with_reducible repeat (first | refine blk_drewN ?_ _ | refine blk_drew ?_ | refine blk_alloc ?_ _)); exact BK327.out) hb); have n1_ := Aside0.mk (below_step (by repeat (first | (with_reducible first | exact HB.out | apply below_alloc | apply pw_below_drewN | apply below_drew1 | refine below_set ?_ GE327.out) | exact HB.out)) hb); clear BK327; clear HB; have BK327 := n0_; have HB := n1_; clear n0_ n1_; (try clear hb); (try clear hb2); (try clear hk); (try clear hi); have hcz50_0 : w49.cell? ⟨gb327, 0, none⟩ = some (.int .u8 a0_0) := (blk_cell BK327.out 0).trans rfl; have hcz50_1 : w49.cell? ⟨gb327, 1, none⟩ = some (.int .u8 a0_1) := (blk_cell BK327.out 1).trans rfl; have hcz50_2 : w49.cell? ⟨gb327, 2, none⟩ = some (.int .u8 a0_2) := (blk_cell BK327.out 2).trans rfl; have hfz50_0 := blk_frozen BK327.out 0; have hfz50_1 := blk_frozen BK327.out 1; have hfz50_2 := blk_frozen BK327.out 2) | ((with_reducible refine gate_callee (f := 20) rfl ?_); refine goesL_ (some 21) rfl rfl Try.func20 (by kernel_rfl) rfl #[.int .u8 a0_0, .int .u8 a0_1, .int .u8 a0_2] rfl (by (try simp only [List.map_toArray, List.map_cons, List.map_nil]); first | done | rfl | (simp only [List.length_drop, List.length_take]; rfl)) ?_; (with_reducible refine (ambidexterlaw22_Limits.calls a0_0 a0_1 a0_2 t329 t330 t331 _ A4.out).mono ?_); rintro e w51 ⟨rfl, hb⟩; refine ⟨_, rfl, ?_⟩; have n0_ := Aside0.mk (blk_below (g := gb327) (o := .cells #[.int .u8 a0_0, .int .u8 a0_1, .int .u8 a0_2] 32 (0, 0)) (by (with_reducible repeat (first | refine blk_drewN ?_ _ | refine blk_drew ?_ | refine blk_alloc ?_ _)); exact BK327.out) hb); have n1_ := Aside0.mk (below_step (by repeat (first | (with_reducible first | exact HB.out | apply below_alloc | apply pw_below_drewN | apply below_drew1 | refine below_set ?_ GE327.out) | exact HB.out)) hb); clear BK327; clear HB; have BK327 := n0_; have HB := n1_; clear n0_ n1_; (try clear hb); (try clear hb2); (try clear hk); (try clear hi)) | ((with_reducible refine gate_dst (N := 6) rfl ?_); (try (refine gate_guard (by rfl) ?_; dsimp only)); refine box_event ?hg (N := 6) ?hd (cs := #[.int .i64 0, .int .i64 0, .int .i64 0]) (t := 23) ?hr ?_; (case hd => rfl); (case hg => rfl); (case hr => first | (go_simp; done) | (go_simp; rfl)); intro gb332 hg w52 hbox hb; have n0_ := Aside0.mk (blk_below (g := gb327) (o := .cells #[.int .u8 a0_0, .int .u8 a0_1, .int .u8 a0_2] 32 (0, 0)) (by (with_reducible repeat (first | refine blk_drewN ?_ _ | refine blk_drew ?_ | refine blk_alloc ?_ _)); exact BK327.out) hb); have n1_ := Aside0.mk (below_step (by repeat (first | (with_reducible first | exact HB.out | apply below_alloc | apply pw_below_drewN | apply below_drew1 | refine below_set ?_ GE327.out) | exact HB.out)) hb); have n2_ := Aside0.mk (hbox); have n3_ := Aside0.mk ((by rw [hg]; exact (below_size (by repeat (first | (with_reducible first | exact HB.out | apply below_alloc | apply pw_below_drewN | apply below_drew1 | refine below_set ?_ GE327.out) | exact HB.out))) : w.heap.size ≤ gb332)); have n4_ := Aside0.mk ((by rw [hg]; exact (below_size (by repeat (first | (with_reducible first | exact HB.out | apply below_alloc | apply pw_below_drewN | apply below_drew1 | refine below_set ?_ GE327.out) | exact HB.out))) : w.heap.size ≤ gb332)); have n5_ := Aside0.mk ((by rw [hg]; exact Nat.ne_of_lt (blk_lt (g := gb327) (o := .cells #[.int .u8 a0_0, .int .u8 a0_1, .int .u8 a0_2] 32 (0, 0)) (by (with_reducible repeat (first | refine blk_drewN ?_ _ | refine blk_drew ?_ | refine blk_alloc ?_ _)); exact BK327.out)) : gb327 ≠ gb332)); have n6_ := Aside0.mk ((by rw [hg]; exact Nat.ne_of_gt (blk_lt (g := gb327) (o := .cells #[.int .u8 a0_0, .int .u8 a0_1, .int .u8 a0_2] 32 (0, 0)) (by (with_reducible repeat (first | refine blk_drewN ?_ _ | refine blk_drew ?_ | refine blk_alloc ?_ _)); exact BK327.out)) : gb332 ≠ gb327)); clear BK327; clear HB; have BK327 := n0_; have HB := n1_; have BK332 := n2_; have GW332 := n3_; have GE332 := n4_; have NB327_332 := n5_; have NB332_327 := n6_; clear n0_ n1_ n2_ n3_ n4_ n5_ n6_; clear hb hbox hg; have hnb53 := NB332_327.out; have hnc53 := NB327_332.out; have hcz54_0 : w52.cell? ⟨gb332, 0, none⟩ = some (.int .i64 0) := (blk_cell BK332.out 0).trans rfl; have hcz54_1 : w52.cell? ⟨gb332, 1, none⟩ = some (.int .i64 0) := (blk_cell BK332.out 1).trans rfl; have hcz54_2 : w52.cell? ⟨gb332, 2, none⟩ = some (.int .i64 0) := (blk_cell BK332.out 2).trans rfl; have hfz54_0 := blk_frozen BK332.out 0; have hfz54_1 := blk_frozen BK332.out 1; have hfz54_2 := blk_frozen BK332.out 2) | ((with_reducible refine gate_callee (f := 16) rfl ?_); refine goesL_ (some 28) rfl rfl Try.func16 (by kernel_rfl) rfl #[.agg #[.int .i64 t329, .int .i64 t330, .int .i64 t331], .int .i64 (Int.tmod (wrap64 (a1)) 421)] rfl (by (try simp only [List.map_toArray, List.map_cons, List.map_nil]); first | done | rfl | (simp only [List.length_drop, List.length_take]; rfl)) ?_; (with_reducible refine (mintime_Profile.calls k t329 t330 t331 (Int.tmod (wrap64 (a1)) 421) t333 false _ A5.out).mono ?_); rintro e w55 ⟨v334, rfl, ho0, hb⟩; refine ⟨_, rfl, ?_⟩; have n0_ := Aside0.mk (Kd.R_lower ho0 (below_size (by repeat (first | (with_reducible first | exact HB.out | apply below_alloc | apply pw_below_drewN | apply below_drew1 | refine below_set ?_ GE327.out | refine below_set ?_ GE332.out) | exact HB.out)))); have n1_ := Aside0.mk (blk_below (g := gb327) (o := .cells #[.int .u8 a0_0, .int .u8 a0_1, .int .u8 a0_2] 32 (0, 0)) (by (with_reducible repeat (first | refine blk_drewN ?_ _ | refine blk_drew ?_ | refine blk_alloc ?_ _)); refine blk_far ?_ NB327_332.out _; (with_reducible repeat (first | refine blk_drewN ?_ _ | refine blk_drew ?_ | refine blk_alloc ?_ _)); refine blk_far ?_ NB327_332.out _; (with_reducible repeat (first | refine blk_drewN ?_ _ | refine blk_drew ?_ | refine blk_alloc ?_ _)); refine blk_far ?_ NB327_332.out _; (with_reducible repeat (first | refine blk_drewN ?_ _ | refine blk_drew ?_ | refine blk_alloc ?_ _)); exact BK327.out) hb); have n2_ := Aside0.mk (blk_below (g := gb332) (o := .cells #[.int .i64 t329, .int .i64 t330, .int .i64 t331] 23 (0, 0)) (by (with_reducible repeat (first | refine blk_drewN ?_ _ | refine blk_drew ?_ | refine blk_alloc ?_ _)); refine blk_put (cs := #[.int .i64 t329, .int .i64 t330, .int .i64 0]) ?_ 2 _ rfl; (with_reducible repeat (first | refine blk_drewN ?_ _ | refine blk_drew ?_ | refine blk_alloc ?_ _)); refine blk_put (cs := #[.int .i64 t329, .int .i64 0, .int .i64 0]) ?_ 1 _ rfl; (with_reducible repeat (first | refine blk_drewN ?_ _ | refine blk_drew ?_ | refine blk_alloc ?_ _)); refine blk_put (cs := #[.int .i64 0, .int .i64 0, .int .i64 0]) ?_ 0 _ rfl; (with_reducible repeat (first | refine blk_drewN ?_ _ | refine blk_drew ?_ | refine blk_alloc ?_ _)); exact BK332.out) hb); have n3_ := Aside0.mk (below_step (by repeat (first | (with_reducible first | exact HB.out | apply below_alloc | apply pw_below_drewN | apply below_drew1 | refine below_set ?_ GE327.out | refine below_set ?_ GE332.out) | exact HB.out)) hb); clear BK327; clear BK332; clear HB; have HO335 := n0_; have BK327 := n1_; have BK332 := n2_; have HB := n3_; clear n0_ n1_ n2_ n3_; (try clear hb); (try clear hb2); (try clear hk); (try clear hi); (try clear ho0); have hcz56_0 : w55.cell? ⟨gb332, 0, none⟩ = some (.int .i64 t329) := (blk_cell BK332.out 0).trans rfl; have hcz56_1 : w55.cell? ⟨gb332, 1, none⟩ = some (.int .i64 t330) := (blk_cell BK332.out 1).trans rfl; have hcz56_2 : w55.cell? ⟨gb332, 2, none⟩ = some (.int .i64 t331) := (blk_cell BK332.out 2).trans rfl; have hfz56_0 := blk_frozen BK332.out 0; have hfz56_1 := blk_frozen BK332.out 1; have hfz56_2 := blk_frozen BK332.out 2) | ((with_reducible refine gate_callee (f := 18) rfl ?_); refine goesL_ (some 34) rfl rfl Try.func18 (by kernel_rfl) rfl #[.agg #[.int .i64 t329, .int .i64 t330, .int .i64 t331], .int .i64 (Int.tmod (wrap64 (a1)) 421)] rfl (by (try simp only [List.map_toArray, List.map_cons, List.map_nil]); first | done | rfl | (simp only [List.length_drop, List.length_take]; rfl)) ?_; (with_reducible refine (mintime_Duration.calls k t329 t330 t331 (Int.tmod (wrap64 (a1)) 421) t337 t338 _ A6.out).mono ?_); rintro e w57 ⟨rfl, hb⟩; refine ⟨_, rfl, ?_⟩; have n0_ := Aside0.mk (Kd.R_below (by (with_reducible repeat (first | apply Kd.R_alloc | apply Kd.R_drewN | apply Kd.R_drew)); exact HO335.out) hb); have n1_ := Aside0.mk (blk_below (g := gb327) (o := .cells #[.int .u8 a0_0, .int .u8 a0_1, .int .u8 a0_2] 32 (0, 0)) (by (with_reducible repeat (first | refine blk_drewN ?_ _ | refine blk_drew ?_ | refine blk_alloc ?_ _)); exact BK327.out) hb); have n2_ := Aside0.mk (blk_below (g := gb332) (o := .cells #[.int .i64 t329, .int .i64 t330, .int .i64 t331] 23 (0, 0)) (by (with_reducible repeat (first | refine blk_drewN ?_ _ | refine blk_drew ?_ | refine blk_alloc ?_ _)); exact BK332.out) hb); have n3_ := Aside0.mk (below_step (by repeat (first | (with_reducible first | exact HB.out | apply below_alloc | apply pw_below_drewN | apply below_drew1 | refine below_set ?_ GE327.out | refine below_set ?_ GE332.out) | exact HB.out)) hb); clear HO335; clear BK327; clear BK332; clear HB; have HO335 := n0_; have BK327 := n1_; have BK332 := n2_; have HB := n3_; clear n0_ n1_ n2_ n3_; (try clear hb); (try clear hb2); (try clear hk); (try clear hi); have hcz58_0 : w57.cell? ⟨gb332, 0, none⟩ = some (.int .i64 t329) := (blk_cell BK332.out 0).trans rfl; have hcz58_1 : w57.cell? ⟨gb332, 1, none⟩ = some (.int .i64 t330) := (blk_cell BK332.out 1).trans rfl; have hcz58_2 : w57.cell? ⟨gb332, 2, none⟩ = some (.int .i64 t331) := (blk_cell BK332.out 2).trans rfl; have hfz58_0 := blk_frozen BK332.out 0; have hfz58_1 := blk_frozen BK332.out 1; have hfz58_2 := blk_frozen BK332.out 2; obtain ⟨Ao59, co59, eo59⟩ := Kd.R_slice HO335.out; subst eo59))
            go_ret
            exact ⟨by first | rfl | (simp [errW_none, errW_some] <;> rfl) | (simp [*, errW_none, errW_some] <;> rfl), by repeat (first | (with_reducible first | exact HB.out | apply below_alloc | apply pw_below_drewN | apply below_drew1 | refine below_set ?_ GE327.out | refine below_set ?_ GE332.out) | exact HB.out)⟩
          · rw [if_neg c47] at H
            have c47b0 : (t337 == 0) = false := beq_eq_false_iff_ne.mpr c47
            have c47b1 : (t337 != 0) = true := bne_iff_ne.mpr c47
            exact absurd HT.out (by rw [← Option.some.inj H]; decide)
        · rw [if_neg c46] at H
          have c46b0 : ((t333.length : Int) == 0) = false := beq_eq_false_iff_ne.mpr c46
          have c46b1 : ((t333.length : Int) != 0) = true := bne_iff_ne.mpr c46
          have c46b2 : ¬ (t333 = []) := fun h_ => c46 (by rw [h_]; rfl)
          exact absurd HT.out (by rw [← Option.some.inj H]; decide)
      · rw [if_neg c45] at H
        have c45b0 : (t331 == 1) = false := beq_eq_false_iff_ne.mpr c45
        have c45b1 : (t331 != 1) = true := bne_iff_ne.mpr c45
        exact absurd HT.out (by rw [← Option.some.inj H]; decide)
    · rw [if_neg c44] at H
      have c44b0 : ((Int.tmod (wrap64 (a1)) 421) == 1) = false := beq_eq_false_iff_ne.mpr c44
      have c44b1 : ((Int.tmod (wrap64 (a1)) 421) != 1) = true := bne_iff_ne.mpr c44
      exact absurd HT.out (by rw [← Option.some.inj H]; decide)

end Go.Proofs.Ytjcefdockfbnaaa.P
