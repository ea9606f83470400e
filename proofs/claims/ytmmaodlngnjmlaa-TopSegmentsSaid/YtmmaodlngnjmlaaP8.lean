-- Written by this session's own program, for this seat. Lean checks it.
import Derived.Test.YtmmaodlngnjmlaaP0
import Derived.Test.YtmmaodlngnjmlaaXShorts
namespace Go.Proofs.Ytmmaodlngnjmlaa.P
open Go.RowKit Go.Proofs.YtmmaodlngnjmlaaW.PrintWords Go.Proofs.YtmmaodlngnjmlaaW.PrintLast Go.Proofs.YtmmaodlngnjmlaaW.PrintMore
attribute [local go_sem] max2_int min2_int max_two min_two max_three min_three max_four min_four   -- for this text's walks alone
set_option linter.unusedVariables false
set_option linter.unusedSimpArgs false

/-! ### profile_within: function 53 -/
def profile_within.f (a0 : Int) (a1 : Int) : Option (Bool) := some (decide ((mx a0 (wrap64 (-a0))) ≤ a1))
set_option maxHeartbeats 8000000 in
set_option maxRecDepth 100000 in
theorem profile_within.calls (a0 : Int) (a1 : Int) (r : Bool) (w : World) (h : profile_within.f a0 a1 = some r) :
  Calls Try.prog 53 #[.int .i64 a0, .int .i64 a1] w fun e w' => e = .returned (.bool r) ∧ Below w.heap.size w w' := by
 have HB := Aside0.mk (Below.refl w.heap.size w)
 have H : (some (decide ((mx a0 (wrap64 (-a0))) ≤ a1))) = some r := h
 clear h
 obtain ⟨ji3, hji3⟩ : ∃ j_ : Int, (mx a0 (wrap64 (-a0))) = j_ := ⟨_, rfl⟩
 replace H : (some (decide ((ji3) ≤ a1))) = some r := by first | (rw [hji3] at H; exact H) | (simp only [hji3] at H ⊢; exact H)
 have hji3_ : (if a0 < (wrap64 (-a0)) then (wrap64 (-a0)) else a0) = ji3 := hji3
 obtain rfl := Option.some.inj H
 go_enter Try.func53, Try.ntmps53
 go_wp2
 go_ret
 exact ⟨by first | rfl | (simp [errW_none, errW_some] <;> rfl) | (simp only [← hji3]; first | rfl | (simp [errW_none, errW_some] <;> rfl)) | (simp [*, errW_none, errW_some] <;> rfl), by repeat (first | (with_reducible first | exact HB.out | apply below_alloc | apply pw_below_drewN | apply below_drew1) | exact HB.out)⟩

/-! ### profile_fits: function 52 -/
def profile_fits.f (a0_0 : Int) (a0_1 : Int) (a0_2 : Int) (a1_0 : Int) (a1_1 : Int) (a1_2 : Int) : Option (Bool) := (profile_within.f a1_1 a0_0).bind fun t294 => (if t294 = true then ((profile_within.f a1_2 a0_1).bind fun t295 => (some t295)) else (some false))
set_option maxHeartbeats 8000000 in
set_option maxRecDepth 100000 in
theorem profile_fits.calls (a0_0 : Int) (a0_1 : Int) (a0_2 : Int) (a1_0 : Int) (a1_1 : Int) (a1_2 : Int) (r : Bool) (w : World) (h : profile_fits.f a0_0 a0_1 a0_2 a1_0 a1_1 a1_2 = some r) :
  Calls Try.prog 52 #[.agg #[.int .i64 a0_0, .int .i64 a0_1, .int .i64 a0_2], .agg #[.int .i64 a1_0, .int .i64 a1_1, .int .i64 a1_2]] w fun e w' => e = .returned (.bool r) ∧ Below w.heap.size w w' := by
 have hu25 := Try.underlying25
 have hu33 := Try.underlying33
 have HB := Aside0.mk (Below.refl w.heap.size w)
 have H : ((profile_within.f a1_1 a0_0).bind fun t294 => (if t294 = true then ((profile_within.f a1_2 a0_1).bind fun t295 => (some t295)) else (some false))) = some r := h
 clear h
 replace H := Option.bind_eq_some_iff.mp H
 obtain ⟨t294, A30, H⟩ := H
 replace H : (if t294 = true then ((profile_within.f a1_2 a0_1).bind fun t295 => (some t295)) else (some false)) = some r := H
 have A3 := Aside0.mk A30
 clear A30
 by_cases c4 : t294 = true
 ·
  subst c4
  have H1 : ((profile_within.f a1_2 a0_1).bind fun t295 => (some t295)) = some r := by rw [if_pos rfl] at H; exact H
  clear H
  have H := H1
  clear H1
  replace H := Option.bind_eq_some_iff.mp H
  obtain ⟨t295, A50, H⟩ := H
  replace H : (some t295) = some r := H
  have A5 := Aside0.mk A50
  clear A50
  obtain rfl := Option.some.inj H
  go_enter Try.func52, Try.ntmps52
  go_wp2_with (first | ((with_reducible refine gate_dst (N := 2) rfl ?_); refine box_event ?hg (N := 2) ?hd (cs := #[.int .i64 a0_0, .int .i64 a0_1, .int .i64 a0_2]) (t := 25) ?hr ?_; (case hd => rfl); (case hg => rfl); (case hr => first | (go_simp; done) | (go_simp; rfl)); intro gb292 hg w6 hbox hb; have n0_ := Aside0.mk (below_step hb_ hb); have n1_ := Aside0.mk (hbox); have n2_ := Aside0.mk ((by rw [hg]; exact (below_size hb_) : w.heap.size ≤ gb292)); have n3_ := Aside0.mk ((by rw [hg]; exact (below_size hb_) : w.heap.size ≤ gb292)); clear HB; have HB := n0_; have BK292 := n1_; have GW292 := n2_; have GE292 := n3_; clear n0_ n1_ n2_ n3_; clear hb hbox hg) | ((with_reducible refine gate_dst (N := 3) rfl ?_); refine box_event ?hg (N := 3) ?hd (cs := #[.int .i64 a1_0, .int .i64 a1_1, .int .i64 a1_2]) (t := 33) ?hr ?_; (case hd => rfl); (case hg => rfl); (case hr => first | (go_simp; done) | (go_simp; rfl)); intro gb293 hg w7 hbox hb; have n0_ := Aside0.mk (blk_below (g := gb292) (o := .cells #[.int .i64 a0_0, .int .i64 a0_1, .int .i64 a0_2] 25 (0, 0)) (bk_ BK292.out) hb); have n1_ := Aside0.mk (below_step hb_ hb); have n2_ := Aside0.mk (hbox); have n3_ := Aside0.mk ((by rw [hg]; exact (below_size hb_) : w.heap.size ≤ gb293)); have n4_ := Aside0.mk ((by rw [hg]; exact (below_size hb_) : w.heap.size ≤ gb293)); have n5_ := Aside0.mk ((by rw [hg]; exact Nat.ne_of_lt (blk_lt (g := gb292) (o := .cells #[.int .i64 a0_0, .int .i64 a0_1, .int .i64 a0_2] 25 (0, 0)) (bk_ BK292.out)) : gb292 ≠ gb293)); have n6_ := Aside0.mk ((by rw [hg]; exact Nat.ne_of_gt (blk_lt (g := gb292) (o := .cells #[.int .i64 a0_0, .int .i64 a0_1, .int .i64 a0_2] 25 (0, 0)) (bk_ BK292.out)) : gb293 ≠ gb292)); clear BK292; clear HB; have BK292 := n0_; have HB := n1_; have BK293 := n2_; have GW293 := n3_; have GE293 := n4_; have NB292_293 := n5_; have NB293_292 := n6_; clear n0_ n1_ n2_ n3_ n4_ n5_ n6_; clear hb hbox hg; have hnb8 := NB293_292.out; have hnc8 := NB292_293.out; have hcz9_0 : w7.cell? ⟨gb293, 0, none⟩ = some (.int .i64 a1_0) := (blk_cell BK293.out 0).trans rfl; have hcz9_1 : w7.cell? ⟨gb293, 1, none⟩ = some (.int .i64 a1_1) := (blk_cell BK293.out 1).trans rfl; have hcz9_2 : w7.cell? ⟨gb293, 2, none⟩ = some (.int .i64 a1_2) := (blk_cell BK293.out 2).trans rfl; have hfz9_0 := blk_frozen BK293.out 0; have hfz9_1 := blk_frozen BK293.out 1; have hfz9_2 := blk_frozen BK293.out 2; have hcz10_0 : w7.cell? ⟨gb292, 0, none⟩ = some (.int .i64 a0_0) := (blk_cell BK292.out 0).trans rfl; have hcz10_1 : w7.cell? ⟨gb292, 1, none⟩ = some (.int .i64 a0_1) := (blk_cell BK292.out 1).trans rfl; have hcz10_2 : w7.cell? ⟨gb292, 2, none⟩ = some (.int .i64 a0_2) := (blk_cell BK292.out 2).trans rfl; have hfz10_0 := blk_frozen BK292.out 0; have hfz10_1 := blk_frozen BK292.out 1; have hfz10_2 := blk_frozen BK292.out 2) | ((with_reducible refine gate_callee (f := 53) rfl ?_); refine goesL_ (some 9) rfl rfl Try.func53 (by kernel_rfl) rfl #[.int .i64 a1_1, .int .i64 a0_0] rfl (by (try simp only [List.map_toArray, List.map_cons, List.map_nil]); first | done | rfl | (simp only [List.length_drop, List.length_take]; rfl)) ?_; (with_reducible refine (profile_within.calls a1_1 a0_0 true _ A3.out).mono ?_); rintro e w11 ⟨rfl, hb⟩; refine ⟨_, rfl, ?_⟩; have n0_ := Aside0.mk (blk_below (g := gb292) (o := .cells #[.int .i64 a0_0, .int .i64 a0_1, .int .i64 a0_2] 25 (0, 0)) (bk_ BK292.out) hb); have n1_ := Aside0.mk (blk_below (g := gb293) (o := .cells #[.int .i64 a1_0, .int .i64 a1_1, .int .i64 a1_2] 33 (0, 0)) (bk_ BK293.out) hb); have n2_ := Aside0.mk (below_step hb_ hb); clear BK292; clear BK293; clear HB; have BK292 := n0_; have BK293 := n1_; have HB := n2_; clear n0_ n1_ n2_; (try clear hb); (try clear hb2); (try clear hk); (try clear hi); have hcz12_0 : w11.cell? ⟨gb293, 0, none⟩ = some (.int .i64 a1_0) := (blk_cell BK293.out 0).trans rfl; have hcz12_1 : w11.cell? ⟨gb293, 1, none⟩ = some (.int .i64 a1_1) := (blk_cell BK293.out 1).trans rfl; have hcz12_2 : w11.cell? ⟨gb293, 2, none⟩ = some (.int .i64 a1_2) := (blk_cell BK293.out 2).trans rfl; have hfz12_0 := blk_frozen BK293.out 0; have hfz12_1 := blk_frozen BK293.out 1; have hfz12_2 := blk_frozen BK293.out 2; have hcz13_0 : w11.cell? ⟨gb292, 0, none⟩ = some (.int .i64 a0_0) := (blk_cell BK292.out 0).trans rfl; have hcz13_1 : w11.cell? ⟨gb292, 1, none⟩ = some (.int .i64 a0_1) := (blk_cell BK292.out 1).trans rfl; have hcz13_2 : w11.cell? ⟨gb292, 2, none⟩ = some (.int .i64 a0_2) := (blk_cell BK292.out 2).trans rfl; have hfz13_0 := blk_frozen BK292.out 0; have hfz13_1 := blk_frozen BK292.out 1; have hfz13_2 := blk_frozen BK292.out 2) | (go_at_call 53; (with_reducible refine (profile_within.calls a1_2 a0_1 t295 _ A5.out).mono ?_); rintro e w14 ⟨rfl, hb⟩; have n0_ := Aside0.mk (blk_below (g := gb292) (o := .cells #[.int .i64 a0_0, .int .i64 a0_1, .int .i64 a0_2] 25 (0, 0)) (bk_ BK292.out) hb); have n1_ := Aside0.mk (blk_below (g := gb293) (o := .cells #[.int .i64 a1_0, .int .i64 a1_1, .int .i64 a1_2] 33 (0, 0)) (bk_ BK293.out) hb); have n2_ := Aside0.mk (below_step hb_ hb); clear BK292; clear BK293; clear HB; have BK292 := n0_; have BK293 := n1_; have HB := n2_; clear n0_ n1_ n2_; (try clear hb); (try clear hb2); (try clear hk); (try clear hi)))
  go_ret
  exact ⟨by first | rfl | (simp [errW_none, errW_some] <;> rfl) | (simp [*, errW_none, errW_some] <;> rfl), by repeat (first | (with_reducible first | exact HB.out | apply below_alloc | apply pw_below_drewN | apply below_drew1 | refine below_set ?_ GE292.out | refine below_set ?_ GE293.out) | exact HB.out)⟩
 ·
  replace c4 := Bool.eq_false_iff.mpr c4
  subst c4
  have H1 : (some false) = some r := by rw [if_neg (show ¬ (false = true) by decide)] at H; exact H
  clear H
  have H := H1
  clear H1
  obtain rfl := Option.some.inj H
  go_enter Try.func52, Try.ntmps52
  go_wp2_with (first | ((with_reducible refine gate_dst (N := 2) rfl ?_); refine box_event ?hg (N := 2) ?hd (cs := #[.int .i64 a0_0, .int .i64 a0_1, .int .i64 a0_2]) (t := 25) ?hr ?_; (case hd => rfl); (case hg => rfl); (case hr => first | (go_simp; done) | (go_simp; rfl)); intro gb292 hg w15 hbox hb; have n0_ := Aside0.mk (below_step hb_ hb); have n1_ := Aside0.mk (hbox); have n2_ := Aside0.mk ((by rw [hg]; exact (below_size hb_) : w.heap.size ≤ gb292)); have n3_ := Aside0.mk ((by rw [hg]; exact (below_size hb_) : w.heap.size ≤ gb292)); clear HB; have HB := n0_; have BK292 := n1_; have GW292 := n2_; have GE292 := n3_; clear n0_ n1_ n2_ n3_; clear hb hbox hg) | ((with_reducible refine gate_dst (N := 3) rfl ?_); refine box_event ?hg (N := 3) ?hd (cs := #[.int .i64 a1_0, .int .i64 a1_1, .int .i64 a1_2]) (t := 33) ?hr ?_; (case hd => rfl); (case hg => rfl); (case hr => first | (go_simp; done) | (go_simp; rfl)); intro gb293 hg w16 hbox hb; have n0_ := Aside0.mk (blk_below (g := gb292) (o := .cells #[.int .i64 a0_0, .int .i64 a0_1, .int .i64 a0_2] 25 (0, 0)) (bk_ BK292.out) hb); have n1_ := Aside0.mk (below_step hb_ hb); have n2_ := Aside0.mk (hbox); have n3_ := Aside0.mk ((by rw [hg]; exact (below_size hb_) : w.heap.size ≤ gb293)); have n4_ := Aside0.mk ((by rw [hg]; exact (below_size hb_) : w.heap.size ≤ gb293)); have n5_ := Aside0.mk ((by rw [hg]; exact Nat.ne_of_lt (blk_lt (g := gb292) (o := .cells #[.int .i64 a0_0, .int .i64 a0_1, .int .i64 a0_2] 25 (0, 0)) (bk_ BK292.out)) : gb292 ≠ gb293)); have n6_ := Aside0.mk ((by rw [hg]; exact Nat.ne_of_gt (blk_lt (g := gb292) (o := .cells #[.int .i64 a0_0, .int .i64 a0_1, .int .i64 a0_2] 25 (0, 0)) (bk_ BK292.out)) : gb293 ≠ gb292)); clear BK292; clear HB; have BK292 := n0_; have HB := n1_; have BK293 := n2_; have GW293 := n3_; have GE293 := n4_; have NB292_293 := n5_; have NB293_292 := n6_; clear n0_ n1_ n2_ n3_ n4_ n5_ n6_; clear hb hbox hg; have hnb17 := NB293_292.out; have hnc17 := NB292_293.out; have hcz18_0 : w16.cell? ⟨gb293, 0, none⟩ = some (.int .i64 a1_0) := (blk_cell BK293.out 0).trans rfl; have hcz18_1 : w16.cell? ⟨gb293, 1, none⟩ = some (.int .i64 a1_1) := (blk_cell BK293.out 1).trans rfl; have hcz18_2 : w16.cell? ⟨gb293, 2, none⟩ = some (.int .i64 a1_2) := (blk_cell BK293.out 2).trans rfl; have hfz18_0 := blk_frozen BK293.out 0; have hfz18_1 := blk_frozen BK293.out 1; have hfz18_2 := blk_frozen BK293.out 2; have hcz19_0 : w16.cell? ⟨gb292, 0, none⟩ = some (.int .i64 a0_0) := (blk_cell BK292.out 0).trans rfl; have hcz19_1 : w16.cell? ⟨gb292, 1, none⟩ = some (.int .i64 a0_1) := (blk_cell BK292.out 1).trans rfl; have hcz19_2 : w16.cell? ⟨gb292, 2, none⟩ = some (.int .i64 a0_2) := (blk_cell BK292.out 2).trans rfl; have hfz19_0 := blk_frozen BK292.out 0; have hfz19_1 := blk_frozen BK292.out 1; have hfz19_2 := blk_frozen BK292.out 2) | ((with_reducible refine gate_callee (f := 53) rfl ?_); refine goesL_ (some 9) rfl rfl Try.func53 (by kernel_rfl) rfl #[.int .i64 a1_1, .int .i64 a0_0] rfl (by (try simp only [List.map_toArray, List.map_cons, List.map_nil]); first | done | rfl | (simp only [List.length_drop, List.length_take]; rfl)) ?_; (with_reducible refine (profile_within.calls a1_1 a0_0 false _ A3.out).mono ?_); rintro e w20 ⟨rfl, hb⟩; refine ⟨_, rfl, ?_⟩; have n0_ := Aside0.mk (blk_below (g := gb292) (o := .cells #[.int .i64 a0_0, .int .i64 a0_1, .int .i64 a0_2] 25 (0, 0)) (bk_ BK292.out) hb); have n1_ := Aside0.mk (blk_below (g := gb293) (o := .cells #[.int .i64 a1_0, .int .i64 a1_1, .int .i64 a1_2] 33 (0, 0)) (bk_ BK293.out) hb); have n2_ := Aside0.mk (below_step hb_ hb); clear BK292; clear BK293; clear HB; have BK292 := n0_; have BK293 := n1_; have HB := n2_; clear n0_ n1_ n2_; (try clear hb); (try clear hb2); (try clear hk); (try clear hi)))
  go_ret
  exact ⟨by first | rfl | (simp [errW_none, errW_some] <;> rfl) | (simp [*, errW_none, errW_some] <;> rfl), by repeat (first | (with_reducible first | exact HB.out | apply below_alloc | apply pw_below_drewN | apply below_drew1 | refine below_set ?_ GE292.out | refine below_set ?_ GE293.out) | exact HB.out)⟩

/-! ### profile_Within: function 19 -/
def withinB (n most : Int) : Bool := decide (mx n (wrap64 (-n)) ≤ most)
def fitsB (a0_0 : Int) (a0_1 : Int) (a0_2 : Int) (a1_0 : Int) (a1_1 : Int) (a1_2 : Int) : Bool := withinB a1_1 a0_0 && withinB a1_2 a0_1
theorem fits_f (a0_0 : Int) (a0_1 : Int) (a0_2 : Int) (a1_0 : Int) (a1_1 : Int) (a1_2 : Int) : profile_fits.f a0_0 a0_1 a0_2 a1_0 a1_1 a1_2 = some (fitsB a0_0 a0_1 a0_2 a1_0 a1_1 a1_2) := by
 unfold profile_fits.f profile_within.f fitsB withinB
 by_cases c : mx a1_1 (wrap64 (-a1_1)) ≤ a0_0 <;> simp [c]
def profile_Within.f (a0_0 : Int) (a0_1 : Int) (a0_2 : Int) (a1_0 : Int) (a1_1 : Int) (a1_2 : Int) (l2 : List Int) : Option (Bool) := if l2.length ≤ 1000000000000 then
 some (fitsB a0_0 a0_1 a0_2 a1_0 a1_1 a1_2 && (Ticks.tr a1_0 a1_1 a1_2 l2).all fun q => withinB q.1 a0_2 && fitsB a0_0 a0_1 a0_2 q.2.1 q.2.2.1 q.2.2.2) else none
theorem profile_Within.calls (a0_0 : Int) (a0_1 : Int) (a0_2 : Int) (a1_0 : Int) (a1_1 : Int) (a1_2 : Int) (A2 : Option Addr) (c2 : Nat) (l2 : List Int) (r : Bool) (w : World) (hr2 : Kd.C (Kd.int .i64) w A2 l2.length l2) (hc2 : l2.length ≤ c2) (h : profile_Within.f a0_0 a0_1 a0_2 a1_0 a1_1 a1_2 l2 = some r) :
  Calls Try.prog 19 #[.agg #[.int .i64 a0_0, .int .i64 a0_1, .int .i64 a0_2], .agg #[.int .i64 a1_0, .int .i64 a1_1, .int .i64 a1_2], .slice A2 l2.length c2] w fun e w' => e = .returned (.bool r) ∧ Below w.heap.size w w' := by
 unfold profile_Within.f at h
 by_cases c : l2.length ≤ 1000000000000
 ·
  rw [if_pos c] at h
  obtain rfl := Option.some.inj h
  exact callsIn_wide.1 (Ticks.within_in withinB fitsB (fun x y w => profile_within.calls x y _ w rfl) (fun x y z p v a w => profile_fits.calls x y z p v a _ w (fits_f x y z p v a)) 3 (Nat.le_refl _) a0_0 a0_1 a0_2 a1_0 a1_1 a1_2 A2 l2 c2 w (Ticks.argOf hr2).1 (Ticks.argOf hr2).2 (by omega))
 ·
  rw [if_neg c] at h
  cases h

/-! ### ambidexterref21_Tick: function 54 -/
def ambidexterref21_Tick.f (a0_0 : Int) (a0_1 : Int) (a0_2 : Int) (a1 : Int) : Option (Int × Int × Int) := some (wrap64 (a0_0 + (wrap64 (a0_1 + (wrap64 (a0_2 + a1))))), wrap64 (a0_1 + (wrap64 (a0_2 + a1))), wrap64 (a0_2 + a1))
set_option maxHeartbeats 8000000 in
set_option maxRecDepth 100000 in
theorem ambidexterref21_Tick.calls (a0_0 : Int) (a0_1 : Int) (a0_2 : Int) (a1 : Int) (r1 : Int) (r2 : Int) (r3 : Int) (w : World) (h : ambidexterref21_Tick.f a0_0 a0_1 a0_2 a1 = some (r1, r2, r3)) :
  Calls Try.prog 54 #[.agg #[.int .i64 a0_0, .int .i64 a0_1, .int .i64 a0_2], .int .i64 a1] w fun e w' => e = .returned (.agg #[.int .i64 r1, .int .i64 r2, .int .i64 r3]) ∧ Below w.heap.size w w' := by
 have hu33 := Try.underlying33
 have HB := Aside0.mk (Below.refl w.heap.size w)
 have H : (some (wrap64 (a0_0 + (wrap64 (a0_1 + (wrap64 (a0_2 + a1))))), wrap64 (a0_1 + (wrap64 (a0_2 + a1))), wrap64 (a0_2 + a1))) = some (r1, r2, r3) := h
 clear h
 simp only [Option.some.injEq, Prod.mk.injEq] at H
 obtain ⟨rfl, rfl, rfl⟩ := H
 go_enter Try.func54, Try.ntmps54
 go_wp2_with (first | ((with_reducible refine gate_dst (N := 2) rfl ?_); refine box_event ?hg (N := 2) ?hd (cs := #[.int .i64 a0_0, .int .i64 a0_1, .int .i64 a0_2]) (t := 33) ?hr ?_; (case hd => rfl); (case hg => rfl); (case hr => first | (go_simp; done) | (go_simp; rfl)); intro gb296 hg w3 hbox hb; have n0_ := Aside0.mk (below_step hb_ hb); have n1_ := Aside0.mk (hbox); have n2_ := Aside0.mk ((by rw [hg]; exact (below_size hb_) : w.heap.size ≤ gb296)); have n3_ := Aside0.mk ((by rw [hg]; exact (below_size hb_) : w.heap.size ≤ gb296)); clear HB; have HB := n0_; have BK296 := n1_; have GW296 := n2_; have GE296 := n3_; clear n0_ n1_ n2_ n3_; clear hb hbox hg) | ((with_reducible refine gate_dst (N := 4) rfl ?_); refine box_event ?hg (N := 4) ?hd (cs := #[.int .i64 0, .int .i64 0, .int .i64 0]) (t := 33) ?hr ?_; (case hd => rfl); (case hg => rfl); (case hr => first | (go_simp; done) | (go_simp; rfl)); intro gb297 hg w4 hbox hb; have n0_ := Aside0.mk (blk_below (g := gb296) (o := .cells #[.int .i64 a0_0, .int .i64 a0_1, .int .i64 a0_2] 33 (0, 0)) (bk_ BK296.out) hb); have n1_ := Aside0.mk (below_step hb_ hb); have n2_ := Aside0.mk (hbox); have n3_ := Aside0.mk ((by rw [hg]; exact (below_size hb_) : w.heap.size ≤ gb297)); have n4_ := Aside0.mk ((by rw [hg]; exact (below_size hb_) : w.heap.size ≤ gb297)); have n5_ := Aside0.mk ((by rw [hg]; exact Nat.ne_of_lt (blk_lt (g := gb296) (o := .cells #[.int .i64 a0_0, .int .i64 a0_1, .int .i64 a0_2] 33 (0, 0)) (bk_ BK296.out)) : gb296 ≠ gb297)); have n6_ := Aside0.mk ((by rw [hg]; exact Nat.ne_of_gt (blk_lt (g := gb296) (o := .cells #[.int .i64 a0_0, .int .i64 a0_1, .int .i64 a0_2] 33 (0, 0)) (bk_ BK296.out)) : gb297 ≠ gb296)); clear BK296; clear HB; have BK296 := n0_; have HB := n1_; have BK297 := n2_; have GW297 := n3_; have GE297 := n4_; have NB296_297 := n5_; have NB297_296 := n6_; clear n0_ n1_ n2_ n3_ n4_ n5_ n6_; clear hb hbox hg; have hnb5 := NB296_297.out; have hnc5 := NB297_296.out; have hcz6_0 : w4.cell? ⟨gb296, 0, none⟩ = some (.int .i64 a0_0) := (blk_cell BK296.out 0).trans rfl; have hcz6_1 : w4.cell? ⟨gb296, 1, none⟩ = some (.int .i64 a0_1) := (blk_cell BK296.out 1).trans rfl; have hcz6_2 : w4.cell? ⟨gb296, 2, none⟩ = some (.int .i64 a0_2) := (blk_cell BK296.out 2).trans rfl; have hfz6_0 := blk_frozen BK296.out 0; have hfz6_1 := blk_frozen BK296.out 1; have hfz6_2 := blk_frozen BK296.out 2; have hcz7_0 : w4.cell? ⟨gb297, 0, none⟩ = some (.int .i64 0) := (blk_cell BK297.out 0).trans rfl; have hcz7_1 : w4.cell? ⟨gb297, 1, none⟩ = some (.int .i64 0) := (blk_cell BK297.out 1).trans rfl; have hcz7_2 : w4.cell? ⟨gb297, 2, none⟩ = some (.int .i64 0) := (blk_cell BK297.out 2).trans rfl; have hfz7_0 := blk_frozen BK297.out 0; have hfz7_1 := blk_frozen BK297.out 1; have hfz7_2 := blk_frozen BK297.out 2))
 refine bodyPost_ret (results_cell_row rfl _ _ gb297 33 #[.int .i64 (wrap64 (a0_0 + (wrap64 (a0_1 + (wrap64 (a0_2 + a1)))))), .int .i64 (wrap64 (a0_1 + (wrap64 (a0_2 + a1)))), .int .i64 (wrap64 (a0_2 + a1))] (0, 0) _ rfl (by (with_reducible repeat (first | refine blk_drewN ?_ _ | refine blk_drew ?_ | refine blk_alloc ?_ _)); refine blk_put (cs := #[.int .i64 (wrap64 (a0_0 + (wrap64 (a0_1 + (wrap64 (a0_2 + a1)))))), .int .i64 (wrap64 (a0_1 + (wrap64 (a0_2 + a1)))), .int .i64 0]) ?_ 2 _ rfl; (with_reducible repeat (first | refine blk_drewN ?_ _ | refine blk_drew ?_ | refine blk_alloc ?_ _)); refine blk_put (cs := #[.int .i64 (wrap64 (a0_0 + (wrap64 (a0_1 + (wrap64 (a0_2 + a1)))))), .int .i64 0, .int .i64 0]) ?_ 1 _ rfl; (with_reducible repeat (first | refine blk_drewN ?_ _ | refine blk_drew ?_ | refine blk_alloc ?_ _)); refine blk_put (cs := #[.int .i64 0, .int .i64 0, .int .i64 0]) ?_ 0 _ rfl; (with_reducible repeat (first | refine blk_drewN ?_ _ | refine blk_drew ?_ | refine blk_alloc ?_ _)); exact BK297.out) Try.underlying33 rfl (by kernel_rfl)) rfl ?_
 exact ⟨by first | rfl | (simp [errW_none, errW_some] <;> rfl) | (simp [*, errW_none, errW_some] <;> rfl), by repeat (first | (with_reducible first | exact HB.out | apply below_alloc | apply pw_below_drewN | apply below_drew1 | refine below_set ?_ GE296.out | refine below_set ?_ GE297.out) | exact HB.out)⟩

/-! ### ambidexterref21_End: function 47 -/
def ambidexterref21_End.l0 : Nat → List Int → Int → Int → Int → Int → Option (Int × Int × Int)
 | 0, _, _, _, _, _ => none
 | k + 1, x1, x5, x299000, x299001, x299002 => if x5 < (x1.length : Int) then (if 0 ≤ x5 then ((ambidexterref21_Tick.f x299000 x299001 x299002 (rd x1 x5)).bind fun bt301 => (ambidexterref21_End.l0 k x1 (wrap64 (x5 + 1)) bt301.1 bt301.2.1 bt301.2.2)) else (none)) else (some (x299000, x299001, x299002))
def ambidexterref21_End.f (k : Nat) (a0_0 : Int) (a0_1 : Int) (a0_2 : Int) (l1 : List Int) : Option (Int × Int × Int) := ambidexterref21_End.l0 k l1 0 a0_0 a0_1 a0_2
theorem ambidexterref21_End.mono_l : ∀ k, (∀ y0 y1 y2 y3 y4, LeO (ambidexterref21_End.l0 k y0 y1 y2 y3 y4) (ambidexterref21_End.l0 (k + 1) y0 y1 y2 y3 y4))
 | 0 => fun _ _ _ _ _ r h => by simp [ambidexterref21_End.l0] at h
 | k + 1 => by
  have ih0 := ambidexterref21_End.mono_l k
  ·
   intro y0 y1 y2 y3 y4
   unfold ambidexterref21_End.l0
   repeat' first
   | (with_reducible exact ih0 _ _ _ _ _)
   | (with_reducible exact LeO.refl _)
   | (with_reducible exact LeO.none _)
   | (with_reducible refine LeO.ite ?_ ?_)
   | (with_reducible refine LeO.bind ?_ (fun _ => ?_))
   | exact ih0 _ _ _ _ _
   | exact LeO.none _
   | refine LeO.ite ?_ ?_
   | refine LeO.bind ?_ (fun _ => ?_)
theorem ambidexterref21_End.mono : ∀ a0 a1 a2 a3 k, LeO (ambidexterref21_End.f k a0 a1 a2 a3) (ambidexterref21_End.f (k + 1) a0 a1 a2 a3) := by
 intro a0 a1 a2 a3 k
 have ih0 := ambidexterref21_End.mono_l k
 unfold ambidexterref21_End.f
 repeat' first
   | (with_reducible exact ih0 _ _ _ _ _)
   | (with_reducible exact LeO.refl _)
   | (with_reducible exact LeO.none _)
   | (with_reducible refine LeO.ite ?_ ?_)
   | (with_reducible refine LeO.bind ?_ (fun _ => ?_))
   | exact ih0 _ _ _ _ _
   | exact LeO.none _
   | refine LeO.ite ?_ ?_
   | refine LeO.bind ?_ (fun _ => ?_)
set_option maxHeartbeats 8000000 in
set_option maxRecDepth 100000 in
theorem ambidexterref21_End.calls (k : Nat) (a0_0 : Int) (a0_1 : Int) (a0_2 : Int) (A1 : Option Addr) (c1 : Nat) (l1 : List Int) (r1 : Int) (r2 : Int) (r3 : Int) (w : World) (hr1 : Kd.C (Kd.int .i64) w A1 l1.length l1) (hc1 : l1.length ≤ c1) (h : ambidexterref21_End.f k a0_0 a0_1 a0_2 l1 = some (r1, r2, r3)) :
  Calls Try.prog 47 #[.agg #[.int .i64 a0_0, .int .i64 a0_1, .int .i64 a0_2], .slice A1 l1.length c1] w fun e w' => e = .returned (.agg #[.int .i64 r1, .int .i64 r2, .int .i64 r3]) ∧ Below w.heap.size w w' := by
 have hu33 := Try.underlying33
 have HR1 := Aside0.mk hr1
 have HC1 := Aside0.mk hc1
 clear hr1 hc1
 have HB := Aside0.mk (Below.refl w.heap.size w)
 have H : (ambidexterref21_End.l0 k l1 0 a0_0 a0_1 a0_2) = some (r1, r2, r3) := h
 clear h
 have H' := Aside0.mk H
 clear H
 go_enter Try.func47, Try.ntmps47
 go_wp2_with (first | ((with_reducible refine gate_dst (N := 2) rfl ?_); refine box_event ?hg (N := 2) ?hd (cs := #[.int .i64 a0_0, .int .i64 a0_1, .int .i64 a0_2]) (t := 33) ?hr ?_; (case hd => rfl); (case hg => rfl); (case hr => first | (go_simp; done) | (go_simp; rfl)); intro gb298 hg w3 hbox hb; have n0_ := Aside0.mk (below_step hb_ hb); have n1_ := Aside0.mk (hbox); have n2_ := Aside0.mk ((by rw [hg]; exact (below_size hb_) : w.heap.size ≤ gb298)); have n3_ := Aside0.mk ((by rw [hg]; exact (below_size hb_) : w.heap.size ≤ gb298)); clear HB; have HB := n0_; have BK298 := n1_; have GW298 := n2_; have GE298 := n3_; clear n0_ n1_ n2_ n3_; clear hb hbox hg) | ((with_reducible refine gate_dst (N := 4) rfl ?_); refine box_event ?hg (N := 4) ?hd (cs := #[.int .i64 0, .int .i64 0, .int .i64 0]) (t := 33) ?hr ?_; (case hd => rfl); (case hg => rfl); (case hr => first | (go_simp; done) | (go_simp; rfl)); intro gb299 hg w4 hbox hb; have n0_ := Aside0.mk (blk_below (g := gb298) (o := .cells #[.int .i64 a0_0, .int .i64 a0_1, .int .i64 a0_2] 33 (0, 0)) (bk_ BK298.out) hb); have n1_ := Aside0.mk (below_step hb_ hb); have n2_ := Aside0.mk (hbox); have n3_ := Aside0.mk ((by rw [hg]; exact (below_size hb_) : w.heap.size ≤ gb299)); have n4_ := Aside0.mk ((by rw [hg]; exact (below_size hb_) : w.heap.size ≤ gb299)); have n5_ := Aside0.mk ((by rw [hg]; exact Nat.ne_of_lt (blk_lt (g := gb298) (o := .cells #[.int .i64 a0_0, .int .i64 a0_1, .int .i64 a0_2] 33 (0, 0)) (bk_ BK298.out)) : gb298 ≠ gb299)); have n6_ := Aside0.mk ((by rw [hg]; exact Nat.ne_of_gt (blk_lt (g := gb298) (o := .cells #[.int .i64 a0_0, .int .i64 a0_1, .int .i64 a0_2] 33 (0, 0)) (bk_ BK298.out)) : gb299 ≠ gb298)); clear BK298; clear HB; have BK298 := n0_; have HB := n1_; have BK299 := n2_; have GW299 := n3_; have GE299 := n4_; have NB298_299 := n5_; have NB299_298 := n6_; clear n0_ n1_ n2_ n3_ n4_ n5_ n6_; clear hb hbox hg))
 go_loopg [5] k (fun kq v5 w' => ∃ (x5_1 : Int) (x299000_1 : Int) (x299001_1 : Int) (x299002_1 : Int), v5 = .int .i64 x5_1 ∧ Aside0 (ambidexterref21_End.l0 kq l1 x5_1 x299000_1 x299001_1 x299002_1 = some (r1, r2, r3)) ∧ Aside0 (kq ≤ k) ∧ Aside0 (w'.heap[gb298]? = some (.cells #[.int .i64 x299000_1, .int .i64 x299001_1, .int .i64 x299002_1] 33 (0, 0))) ∧ Aside0 (w'.heap[gb299]? = some (.cells #[.int .i64 0, .int .i64 0, .int .i64 0] 33 (0, 0))) ∧ Aside0 (Below w.heap.size w w'))
 case atStart => exact ⟨(0), (a0_0), (a0_1), (a0_2), (by first | rfl | (simp; done) | (simp [*]; done)), H', ⟨Nat.le_refl _⟩, ⟨by (with_reducible repeat (first | refine blk_drewN ?_ _ | refine blk_drew ?_ | refine blk_alloc ?_ _)); exact BK298.out⟩, ⟨by (with_reducible repeat (first | refine blk_drewN ?_ _ | refine blk_drew ?_ | refine blk_alloc ?_ _)); exact BK299.out⟩, ⟨by repeat (first | (with_reducible first | exact HB.out | apply below_alloc | apply pw_below_drewN | apply below_drew1 | refine below_set ?_ GE298.out | refine below_set ?_ GE299.out) | exact HB.out)⟩⟩
 case round =>
  clear H'
  try clear c1
  try clear p2
  try clear c4
  obtain ⟨x5_1, x299000_1, x299001_1, x299002_1, rfl, HA, HK1, BK298, BK299, HB⟩ := hrel
  cases gk with
  | zero => exact absurd HA.out (by simp [ambidexterref21_End.l0])
  | succ k1 =>
   have H := HA.out
   clear HA
   simp only [ambidexterref21_End.l0] at H
   by_cases c5 : x5_1 < (l1.length : Int)
   ·
    rw [if_pos c5] at H
    have c5b0 : decide (x5_1 < (l1.length : Int)) = true := decide_eq_true c5
    clear c5
    by_cases c6 : 0 ≤ x5_1
    ·
     rw [if_pos c6] at H
     have c6b0 : decide (0 ≤ x5_1) = true := decide_eq_true c6
     clear c6
     replace H := Option.bind_eq_some_iff.mp H
     obtain ⟨⟨t301, t302, t303⟩, A70, H⟩ := H
     replace H : (ambidexterref21_End.l0 k1 l1 (wrap64 (x5_1 + 1)) t301 t302 t303) = some (r1, r2, r3) := H
     have A7 := Aside0.mk A70
     clear A70
     have H' := Aside0.mk H
     clear H
     try go_wp2
     have n0_ := Aside0.mk (blk_drew BK298.out)
     have n1_ := Aside0.mk (blk_drew BK299.out)
     have n2_ := Aside0.mk (below_drew1 HB.out)
     clear BK298
     clear BK299
     clear HB
     have BK298 := n0_
     have BK299 := n1_
     have HB := n2_
     clear n0_ n1_ n2_
     have p300 : 0 ≤ (x5_1 : Int) := od_
     have q300 : x5_1 < (l1.length : Int) := od_
     obtain ⟨ad300, e300, hx300_0⟩ := Kd.at_int HR1.out x5_1 p300 q300
     have hw300_0 := hx300_0
     cases e300
     replace hx300_0 := (HB.out.cell (World.block_lt_of_cell? w _ hx300_0)).trans hx300_0
     replace p300 := eq_true p300
     replace q300 := eq_true q300
     refine start_ (n := 7) (S := fun w' => w'.cell? ⟨gb298, 0, none⟩ = some (.int .i64 x299000_1) ∧ w'.cell? ⟨gb298, 1, none⟩ = some (.int .i64 x299001_1) ∧ w'.cell? ⟨gb298, 2, none⟩ = some (.int .i64 x299002_1) ∧ w'.cell? (ad300.add (x5_1).toNat) = some (.int .i64 (rd l1 x5_1))) (ds := [6]) #[false, false, false, false, false, false, false] (by kernel_rfl) rfl rfl ⟨(blk_cell BK298.out 0).trans rfl, (blk_cell BK298.out 1).trans rfl, (blk_cell BK298.out 2).trans rfl, ((HB.out.cell (World.block_lt_of_cell? w _ hw300_0)).trans hw300_0)⟩ (fun hHeld => ?_)
     generalize wr.drew = w8 at BK298 BK299 HB hx300_0 hHeld ⊢
     refine pure_ (i := 1) (N := some 13) (v := ?_) (a' := ?_) #[false, true, false, false, false, false, false] rfl rfl (by kernel_rfl) (fun _ _ _ h => h) (Or.inl ⟨by rfl, ?_⟩) ?_ ?_
     rotate_left
     ·
      intro w'
      go_simp
      with_reducible rfl
     rotate_left
     ·
      simp only [Act.put, List.setIfInBounds_toArray, List.set_cons_zero, List.set_cons_succ, i64_w, i32_w]
      rfl
     refine pure_ (i := 2) (N := some 14) (v := ?_) (a' := ?_) #[false, true, true, false, false, false, false] rfl rfl (by kernel_rfl) (fun _ _ _ h => h) (Or.inl ⟨by rfl, ?_⟩) ?_ ?_
     rotate_left
     ·
      intro w'
      go_simp
      with_reducible rfl
     rotate_left
     ·
      simp only [Act.put, List.setIfInBounds_toArray, List.set_cons_zero, List.set_cons_succ, i64_w, i32_w]
      rfl
     refine pure_ (i := 3) (N := some 15) (v := ?_) (a' := ?_) #[false, true, true, true, false, false, false] rfl rfl (by kernel_rfl) (fun _ _ _ h => h) (Or.inl ⟨by rfl, ?_⟩) ?_ ?_
     rotate_left
     ·
      intro w'
      go_simp
      with_reducible rfl
     rotate_left
     ·
      simp only [Act.put, List.setIfInBounds_toArray, List.set_cons_zero, List.set_cons_succ, i64_w, i32_w]
      rfl
     refine take_ (i := 0) (N := some 12) (v := ?_) (a' := ?_) #[true, true, true, true, false, false, false] rfl rfl (by kernel_rfl) (fun _ _ _ h => h) (Or.inl ⟨by rfl, ?_⟩) hHeld ?_ ?_
     rotate_left
     ·
      rintro w' ⟨s0, s1, s2, s3⟩
      go_simp
      with_reducible rfl
     rotate_left
     ·
      simp only [Act.put, List.setIfInBounds_toArray, List.set_cons_zero, List.set_cons_succ, i64_w, i32_w]
      rfl
     refine take_ (i := 4) (N := some 16) (v := ?_) (a' := ?_) #[true, true, true, true, true, false, false] rfl rfl (by kernel_rfl) (fun _ _ _ h => h) (Or.inl ⟨by rfl, ?_⟩) hHeld ?_ ?_
     rotate_left
     ·
      rintro w' ⟨s0, s1, s2, s3⟩
      go_simp
      with_reducible rfl
     rotate_left
     ·
      simp only [Act.put, List.setIfInBounds_toArray, List.set_cons_zero, List.set_cons_succ, i64_w, i32_w]
      rfl
     refine one_ (i := 5) (N := some 17) #[true, true, true, true, true, true, false] rfl rfl (by kernel_rfl) (by decide) (fun K hK => ?_)
     refine goes_ Try.func54 (by kernel_rfl) rfl #[.agg #[.int .i64 x299000_1, .int .i64 x299001_1, .int .i64 x299002_1], .int .i64 (rd l1 x5_1)] (by rfl) rfl rfl (by (try simp only [List.map_toArray, List.map_cons, List.map_nil]); first | done | rfl | (simp only [List.length_drop, List.length_take]; rfl)) ?_
     with_reducible refine (ambidexterref21_Tick.calls x299000_1 x299001_1 x299002_1 (rd l1 x5_1) t301 t302 t303 _ A7.out).mono ?_
     rintro e w9 ⟨rfl, hb⟩
     refine ⟨_, rfl, ?_⟩
     have n0_ := Aside0.mk (blk_below (g := gb298) (o := .cells #[.int .i64 x299000_1, .int .i64 x299001_1, .int .i64 x299002_1] 33 (0, 0)) (bk_ BK298.out) hb)
     have n1_ := Aside0.mk (blk_below (g := gb299) (o := .cells #[.int .i64 0, .int .i64 0, .int .i64 0] 33 (0, 0)) (bk_ BK299.out) hb)
     have n2_ := Aside0.mk (below_step hb_ hb)
     clear BK298
     clear BK299
     clear HB
     have BK298 := n0_
     have BK299 := n1_
     have HB := n2_
     clear n0_ n1_ n2_
     (try clear hb)
     (try clear hb2)
     (try clear hk)
     (try clear hi)
     refine hK.out _ _ ⟨(blk_cell BK298.out 0).trans rfl, (blk_cell BK298.out 1).trans rfl, (blk_cell BK298.out 2).trans rfl, ((HB.out.cell (World.block_lt_of_cell? w _ hw300_0)).trans hw300_0)⟩ (fun hHeld => ?_)
     clear hK K
     refine norm_ (a' := ?_) ?_ ?_
     rotate_left
     ·
      show Act.put _ (some 17) _ = _
      simp only [Act.put, List.setIfInBounds_toArray, List.set_cons_zero, List.set_cons_succ, i64_w, i32_w]
      rfl
     refine last_ (i := 6) (N := none) #[true, true, true, true, true, true, true] rfl rfl (by kernel_rfl) (by decide) (fun K hK => ?_)
     have hs10 : w9.cell? ⟨gb298, 0, none⟩ = some (.int .i64 x299000_1) := (blk_cell BK298.out 0).trans rfl
     have hfs10 := blk_frozen BK298.out 0
     have hns10_1 := NB299_298.out
     have hms10_1 := NB298_299.out
     have hs11 : w9.cell? ⟨gb298, 1, none⟩ = some (.int .i64 x299001_1) := (blk_cell BK298.out 1).trans rfl
     have hfs11 := blk_frozen BK298.out 1
     have hns11_1 := NB299_298.out
     have hms11_1 := NB298_299.out
     have hs12 : w9.cell? ⟨gb298, 2, none⟩ = some (.int .i64 x299002_1) := (blk_cell BK298.out 2).trans rfl
     have hfs12 := blk_frozen BK298.out 2
     have hns12_1 := NB299_298.out
     have hms12_1 := NB298_299.out
     refine skip_ (w1 := ?_) (by rfl) rfl ?_ ?_
     rotate_left
     ·
      go_simp
      rfl
     refine hK.out _ _ ?_
     clear hK K
     refine done_ (by kernel_rfl) ?_
     try go_wp2
     go_roundg k1
     case measure => have := HK1.out; omega
     case rel => exact ⟨(wrap64 (x5_1 + 1)), (t301), (t302), (t303), (by first | rfl | (simp; done) | (simp [*]; done)), H', ⟨by have := HK1.out; omega⟩, ⟨by (with_reducible repeat (first | refine blk_drewN ?_ _ | refine blk_drew ?_ | refine blk_alloc ?_ _)); refine blk_put (cs := #[.int .i64 t301, .int .i64 t302, .int .i64 x299002_1]) ?_ 2 _ rfl; (with_reducible repeat (first | refine blk_drewN ?_ _ | refine blk_drew ?_ | refine blk_alloc ?_ _)); refine blk_put (cs := #[.int .i64 t301, .int .i64 x299001_1, .int .i64 x299002_1]) ?_ 1 _ rfl; (with_reducible repeat (first | refine blk_drewN ?_ _ | refine blk_drew ?_ | refine blk_alloc ?_ _)); refine blk_put (cs := #[.int .i64 x299000_1, .int .i64 x299001_1, .int .i64 x299002_1]) ?_ 0 _ rfl; (with_reducible repeat (first | refine blk_drewN ?_ _ | refine blk_drew ?_ | refine blk_alloc ?_ _)); exact BK298.out⟩, ⟨by (with_reducible repeat (first | refine blk_drewN ?_ _ | refine blk_drew ?_ | refine blk_alloc ?_ _)); refine blk_far ?_ NB299_298.out _; (with_reducible repeat (first | refine blk_drewN ?_ _ | refine blk_drew ?_ | refine blk_alloc ?_ _)); refine blk_far ?_ NB299_298.out _; (with_reducible repeat (first | refine blk_drewN ?_ _ | refine blk_drew ?_ | refine blk_alloc ?_ _)); refine blk_far ?_ NB299_298.out _; (with_reducible repeat (first | refine blk_drewN ?_ _ | refine blk_drew ?_ | refine blk_alloc ?_ _)); exact BK299.out⟩, ⟨by repeat (first | (with_reducible first | exact HB.out | apply below_alloc | apply pw_below_drewN | apply below_drew1 | refine below_set ?_ GE298.out | refine below_set ?_ GE299.out) | exact HB.out)⟩⟩
    ·
     rw [if_neg c6] at H
     exact absurd H (by simp)
   ·
    rw [if_neg c5] at H
    have c5b0 : decide (x5_1 < (l1.length : Int)) = false := decide_eq_false c5
    clear c5
    simp only [Option.some.injEq, Prod.mk.injEq] at H
    obtain ⟨rfl, rfl, rfl⟩ := H
    have hnb13 := NB298_299.out
    have hnc13 := NB299_298.out
    have hcz14_0 : wr.cell? ⟨gb298, 0, none⟩ = some (.int .i64 x299000_1) := (blk_cell BK298.out 0).trans rfl
    have hcz14_1 : wr.cell? ⟨gb298, 1, none⟩ = some (.int .i64 x299001_1) := (blk_cell BK298.out 1).trans rfl
    have hcz14_2 : wr.cell? ⟨gb298, 2, none⟩ = some (.int .i64 x299002_1) := (blk_cell BK298.out 2).trans rfl
    have hfz14_0 := blk_frozen BK298.out 0
    have hfz14_1 := blk_frozen BK298.out 1
    have hfz14_2 := blk_frozen BK298.out 2
    have hcz15_0 : wr.cell? ⟨gb299, 0, none⟩ = some (.int .i64 0) := (blk_cell BK299.out 0).trans rfl
    have hcz15_1 : wr.cell? ⟨gb299, 1, none⟩ = some (.int .i64 0) := (blk_cell BK299.out 1).trans rfl
    have hcz15_2 : wr.cell? ⟨gb299, 2, none⟩ = some (.int .i64 0) := (blk_cell BK299.out 2).trans rfl
    have hfz15_0 := blk_frozen BK299.out 0
    have hfz15_1 := blk_frozen BK299.out 1
    have hfz15_2 := blk_frozen BK299.out 2
    go_wp2
    refine bodyPost_ret (results_cell_row rfl _ _ gb299 33 #[.int .i64 x299000_1, .int .i64 x299001_1, .int .i64 x299002_1] (0, 0) _ rfl (by (with_reducible repeat (first | refine blk_drewN ?_ _ | refine blk_drew ?_ | refine blk_alloc ?_ _)); refine blk_put (cs := #[.int .i64 x299000_1, .int .i64 x299001_1, .int .i64 0]) ?_ 2 _ rfl; (with_reducible repeat (first | refine blk_drewN ?_ _ | refine blk_drew ?_ | refine blk_alloc ?_ _)); refine blk_put (cs := #[.int .i64 x299000_1, .int .i64 0, .int .i64 0]) ?_ 1 _ rfl; (with_reducible repeat (first | refine blk_drewN ?_ _ | refine blk_drew ?_ | refine blk_alloc ?_ _)); refine blk_put (cs := #[.int .i64 0, .int .i64 0, .int .i64 0]) ?_ 0 _ rfl; (with_reducible repeat (first | refine blk_drewN ?_ _ | refine blk_drew ?_ | refine blk_alloc ?_ _)); exact BK299.out) Try.underlying33 rfl (by kernel_rfl)) rfl ?_
    exact ⟨by first | rfl | (simp [errW_none, errW_some] <;> rfl) | (simp [*, errW_none, errW_some] <;> rfl), by repeat (first | (with_reducible first | exact HB.out | apply below_alloc | apply pw_below_drewN | apply below_drew1 | refine below_set ?_ GE298.out | refine below_set ?_ GE299.out) | exact HB.out)⟩

end Go.Proofs.Ytmmaodlngnjmlaa.P
