-- Written by this session's own program, for this seat. Lean checks it.
import Derived.Test.YtjcefdockfbnaaaP0
import Derived.Test.YtjcefdockfbnaaaP2
import Derived.Test.YtjcefdockfbnaaaP3
import Derived.Test.YtjcefdockfbnaaaP6
import Derived.Test.YtjcefdockfbnaaaP9
namespace Go.Proofs.Ytjcefdockfbnaaa.P
open Go.RowKit Go.Proofs.YtjcefdockfbnaaaW.PrintWords Go.Proofs.YtjcefdockfbnaaaW.PrintLast Go.Proofs.YtjcefdockfbnaaaW.PrintMore
attribute [local go_sem] max2_int min2_int max_two min_two max_three min_three max_four min_four   -- for this text's walks alone
set_option linter.unusedVariables false
set_option linter.unusedSimpArgs false

/-! ### ambidexterlaw22_MintimeBound: function 13 -/
mutual
def ambidexterlaw22_MintimeBound.j0 : Nat → Bool → Int → List Int → List (S37) → Bool → Int → Int → Int → Option (Bool)
  | 0, _, _, _, _, _, _, _, _ => none
  | k + 1, x5, x7, x8, x10, x54, x310000, x310001, x310002 => if x54 = true then (some false) else (ambidexterlaw22_MintimeBound.l0 k x5 x7 x8 x10 0 x310000 x310001 x310002)
def ambidexterlaw22_MintimeBound.l0 : Nat → Bool → Int → List Int → List (S37) → Int → Int → Int → Int → Option (Bool)
  | 0, _, _, _, _, _, _, _, _ => none
  | k + 1, x5, x7, x8, x10, x11, x310000, x310001, x310002 => if x11 < (x10.length : Int) then (if 0 ≤ x11 then (if ((rd_T37 x10 x11).f2) = 0 then (if ((rd_T37 x10 x11).f1) < 1 then (ambidexterlaw22_MintimeBound.l0 k x5 x7 x8 x10 (wrap64 (x11 + 1)) x310000 x310001 x310002) else (if (wrap64 (x7 + ((rd_T37 x10 x11).f1))) > 420 then (ambidexterlaw22_MintimeBound.l0 k x5 x7 x8 x10 (wrap64 (x11 + 1)) x310000 x310001 x310002) else ((mintime_Duration.f k x310000 x310001 x310002 (wrap64 (x7 + ((rd_T37 x10 x11).f1)))).bind fun bt321 => (if x5 = true then (if bt321.2 = true then (some (decide (bt321.1 ≤ (wrap64 ((x8.length : Int) + 1))))) else (some false)) else (some false))))) else (ambidexterlaw22_MintimeBound.l0 k x5 x7 x8 x10 (wrap64 (x11 + 1)) x310000 x310001 x310002)) else (none)) else (some x5)
end
def ambidexterlaw22_MintimeBound.f (k : Nat) (a0_0 : Int) (a0_1 : Int) (a0_2 : Int) (a1 : Int) : Option (Bool) := (ambidexterlaw22_head.f k).bind fun t305 => ((ambidexterlaw22_Limits.f a0_0 a0_1 a0_2).bind fun bt306 => ((mintime_Profile.f k bt306.1 bt306.2.1 bt306.2.2 (Int.tmod (wrap64 (a1)) 421)).bind fun bt310 => (if bt310.2 = true then ((profile_Simulate.f 0 0 0 bt310.1).bind fun t314 => (if (t314.length : Int) = (bt310.1.length : Int) then (ambidexterlaw22_MintimeBound.j0 k t305 (Int.tmod (wrap64 (a1)) 421) bt310.1 t314 (decide ((wrap64 ((bt310.1.length : Int) * bt306.1)) < (Int.tmod (wrap64 (a1)) 421))) bt306.1 bt306.2.1 bt306.2.2) else (ambidexterlaw22_MintimeBound.j0 k t305 (Int.tmod (wrap64 (a1)) 421) bt310.1 t314 true bt306.1 bt306.2.1 bt306.2.2))) else (if t305 = true then (some ((Int.tmod (wrap64 (a1)) 421) == 1)) else (some false)))))
theorem ambidexterlaw22_MintimeBound.mono_l : ∀ k, (∀ y0 y1 y2 y3 y4 y5 y6 y7, LeO (ambidexterlaw22_MintimeBound.j0 k y0 y1 y2 y3 y4 y5 y6 y7) (ambidexterlaw22_MintimeBound.j0 (k + 1) y0 y1 y2 y3 y4 y5 y6 y7)) ∧ (∀ y0 y1 y2 y3 y4 y5 y6 y7, LeO (ambidexterlaw22_MintimeBound.l0 k y0 y1 y2 y3 y4 y5 y6 y7) (ambidexterlaw22_MintimeBound.l0 (k + 1) y0 y1 y2 y3 y4 y5 y6 y7))
  | 0 => ⟨fun _ _ _ _ _ _ _ _ r h => by simp [ambidexterlaw22_MintimeBound.j0] at h, fun _ _ _ _ _ _ _ _ r h => by simp [ambidexterlaw22_MintimeBound.l0] at h⟩
  | k + 1 => by
    obtain ⟨ih0, ih1⟩ := ambidexterlaw22_MintimeBound.mono_l k
    refine ⟨?_, ?_⟩
    · intro y0 y1 y2 y3 y4 y5 y6 y7
      unfold ambidexterlaw22_MintimeBound.j0
      repeat' first
      | (with_reducible exact ih0 _ _ _ _ _ _ _ _)
      | (with_reducible exact ih1 _ _ _ _ _ _ _ _)
      | (with_reducible exact ambidexterlaw22_head.mono _)
      | (with_reducible exact mintime_Duration.mono _ _ _ _ _)
      | (with_reducible exact mintime_Profile.mono _ _ _ _ _)
      | (with_reducible exact LeO.refl _)
      | (with_reducible exact LeO.none _)
      | (with_reducible refine LeO.ite ?_ ?_)
      | (with_reducible refine LeO.bind ?_ (fun _ => ?_))
      | exact ih0 _ _ _ _ _ _ _ _
      | exact ih1 _ _ _ _ _ _ _ _
      | exact ambidexterlaw22_head.mono _
      | exact mintime_Duration.mono _ _ _ _ _
      | exact mintime_Profile.mono _ _ _ _ _
      | exact LeO.none _
      | refine LeO.ite ?_ ?_
      | refine LeO.bind ?_ (fun _ => ?_)
    · intro y0 y1 y2 y3 y4 y5 y6 y7
      unfold ambidexterlaw22_MintimeBound.l0
      repeat' first
      | (with_reducible exact ih0 _ _ _ _ _ _ _ _)
      | (with_reducible exact ih1 _ _ _ _ _ _ _ _)
      | (with_reducible exact ambidexterlaw22_head.mono _)
      | (with_reducible exact mintime_Duration.mono _ _ _ _ _)
      | (with_reducible exact mintime_Profile.mono _ _ _ _ _)
      | (with_reducible exact LeO.refl _)
      | (with_reducible exact LeO.none _)
      | (with_reducible refine LeO.ite ?_ ?_)
      | (with_reducible refine LeO.bind ?_ (fun _ => ?_))
      | exact ih0 _ _ _ _ _ _ _ _
      | exact ih1 _ _ _ _ _ _ _ _
      | exact ambidexterlaw22_head.mono _
      | exact mintime_Duration.mono _ _ _ _ _
      | exact mintime_Profile.mono _ _ _ _ _
      | exact LeO.none _
      | refine LeO.ite ?_ ?_
      | refine LeO.bind ?_ (fun _ => ?_)
theorem ambidexterlaw22_MintimeBound.mono : ∀ a0 a1 a2 a3 k, LeO (ambidexterlaw22_MintimeBound.f k a0 a1 a2 a3) (ambidexterlaw22_MintimeBound.f (k + 1) a0 a1 a2 a3) := by
  intro a0 a1 a2 a3 k
  obtain ⟨ih0, ih1⟩ := ambidexterlaw22_MintimeBound.mono_l k
  unfold ambidexterlaw22_MintimeBound.f
  repeat' first
      | (with_reducible exact ih0 _ _ _ _ _ _ _ _)
      | (with_reducible exact ih1 _ _ _ _ _ _ _ _)
      | (with_reducible exact ambidexterlaw22_head.mono _)
      | (with_reducible exact mintime_Duration.mono _ _ _ _ _)
      | (with_reducible exact mintime_Profile.mono _ _ _ _ _)
      | (with_reducible exact LeO.refl _)
      | (with_reducible exact LeO.none _)
      | (with_reducible refine LeO.ite ?_ ?_)
      | (with_reducible refine LeO.bind ?_ (fun _ => ?_))
      | exact ih0 _ _ _ _ _ _ _ _
      | exact ih1 _ _ _ _ _ _ _ _
      | exact ambidexterlaw22_head.mono _
      | exact mintime_Duration.mono _ _ _ _ _
      | exact mintime_Profile.mono _ _ _ _ _
      | exact LeO.none _
      | refine LeO.ite ?_ ?_
      | refine LeO.bind ?_ (fun _ => ?_)
def ambidexterlaw22_MintimeBound.T14 : Bool × List (List Nat × List Nat) := (true, [([], []), ([], []), ([], []), ([], []), ([2, 3], [2, 3]), ([4], [4]), ([5], [5]), ([1, 6], [1, 6]), ([0, 7], [0, 7]), ([8], [8]), ([9], [9]), ([9], [9]), ([10, 8, 0, 1, 2, 3, 4, 5, 6, 7, 8, 9, 10], [10]), ([11, 12, 0, 1, 2, 3, 4, 5, 6, 7, 8, 9, 10, 11, 12], [11])])
def ambidexterlaw22_MintimeBound.B14 : List Nat := [0, 0, 0, 0, 12, 28, 60, 126, 255, 511, 1023, 1023, 2047, 8191]
theorem ambidexterlaw22_MintimeBound.tab14 : rtab .any (opsOf Try.f13 14) = ambidexterlaw22_MintimeBound.T14 := by kernel_rfl
theorem ambidexterlaw22_MintimeBound.bits14 : waitsOk ambidexterlaw22_MintimeBound.T14.2 ambidexterlaw22_MintimeBound.B14 = true := by kernel_rfl
set_option maxHeartbeats 8000000 in
set_option maxRecDepth 100000 in
theorem ambidexterlaw22_MintimeBound.calls0 (k : Nat) (a0_0 : Int) (a0_1 : Int) (a0_2 : Int) (a1 : Int) (r : Bool) (w : World) (h : ambidexterlaw22_MintimeBound.f k a0_0 a0_1 a0_2 a1 = some r) (hT : r = true) :
    Calls Try.prog 13 #[.agg #[.int .u8 a0_0, .int .u8 a0_1, .int .u8 a0_2], .int .u16 a1] w fun e w' => e = .returned (.bool r) ∧ Below w.heap.size w w' := by
  have hu32 := Try.underlying32
  have hu23 := Try.underlying23
  have hu37 := Try.underlying37
  have HB := Aside0.mk (Below.refl w.heap.size w)
  have H : ((ambidexterlaw22_head.f k).bind fun t305 => ((ambidexterlaw22_Limits.f a0_0 a0_1 a0_2).bind fun bt306 => ((mintime_Profile.f k bt306.1 bt306.2.1 bt306.2.2 (Int.tmod (wrap64 (a1)) 421)).bind fun bt310 => (if bt310.2 = true then ((profile_Simulate.f 0 0 0 bt310.1).bind fun t314 => (if (t314.length : Int) = (bt310.1.length : Int) then (ambidexterlaw22_MintimeBound.j0 k t305 (Int.tmod (wrap64 (a1)) 421) bt310.1 t314 (decide ((wrap64 ((bt310.1.length : Int) * bt306.1)) < (Int.tmod (wrap64 (a1)) 421))) bt306.1 bt306.2.1 bt306.2.2) else (ambidexterlaw22_MintimeBound.j0 k t305 (Int.tmod (wrap64 (a1)) 421) bt310.1 t314 true bt306.1 bt306.2.1 bt306.2.2))) else (if t305 = true then (some ((Int.tmod (wrap64 (a1)) 421) == 1)) else (some false)))))) = some r := h
  clear h
  have HT := Aside0.mk hT
  clear hT
  replace H := Option.bind_eq_some_iff.mp H
  obtain ⟨t305, A30, H⟩ := H
  obtain rfl := ambidexterlaw22_head.is_true k A30
  replace H : ((ambidexterlaw22_Limits.f a0_0 a0_1 a0_2).bind fun bt306 => ((mintime_Profile.f k bt306.1 bt306.2.1 bt306.2.2 (Int.tmod (wrap64 (a1)) 421)).bind fun bt310 => (if bt310.2 = true then ((profile_Simulate.f 0 0 0 bt310.1).bind fun t314 => (if (t314.length : Int) = (bt310.1.length : Int) then (ambidexterlaw22_MintimeBound.j0 k true (Int.tmod (wrap64 (a1)) 421) bt310.1 t314 (decide ((wrap64 ((bt310.1.length : Int) * bt306.1)) < (Int.tmod (wrap64 (a1)) 421))) bt306.1 bt306.2.1 bt306.2.2) else (ambidexterlaw22_MintimeBound.j0 k true (Int.tmod (wrap64 (a1)) 421) bt310.1 t314 true bt306.1 bt306.2.1 bt306.2.2))) else (if true = true then (some ((Int.tmod (wrap64 (a1)) 421) == 1)) else (some false))))) = some r := H
  have A3 := Aside0.mk A30
  clear A30
  replace H := Option.bind_eq_some_iff.mp H
  obtain ⟨⟨t306, t307, t308⟩, A40, H⟩ := H
  replace H : ((mintime_Profile.f k t306 t307 t308 (Int.tmod (wrap64 (a1)) 421)).bind fun bt310 => (if bt310.2 = true then ((profile_Simulate.f 0 0 0 bt310.1).bind fun t314 => (if (t314.length : Int) = (bt310.1.length : Int) then (ambidexterlaw22_MintimeBound.j0 k true (Int.tmod (wrap64 (a1)) 421) bt310.1 t314 (decide ((wrap64 ((bt310.1.length : Int) * t306)) < (Int.tmod (wrap64 (a1)) 421))) t306 t307 t308) else (ambidexterlaw22_MintimeBound.j0 k true (Int.tmod (wrap64 (a1)) 421) bt310.1 t314 true t306 t307 t308))) else (if true = true then (some ((Int.tmod (wrap64 (a1)) 421) == 1)) else (some false)))) = some r := H
  have A4 := Aside0.mk A40
  clear A40
  replace H := Option.bind_eq_some_iff.mp H
  obtain ⟨⟨t310, t313⟩, A50, H⟩ := H
  replace H : (if t313 = true then ((profile_Simulate.f 0 0 0 t310).bind fun t314 => (if (t314.length : Int) = (t310.length : Int) then (ambidexterlaw22_MintimeBound.j0 k true (Int.tmod (wrap64 (a1)) 421) t310 t314 (decide ((wrap64 ((t310.length : Int) * t306)) < (Int.tmod (wrap64 (a1)) 421))) t306 t307 t308) else (ambidexterlaw22_MintimeBound.j0 k true (Int.tmod (wrap64 (a1)) 421) t310 t314 true t306 t307 t308))) else (if true = true then (some ((Int.tmod (wrap64 (a1)) 421) == 1)) else (some false))) = some r := H
  have A5 := Aside0.mk A50
  clear A50
  by_cases c6 : t313 = true
  · subst c6
    have H1 : ((profile_Simulate.f 0 0 0 t310).bind fun t314 => (if (t314.length : Int) = (t310.length : Int) then (ambidexterlaw22_MintimeBound.j0 k true (Int.tmod (wrap64 (a1)) 421) t310 t314 (decide ((wrap64 ((t310.length : Int) * t306)) < (Int.tmod (wrap64 (a1)) 421))) t306 t307 t308) else (ambidexterlaw22_MintimeBound.j0 k true (Int.tmod (wrap64 (a1)) 421) t310 t314 true t306 t307 t308))) = some r := by rw [if_pos rfl] at H; exact H
    clear H
    have H := H1
    clear H1
    replace H := Option.bind_eq_some_iff.mp H
    obtain ⟨t314, A70, H⟩ := H
    replace H : (if (t314.length : Int) = (t310.length : Int) then (ambidexterlaw22_MintimeBound.j0 k true (Int.tmod (wrap64 (a1)) 421) t310 t314 (decide ((wrap64 ((t310.length : Int) * t306)) < (Int.tmod (wrap64 (a1)) 421))) t306 t307 t308) else (ambidexterlaw22_MintimeBound.j0 k true (Int.tmod (wrap64 (a1)) 421) t310 t314 true t306 t307 t308)) = some r := H
    have A7 := Aside0.mk A70
    clear A70
    have HC8 := Aside0.mk H
    clear H
    go_enter Try.func13, Try.ntmps13
    go_upto_region 8 with (first | ((with_reducible refine gate_dst (N := 2) rfl ?_); (try (refine gate_guard (by rfl) ?_; dsimp only)); refine box_event ?hg (N := 2) ?hd (cs := #[.int .u8 a0_0, .int .u8 a0_1, .int .u8 a0_2]) (t := 32) ?hr ?_; (case hd => rfl); (case hg => rfl); (case hr => first | (go_simp; done) | (go_simp; rfl)); intro gb304 hg w9 hbox hb; have n0_ := Aside0.mk (below_step (by repeat (first | (with_reducible first | exact HB.out | apply below_alloc | apply pw_below_drewN | apply below_drew1) | exact HB.out)) hb); have n1_ := Aside0.mk (hbox); have n2_ := Aside0.mk ((by rw [hg]; exact (below_size (by repeat (first | (with_reducible first | exact HB.out | apply below_alloc | apply pw_below_drewN | apply below_drew1) | exact HB.out))) : w.heap.size ≤ gb304)); have n3_ := Aside0.mk ((by rw [hg]; exact (below_size (by repeat (first | (with_reducible first | exact HB.out | apply below_alloc | apply pw_below_drewN | apply below_drew1) | exact HB.out))) : w.heap.size ≤ gb304)); clear HB; have HB := n0_; have BK304 := n1_; have GW304 := n2_; have GE304 := n3_; clear n0_ n1_ n2_ n3_; clear hb hbox hg) | ((with_reducible refine gate_callee (f := 15) rfl ?_); refine goesL_ (some 14) rfl rfl Try.func15 (by kernel_rfl) rfl #[] rfl (by (try simp only [List.map_toArray, List.map_cons, List.map_nil]); first | done | rfl | (simp only [List.length_drop, List.length_take]; rfl)) ?_; (with_reducible refine (ambidexterlaw22_head.calls k  true _ A3.out).mono ?_); rintro e w10 ⟨rfl, hb⟩; refine ⟨_, rfl, ?_⟩; have n0_ := Aside0.mk (blk_below (g := gb304) (o := .cells #[.int .u8 a0_0, .int .u8 a0_1, .int .u8 a0_2] 32 (0, 0)) (by (with_reducible repeat (first | refine blk_drewN ?_ _ | refine blk_drew ?_ | refine blk_alloc ?_ _)); exact BK304.out) hb); have n1_ := Aside0.mk (below_step (by repeat (first | (with_reducible first | exact HB.out | apply below_alloc | apply pw_below_drewN | apply below_drew1 | refine below_set ?_ GE304.out) | exact HB.out)) hb); clear BK304; clear HB; have BK304 := n0_; have HB := n1_; clear n0_ n1_; (try clear hb); (try clear hb2); (try clear hk); (try clear hi); have hcz11_0 : w10.cell? ⟨gb304, 0, none⟩ = some (.int .u8 a0_0) := (blk_cell BK304.out 0).trans rfl; have hcz11_1 : w10.cell? ⟨gb304, 1, none⟩ = some (.int .u8 a0_1) := (blk_cell BK304.out 1).trans rfl; have hcz11_2 : w10.cell? ⟨gb304, 2, none⟩ = some (.int .u8 a0_2) := (blk_cell BK304.out 2).trans rfl; have hfz11_0 := blk_frozen BK304.out 0; have hfz11_1 := blk_frozen BK304.out 1; have hfz11_2 := blk_frozen BK304.out 2) | ((with_reducible refine gate_callee (f := 20) rfl ?_); refine goesL_ (some 21) rfl rfl Try.func20 (by kernel_rfl) rfl #[.int .u8 a0_0, .int .u8 a0_1, .int .u8 a0_2] rfl (by (try simp only [List.map_toArray, List.map_cons, List.map_nil]); first | done | rfl | (simp only [List.length_drop, List.length_take]; rfl)) ?_; (with_reducible refine (ambidexterlaw22_Limits.calls a0_0 a0_1 a0_2 t306 t307 t308 _ A4.out).mono ?_); rintro e w12 ⟨rfl, hb⟩; refine ⟨_, rfl, ?_⟩; have n0_ := Aside0.mk (blk_below (g := gb304) (o := .cells #[.int .u8 a0_0, .int .u8 a0_1, .int .u8 a0_2] 32 (0, 0)) (by (with_reducible repeat (first | refine blk_drewN ?_ _ | refine blk_drew ?_ | refine blk_alloc ?_ _)); exact BK304.out) hb); have n1_ := Aside0.mk (below_step (by repeat (first | (with_reducible first | exact HB.out | apply below_alloc | apply pw_below_drewN | apply below_drew1 | refine below_set ?_ GE304.out) | exact HB.out)) hb); clear BK304; clear HB; have BK304 := n0_; have HB := n1_; clear n0_ n1_; (try clear hb); (try clear hb2); (try clear hk); (try clear hi)) | ((with_reducible refine gate_dst (N := 6) rfl ?_); (try (refine gate_guard (by rfl) ?_; dsimp only)); refine box_event ?hg (N := 6) ?hd (cs := #[.int .i64 0, .int .i64 0, .int .i64 0]) (t := 23) ?hr ?_; (case hd => rfl); (case hg => rfl); (case hr => first | (go_simp; done) | (go_simp; rfl)); intro gb309 hg w13 hbox hb; have n0_ := Aside0.mk (blk_below (g := gb304) (o := .cells #[.int .u8 a0_0, .int .u8 a0_1, .int .u8 a0_2] 32 (0, 0)) (by (with_reducible repeat (first | refine blk_drewN ?_ _ | refine blk_drew ?_ | refine blk_alloc ?_ _)); exact BK304.out) hb); have n1_ := Aside0.mk (below_step (by repeat (first | (with_reducible first | exact HB.out | apply below_alloc | apply pw_below_drewN | apply below_drew1 | refine below_set ?_ GE304.out) | exact HB.out)) hb); have n2_ := Aside0.mk (hbox); have n3_ := Aside0.mk ((by rw [hg]; exact (below_size (by repeat (first | (with_reducible first | exact HB.out | apply below_alloc | apply pw_below_drewN | apply below_drew1 | refine below_set ?_ GE304.out) | exact HB.out))) : w.heap.size ≤ gb309)); have n4_ := Aside0.mk ((by rw [hg]; exact (below_size (by repeat (first | (with_reducible first | exact HB.out | apply below_alloc | apply pw_below_drewN | apply below_drew1 | refine below_set ?_ GE304.out) | exact HB.out))) : w.heap.size ≤ gb309)); have n5_ := Aside0.mk ((by rw [hg]; exact Nat.ne_of_lt (blk_lt (g := gb304) (o := .cells #[.int .u8 a0_0, .int .u8 a0_1, .int .u8 a0_2] 32 (0, 0)) (by (with_reducible repeat (first | refine blk_drewN ?_ _ | refine blk_drew ?_ | refine blk_alloc ?_ _)); exact BK304.out)) : gb304 ≠ gb309)); have n6_ := Aside0.mk ((by rw [hg]; exact Nat.ne_of_gt (blk_lt (g := gb304) (o := .cells #[.int .u8 a0_0, .int .u8 a0_1, .int .u8 a0_2] 32 (0, 0)) (by (with_reducible repeat (first | refine blk_drewN ?_ _ | refine blk_drew ?_ | refine blk_alloc ?_ _)); exact BK304.out)) : gb309 ≠ gb304)); clear BK304; clear HB; have BK304 := n0_; have HB := n1_; have BK309 := n2_; have GW309 := n3_; have GE309 := n4_; have NB304_309 := n5_; have NB309_304 := n6_; clear n0_ n1_ n2_ n3_ n4_ n5_ n6_; clear hb hbox hg; have hnb14 := NB309_304.out; have hnc14 := NB304_309.out; have hcz15_0 : w13.cell? ⟨gb309, 0, none⟩ = some (.int .i64 0) := (blk_cell BK309.out 0).trans rfl; have hcz15_1 : w13.cell? ⟨gb309, 1, none⟩ = some (.int .i64 0) := (blk_cell BK309.out 1).trans rfl; have hcz15_2 : w13.cell? ⟨gb309, 2, none⟩ = some (.int .i64 0) := (blk_cell BK309.out 2).trans rfl; have hfz15_0 := blk_frozen BK309.out 0; have hfz15_1 := blk_frozen BK309.out 1; have hfz15_2 := blk_frozen BK309.out 2) | ((with_reducible refine gate_callee (f := 16) rfl ?_); refine goesL_ (some 28) rfl rfl Try.func16 (by kernel_rfl) rfl #[.agg #[.int .i64 t306, .int .i64 t307, .int .i64 t308], .int .i64 (Int.tmod (wrap64 (a1)) 421)] rfl (by (try simp only [List.map_toArray, List.map_cons, List.map_nil]); first | done | rfl | (simp only [List.length_drop, List.length_take]; rfl)) ?_; (with_reducible refine (mintime_Profile.calls k t306 t307 t308 (Int.tmod (wrap64 (a1)) 421) t310 true _ A5.out).mono ?_); rintro e w16 ⟨v311, rfl, ho0, hb⟩; refine ⟨_, rfl, ?_⟩; have n0_ := Aside0.mk (Kd.R_lower ho0 (below_size (by repeat (first | (with_reducible first | exact HB.out | apply below_alloc | apply pw_below_drewN | apply below_drew1 | refine below_set ?_ GE304.out | refine below_set ?_ GE309.out) | exact HB.out)))); have n1_ := Aside0.mk (blk_below (g := gb304) (o := .cells #[.int .u8 a0_0, .int .u8 a0_1, .int .u8 a0_2] 32 (0, 0)) (by (with_reducible repeat (first | refine blk_drewN ?_ _ | refine blk_drew ?_ | refine blk_alloc ?_ _)); refine blk_far ?_ NB304_309.out _; (with_reducible repeat (first | refine blk_drewN ?_ _ | refine blk_drew ?_ | refine blk_alloc ?_ _)); refine blk_far ?_ NB304_309.out _; (with_reducible repeat (first | refine blk_drewN ?_ _ | refine blk_drew ?_ | refine blk_alloc ?_ _)); refine blk_far ?_ NB304_309.out _; (with_reducible repeat (first | refine blk_drewN ?_ _ | refine blk_drew ?_ | refine blk_alloc ?_ _)); exact BK304.out) hb); have n2_ := Aside0.mk (blk_below (g := gb309) (o := .cells #[.int .i64 t306, .int .i64 t307, .int .i64 t308] 23 (0, 0)) (by (with_reducible repeat (first | refine blk_drewN ?_ _ | refine blk_drew ?_ | refine blk_alloc ?_ _)); refine blk_put (cs := #[.int .i64 t306, .int .i64 t307, .int .i64 0]) ?_ 2 _ rfl; (with_reducible repeat (first | refine blk_drewN ?_ _ | refine blk_drew ?_ | refine blk_alloc ?_ _)); refine blk_put (cs := #[.int .i64 t306, .int .i64 0, .int .i64 0]) ?_ 1 _ rfl; (with_reducible repeat (first | refine blk_drewN ?_ _ | refine blk_drew ?_ | refine blk_alloc ?_ _)); refine blk_put (cs := #[.int .i64 0, .int .i64 0, .int .i64 0]) ?_ 0 _ rfl; (with_reducible repeat (first | refine blk_drewN ?_ _ | refine blk_drew ?_ | refine blk_alloc ?_ _)); exact BK309.out) hb); have n3_ := Aside0.mk (below_step (by repeat (first | (with_reducible first | exact HB.out | apply below_alloc | apply pw_below_drewN | apply below_drew1 | refine below_set ?_ GE304.out | refine below_set ?_ GE309.out) | exact HB.out)) hb); clear BK304; clear BK309; clear HB; have HO312 := n0_; have BK304 := n1_; have BK309 := n2_; have HB := n3_; clear n0_ n1_ n2_ n3_; (try clear hb); (try clear hb2); (try clear hk); (try clear hi); (try clear ho0); obtain ⟨Ao17, co17, eo17⟩ := Kd.R_slice HO312.out; subst eo17) | ((with_reducible refine gate_callee (f := 36) rfl ?_); refine goesL_ (some 40) rfl rfl Try.func36 (by kernel_rfl) rfl #[.agg #[.int .i64 0, .int .i64 0, .int .i64 0], .slice Ao17 t310.length co17] rfl (by (try simp only [List.map_toArray, List.map_cons, List.map_nil]); first | done | rfl | (simp only [List.length_drop, List.length_take]; rfl)) ?_; (with_reducible refine (profile_Simulate.calls 0 0 0 _ _ t310 t314 _ ?side1 ?side2 A7.out).mono ?_); (case side1 => repeat (first | exact (Kd.R_reads' HO312.out).2.2 | (with_reducible refine Kd.C_alloc ?_ _) | (with_reducible refine Kd.C_drewN ?_ _) | (with_reducible refine Kd.C_drew ?_))); (case side2 => exact (Kd.R_reads' HO312.out).2.1); rintro e w18 ⟨v315, rfl, ho0, hb⟩; refine ⟨_, rfl, ?_⟩; have n0_ := Aside0.mk (Kd.R_below (by (with_reducible repeat (first | apply Kd.R_alloc | apply Kd.R_drewN | apply Kd.R_drew)); exact HO312.out) hb); have n1_ := Aside0.mk (Kd.R_lower ho0 (below_size (by repeat (first | (with_reducible first | exact HB.out | apply below_alloc | apply pw_below_drewN | apply below_drew1 | refine below_set ?_ GE304.out | refine below_set ?_ GE309.out) | exact HB.out)))); have n2_ := Aside0.mk (blk_below (g := gb304) (o := .cells #[.int .u8 a0_0, .int .u8 a0_1, .int .u8 a0_2] 32 (0, 0)) (by (with_reducible repeat (first | refine blk_drewN ?_ _ | refine blk_drew ?_ | refine blk_alloc ?_ _)); exact BK304.out) hb); have n3_ := Aside0.mk (blk_below (g := gb309) (o := .cells #[.int .i64 t306, .int .i64 t307, .int .i64 t308] 23 (0, 0)) (by (with_reducible repeat (first | refine blk_drewN ?_ _ | refine blk_drew ?_ | refine blk_alloc ?_ _)); exact BK309.out) hb); have n4_ := Aside0.mk (below_step (by repeat (first | (with_reducible first | exact HB.out | apply below_alloc | apply pw_below_drewN | apply below_drew1 | refine below_set ?_ GE304.out | refine below_set ?_ GE309.out) | exact HB.out)) hb); clear HO312; clear BK304; clear BK309; clear HB; have HO312 := n0_; have HO316 := n1_; have BK304 := n2_; have BK309 := n3_; have HB := n4_; clear n0_ n1_ n2_ n3_ n4_; (try clear hb); (try clear hb2); (try clear hk); (try clear hi); (try clear ho0)))
    (try simp only [Act.put, List.setIfInBounds_toArray, List.set_cons_zero, List.set_cons_succ])
    go_cut [54] (fun v54 wc => ∃ (kq : Nat) (x54_7 : Bool), v54 = .bool x54_7 ∧ Aside0 (ambidexterlaw22_MintimeBound.j0 kq true (Int.tmod (wrap64 (a1)) 421) t310 t314 x54_7 t306 t307 t308 = some r) ∧ Aside0 (kq ≤ k) ∧ Aside0 (Kd.R (Kd.int .i64) 3 wc w.heap.size (fun _ => True) (.slice Ao17 t310.length co17) t310) ∧ Aside0 (Kd.R k37 37 wc w.heap.size (fun _ => True) v315 t314) ∧ Aside0 (wc.heap[gb304]? = some (.cells #[.int .u8 a0_0, .int .u8 a0_1, .int .u8 a0_2] 32 (0, 0))) ∧ Aside0 (wc.heap[gb309]? = some (.cells #[.int .i64 t306, .int .i64 t307, .int .i64 t308] 23 (0, 0))) ∧ Aside0 (Below w.heap.size w wc))
    case first =>
      have H := HC8.out
      clear HC8
      by_cases c19 : (t314.length : Int) = (t310.length : Int)
      · rw [if_pos c19] at H
        have c19b0 : ((t314.length : Int) == (t310.length : Int)) = true := beq_iff_eq.mpr c19
        have c19b1 : ((t314.length : Int) != (t310.length : Int)) = false := bne_eq_false_iff_eq.mpr c19
        have c19b2 : (t314.length == t310.length) = true := by first | simpa using c19 | (simp at c19 ⊢; omega)
        clear c19
        (first | rw [c19b0] | (simp only [i64_w, i32_w]; rw [c19b0]) | skip)
        have H' := Aside0.mk H
        clear H
        obtain ⟨Ao20, co20, eo20⟩ := Kd.R_slice HO316.out
        subst eo20
        have hnb21 := NB309_304.out
        have hnc21 := NB304_309.out
        have hcz22_0 : w18.cell? ⟨gb309, 0, none⟩ = some (.int .i64 t306) := (blk_cell BK309.out 0).trans rfl
        have hcz22_1 : w18.cell? ⟨gb309, 1, none⟩ = some (.int .i64 t307) := (blk_cell BK309.out 1).trans rfl
        have hcz22_2 : w18.cell? ⟨gb309, 2, none⟩ = some (.int .i64 t308) := (blk_cell BK309.out 2).trans rfl
        have hfz22_0 := blk_frozen BK309.out 0
        have hfz22_1 := blk_frozen BK309.out 1
        have hfz22_2 := blk_frozen BK309.out 2
        go_wp2
        go_meet
        case rel => exact ⟨_, (decide ((wrap64 ((t310.length : Int) * t306)) < (Int.tmod (wrap64 (a1)) 421))), (by first | rfl | (simp; done) | (simp [*]; done)), H', ⟨by first | omega | exact Nat.le_refl _⟩, ⟨by (with_reducible repeat (first | apply Kd.R_alloc | apply Kd.R_drewN | apply Kd.R_drew)); exact HO312.out⟩, ⟨by (with_reducible repeat (first | apply Kd.R_alloc | apply Kd.R_drewN | apply Kd.R_drew)); exact HO316.out⟩, ⟨by (with_reducible repeat (first | refine blk_drewN ?_ _ | refine blk_drew ?_ | refine blk_alloc ?_ _)); exact BK304.out⟩, ⟨by (with_reducible repeat (first | refine blk_drewN ?_ _ | refine blk_drew ?_ | refine blk_alloc ?_ _)); exact BK309.out⟩, ⟨by repeat (first | (with_reducible first | exact HB.out | apply below_alloc | apply pw_below_drewN | apply below_drew1 | refine below_set ?_ GE304.out | refine below_set ?_ GE309.out) | exact HB.out)⟩⟩
      · rw [if_neg c19] at H
        have c19b0 : ((t314.length : Int) == (t310.length : Int)) = false := beq_eq_false_iff_ne.mpr c19
        have c19b1 : ((t314.length : Int) != (t310.length : Int)) = true := bne_iff_ne.mpr c19
        have c19b2 : (t314.length == t310.length) = false := by first | simpa using c19 | (simp at c19 ⊢; omega)
        (first | rw [c19b0] | (simp only [i64_w, i32_w]; rw [c19b0]) | skip)
        have H' := Aside0.mk H
        clear H
        obtain ⟨Ao23, co23, eo23⟩ := Kd.R_slice HO316.out
        subst eo23
        go_wp2
        go_meet
        case rel => exact ⟨_, (true), (by first | rfl | (simp; done) | (simp [*]; done)), H', ⟨by first | omega | exact Nat.le_refl _⟩, ⟨by (with_reducible repeat (first | apply Kd.R_alloc | apply Kd.R_drewN | apply Kd.R_drew)); exact HO312.out⟩, ⟨by (with_reducible repeat (first | apply Kd.R_alloc | apply Kd.R_drewN | apply Kd.R_drew)); exact HO316.out⟩, ⟨by (with_reducible repeat (first | refine blk_drewN ?_ _ | refine blk_drew ?_ | refine blk_alloc ?_ _)); exact BK304.out⟩, ⟨by (with_reducible repeat (first | refine blk_drewN ?_ _ | refine blk_drew ?_ | refine blk_alloc ?_ _)); exact BK309.out⟩, ⟨by repeat (first | (with_reducible first | exact HB.out | apply below_alloc | apply pw_below_drewN | apply below_drew1 | refine below_set ?_ GE304.out | refine below_set ?_ GE309.out) | exact HB.out)⟩⟩
    case rest =>
      clear HC8
      try clear c1
      try clear c2
      try clear p2
      try clear c3
      try clear c6
      try clear p6
      try clear c13
      try clear c14
      try clear c15
      try clear c16
      try clear c19
      try clear c19b0
      try clear c19b1
      try clear c19b2
      try clear c20
      try clear c21
      try clear hcz11_0
      try clear hcz11_1
      try clear hcz11_2
      try clear hcz15_0
      try clear hcz15_1
      try clear hcz15_2
      try clear hcz22_0
      try clear hcz22_1
      try clear hcz22_2
      try clear hfz11_0
      try clear hfz11_1
      try clear hfz11_2
      try clear hfz15_0
      try clear hfz15_1
      try clear hfz15_2
      try clear hfz22_0
      try clear hfz22_1
      try clear hfz22_2
      obtain ⟨kq, x54_7, rfl, HA, HJ7, HO_8, HO_10, BK304, BK309, HB⟩ := hcut
      cases kq with
      | zero => exact absurd HA.out (by simp [ambidexterlaw22_MintimeBound.j0])
      | succ kj7 =>
        have H := HA.out
        clear HA
        simp only [ambidexterlaw22_MintimeBound.j0] at H
        by_cases c24 : x54_7 = true
        · subst c24
          have H1 : (some false) = some r := by rw [if_pos rfl] at H; exact H
          clear H
          have H := H1
          clear H1
          exact absurd HT.out (by rw [← Option.some.inj H]; decide)
        · replace c24 := Bool.eq_false_iff.mpr c24
          subst c24
          have H1 : (ambidexterlaw22_MintimeBound.l0 kj7 true (Int.tmod (wrap64 (a1)) 421) t310 t314 0 t306 t307 t308) = some r := by rw [if_neg (show ¬ (false = true) by decide)] at H; exact H
          clear H
          have H := H1
          clear H1
          have H' := Aside0.mk H
          clear H
          go_wp2
          go_loopg [11] kj7 (fun kq v11 w' => ∃ (x11_2 : Int), v11 = .int .i64 x11_2 ∧ Aside0 (ambidexterlaw22_MintimeBound.l0 kq true (Int.tmod (wrap64 (a1)) 421) t310 t314 x11_2 t306 t307 t308 = some r) ∧ Aside0 (kq ≤ kj7) ∧ Aside0 (Kd.R (Kd.int .i64) 3 w' w.heap.size (fun _ => True) (.slice Ao17 t310.length co17) t310) ∧ Aside0 (Kd.R k37 37 w' w.heap.size (fun _ => True) v315 t314) ∧ Aside0 (w'.heap[gb304]? = some (.cells #[.int .u8 a0_0, .int .u8 a0_1, .int .u8 a0_2] 32 (0, 0))) ∧ Aside0 (w'.heap[gb309]? = some (.cells #[.int .i64 t306, .int .i64 t307, .int .i64 t308] 23 (0, 0))) ∧ Aside0 (Below w.heap.size w w'))
          case atStart => exact ⟨(0), (by first | rfl | (simp; done) | (simp [*]; done)), H', ⟨Nat.le_refl _⟩, ⟨by (with_reducible repeat (first | apply Kd.R_alloc | apply Kd.R_drewN | apply Kd.R_drew)); exact HO_8.out⟩, ⟨by (with_reducible repeat (first | apply Kd.R_alloc | apply Kd.R_drewN | apply Kd.R_drew)); exact HO_10.out⟩, ⟨by (with_reducible repeat (first | refine blk_drewN ?_ _ | refine blk_drew ?_ | refine blk_alloc ?_ _)); exact BK304.out⟩, ⟨by (with_reducible repeat (first | refine blk_drewN ?_ _ | refine blk_drew ?_ | refine blk_alloc ?_ _)); exact BK309.out⟩, ⟨by repeat (first | (with_reducible first | exact HB.out | apply below_alloc | apply pw_below_drewN | apply below_drew1 | refine below_set ?_ GE304.out | refine below_set ?_ GE309.out) | exact HB.out)⟩⟩
          case round =>
            clear H'
            try clear c1
            try clear c2
            try clear p2
            try clear c3
            try clear c6
            try clear p6
            try clear c13
            try clear c14
            try clear c15
            try clear c16
            try clear c19
            try clear c19b0
            try clear c19b1
            try clear c19b2
            try clear c20
            try clear c21
            try clear c24
            try clear hcz11_0
            try clear hcz11_1
            try clear hcz11_2
            try clear hcz15_0
            try clear hcz15_1
            try clear hcz15_2
            try clear hcz22_0
            try clear hcz22_1
            try clear hcz22_2
            try clear hfz11_0
            try clear hfz11_1
            try clear hfz11_2
            try clear hfz15_0
            try clear hfz15_1
            try clear hfz15_2
            try clear hfz22_0
            try clear hfz22_1
            try clear hfz22_2
            try clear p2
            try clear p6
            obtain ⟨x11_2, rfl, HA, HK2, HO_8, HO_10, BK304, BK309, HB⟩ := hrel
            cases gk with
            | zero => exact absurd HA.out (by simp [ambidexterlaw22_MintimeBound.l0])
            | succ k2 =>
              have H := HA.out
              clear HA
              simp only [ambidexterlaw22_MintimeBound.l0] at H
              by_cases c25 : x11_2 < (t314.length : Int)
              · rw [if_pos c25] at H
                have c25b0 : decide (x11_2 < (t314.length : Int)) = true := decide_eq_true c25
                clear c25
                by_cases c26 : 0 ≤ x11_2
                · rw [if_pos c26] at H
                  have c26b0 : decide (0 ≤ x11_2) = true := decide_eq_true c26
                  clear c26
                  by_cases c27 : ((rd_T37 t314 x11_2).f2) = 0
                  · rw [if_pos c27] at H
                    have c27b0 : (((rd_T37 t314 x11_2).f2) == 0) = true := beq_iff_eq.mpr c27
                    have c27b1 : (((rd_T37 t314 x11_2).f2) != 0) = false := bne_eq_false_iff_eq.mpr c27
                    clear c27
                    by_cases c28 : ((rd_T37 t314 x11_2).f1) < 1
                    · rw [if_pos c28] at H
                      have c28b0 : decide (((rd_T37 t314 x11_2).f1) < 1) = true := decide_eq_true c28
                      clear c28
                      have H' := Aside0.mk H
                      clear H
                      obtain ⟨Ao29, co29, eo29⟩ := Kd.R_slice HO_10.out
                      subst eo29
                      have p317 : 0 ≤ (x11_2 : Int) := of_decide_eq_true (by first | (with_reducible assumption) | assumption)
                      have q317 : x11_2 < (t314.length : Int) := of_decide_eq_true (by first | (with_reducible assumption) | assumption)
                      obtain ⟨ad317, e317, hx317_0, hx317_1, hx317_2⟩ := at_T37 (Kd.R_reads' HO_10.out).2.2 x11_2 p317 q317
                      cases e317
                      replace p317 := eq_true p317
                      replace q317 := eq_true q317
                      have p318 : 0 ≤ (x11_2 : Int) := of_decide_eq_true (by first | (with_reducible assumption) | assumption)
                      have q318 : x11_2 < (t314.length : Int) := of_decide_eq_true (by first | (with_reducible assumption) | assumption)
                      obtain ⟨ad318, e318, hx318_0, hx318_1, hx318_2⟩ := at_T37 (Kd.R_reads' HO_10.out).2.2 x11_2 p318 q318
                      obtain rfl : ad317 = ad318 := (by injection e318)
                      replace p318 := eq_true p318
                      replace q318 := eq_true q318
                      go_wp2
                      go_roundg k2
                      case measure => have := HJ7.out; have := HK2.out; omega
                      case rel => exact ⟨(wrap64 (x11_2 + 1)), (by first | rfl | (simp; done) | (simp [*]; done)), H', ⟨by have := HJ7.out; have := HK2.out; omega⟩, ⟨by (with_reducible repeat (first | apply Kd.R_alloc | apply Kd.R_drewN | apply Kd.R_drew)); exact HO_8.out⟩, ⟨by (with_reducible repeat (first | apply Kd.R_alloc | apply Kd.R_drewN | apply Kd.R_drew)); exact HO_10.out⟩, ⟨by (with_reducible repeat (first | refine blk_drewN ?_ _ | refine blk_drew ?_ | refine blk_alloc ?_ _)); exact BK304.out⟩, ⟨by (with_reducible repeat (first | refine blk_drewN ?_ _ | refine blk_drew ?_ | refine blk_alloc ?_ _)); exact BK309.out⟩, ⟨by repeat (first | (with_reducible first | exact HB.out | apply below_alloc | apply pw_below_drewN | apply below_drew1 | refine below_set ?_ GE304.out | refine below_set ?_ GE309.out) | exact HB.out)⟩⟩
                    · rw [if_neg c28] at H
                      have c28b0 : decide (((rd_T37 t314 x11_2).f1) < 1) = false := decide_eq_false c28
                      clear c28
                      by_cases c30 : (wrap64 ((Int.tmod (wrap64 (a1)) 421) + ((rd_T37 t314 x11_2).f1))) > 420
                      · rw [if_pos c30] at H
                        have c30b0 : decide (420 < (wrap64 ((Int.tmod (wrap64 (a1)) 421) + ((rd_T37 t314 x11_2).f1)))) = true := decide_eq_true c30
                        clear c30
                        have H' := Aside0.mk H
                        clear H
                        obtain ⟨Ao31, co31, eo31⟩ := Kd.R_slice HO_10.out
                        subst eo31
                        have p317 : 0 ≤ (x11_2 : Int) := of_decide_eq_true (by first | (with_reducible assumption) | assumption)
                        have q317 : x11_2 < (t314.length : Int) := of_decide_eq_true (by first | (with_reducible assumption) | assumption)
                        obtain ⟨ad317, e317, hx317_0, hx317_1, hx317_2⟩ := at_T37 (Kd.R_reads' HO_10.out).2.2 x11_2 p317 q317
                        cases e317
                        replace p317 := eq_true p317
                        replace q317 := eq_true q317
                        have p318 : 0 ≤ (x11_2 : Int) := of_decide_eq_true (by first | (with_reducible assumption) | assumption)
                        have q318 : x11_2 < (t314.length : Int) := of_decide_eq_true (by first | (with_reducible assumption) | assumption)
                        obtain ⟨ad318, e318, hx318_0, hx318_1, hx318_2⟩ := at_T37 (Kd.R_reads' HO_10.out).2.2 x11_2 p318 q318
                        obtain rfl : ad317 = ad318 := (by injection e318)
                        replace p318 := eq_true p318
                        replace q318 := eq_true q318
                        have p319 : 0 ≤ (x11_2 : Int) := of_decide_eq_true (by first | (with_reducible assumption) | assumption)
                        have q319 : x11_2 < (t314.length : Int) := of_decide_eq_true (by first | (with_reducible assumption) | assumption)
                        obtain ⟨ad319, e319, hx319_0, hx319_1, hx319_2⟩ := at_T37 (Kd.R_reads' HO_10.out).2.2 x11_2 p319 q319
                        obtain rfl : ad317 = ad319 := (by injection e319)
                        replace p319 := eq_true p319
                        replace q319 := eq_true q319
                        go_wp2
                        go_roundg k2
                        case measure => have := HJ7.out; have := HK2.out; omega
                        case rel => exact ⟨(wrap64 (x11_2 + 1)), (by first | rfl | (simp; done) | (simp [*]; done)), H', ⟨by have := HJ7.out; have := HK2.out; omega⟩, ⟨by (with_reducible repeat (first | apply Kd.R_alloc | apply Kd.R_drewN | apply Kd.R_drew)); exact HO_8.out⟩, ⟨by (with_reducible repeat (first | apply Kd.R_alloc | apply Kd.R_drewN | apply Kd.R_drew)); exact HO_10.out⟩, ⟨by (with_reducible repeat (first | refine blk_drewN ?_ _ | refine blk_drew ?_ | refine blk_alloc ?_ _)); exact BK304.out⟩, ⟨by (with_reducible repeat (first | refine blk_drewN ?_ _ | refine blk_drew ?_ | refine blk_alloc ?_ _)); exact BK309.out⟩, ⟨by repeat (first | (with_reducible first | exact HB.out | apply below_alloc | apply pw_below_drewN | apply below_drew1 | refine below_set ?_ GE304.out | refine below_set ?_ GE309.out) | exact HB.out)⟩⟩
                      · rw [if_neg c30] at H
                        have c30b0 : decide (420 < (wrap64 ((Int.tmod (wrap64 (a1)) 421) + ((rd_T37 t314 x11_2).f1)))) = false := decide_eq_false c30
                        clear c30
                        replace H := Option.bind_eq_some_iff.mp H
                        obtain ⟨⟨t321, t322⟩, A320, H⟩ := H
                        replace H : (if true = true then (if t322 = true then (some (decide (t321 ≤ (wrap64 ((t310.length : Int) + 1))))) else (some false)) else (some false)) = some r := H
                        have A32 := Aside0.mk A320
                        clear A320
                        have H1 : (if t322 = true then (some (decide (t321 ≤ (wrap64 ((t310.length : Int) + 1))))) else (some false)) = some r := by first | (rw [if_pos rfl] at H; exact H) | (rw [if_pos True.intro] at H; exact H)
                        clear H
                        have H := H1
                        clear H1
                        by_cases c33 : t322 = true
                        · subst c33
                          have H1 : (some (decide (t321 ≤ (wrap64 ((t310.length : Int) + 1))))) = some r := by rw [if_pos rfl] at H; exact H
                          clear H
                          have H := H1
                          clear H1
                          obtain rfl := Option.some.inj H
                          obtain ⟨Ao34, co34, eo34⟩ := Kd.R_slice HO_10.out
                          subst eo34
                          have p317 : 0 ≤ (x11_2 : Int) := of_decide_eq_true (by first | (with_reducible assumption) | assumption)
                          have q317 : x11_2 < (t314.length : Int) := of_decide_eq_true (by first | (with_reducible assumption) | assumption)
                          obtain ⟨ad317, e317, hx317_0, hx317_1, hx317_2⟩ := at_T37 (Kd.R_reads' HO_10.out).2.2 x11_2 p317 q317
                          cases e317
                          replace p317 := eq_true p317
                          replace q317 := eq_true q317
                          have p318 : 0 ≤ (x11_2 : Int) := of_decide_eq_true (by first | (with_reducible assumption) | assumption)
                          have q318 : x11_2 < (t314.length : Int) := of_decide_eq_true (by first | (with_reducible assumption) | assumption)
                          obtain ⟨ad318, e318, hx318_0, hx318_1, hx318_2⟩ := at_T37 (Kd.R_reads' HO_10.out).2.2 x11_2 p318 q318
                          obtain rfl : ad317 = ad318 := (by injection e318)
                          replace p318 := eq_true p318
                          replace q318 := eq_true q318
                          have p319 : 0 ≤ (x11_2 : Int) := of_decide_eq_true (by first | (with_reducible assumption) | assumption)
                          have q319 : x11_2 < (t314.length : Int) := of_decide_eq_true (by first | (with_reducible assumption) | assumption)
                          obtain ⟨ad319, e319, hx319_0, hx319_1, hx319_2⟩ := at_T37 (Kd.R_reads' HO_10.out).2.2 x11_2 p319 q319
                          obtain rfl : ad317 = ad319 := (by injection e319)
                          replace p319 := eq_true p319
                          replace q319 := eq_true q319
                          try go_wp2
                          have n0_ := Aside0.mk (Kd.R_drew HO_8.out)
                          have n1_ := Aside0.mk (Kd.R_drew HO_10.out)
                          have n2_ := Aside0.mk (blk_drew BK304.out)
                          have n3_ := Aside0.mk (blk_drew BK309.out)
                          have n4_ := Aside0.mk (below_drew1 HB.out)
                          clear HO_8
                          clear HO_10
                          clear BK304
                          clear BK309
                          clear HB
                          have HO_8 := n0_
                          have HO_10 := n1_
                          have BK304 := n2_
                          have BK309 := n3_
                          have HB := n4_
                          clear n0_ n1_ n2_ n3_ n4_
                          have p320 : 0 ≤ (x11_2 : Int) := of_decide_eq_true (by first | (with_reducible assumption) | assumption)
                          have q320 : x11_2 < (t314.length : Int) := of_decide_eq_true (by first | (with_reducible assumption) | assumption)
                          obtain ⟨ad320, e320, hx320_0, hx320_1, hx320_2⟩ := at_T37 (Kd.R_reads' HO_10.out).2.2 x11_2 p320 q320
                          obtain rfl : ad317 = ad320 := (by injection e320)
                          replace p320 := eq_true p320
                          replace q320 := eq_true q320
                          refine start_ (n := 14) (S := fun w' => w'.cell? ⟨gb309, 0, none⟩ = some (.int .i64 t306) ∧ w'.cell? ⟨gb309, 1, none⟩ = some (.int .i64 t307) ∧ w'.cell? ⟨gb309, 2, none⟩ = some (.int .i64 t308) ∧ w'.cell? (ad317.add ((x11_2).toNat * 3)) = some (.int .i64 ((rd_T37 t314 x11_2).f0)) ∧ w'.cell? ⟨(ad317.add ((x11_2).toNat * 3)).block, (ad317.add ((x11_2).toNat * 3)).off + 1, none⟩ = some (.int .i64 ((rd_T37 t314 x11_2).f1)) ∧ w'.cell? ⟨(ad317.add ((x11_2).toNat * 3)).block, (ad317.add ((x11_2).toNat * 3)).off + 2, none⟩ = some (.int .i64 ((rd_T37 t314 x11_2).f2))) (ds := []) #[false, false, false, false, false, false, false, false, false, false, false, false, false, false] (by kernel_rfl) rfl rfl ⟨(blk_cell BK309.out 0).trans rfl, (blk_cell BK309.out 1).trans rfl, (blk_cell BK309.out 2).trans rfl, hx320_0, hx320_1, hx320_2⟩ (fun hHeld => ?_); refine with_tabW ambidexterlaw22_MintimeBound.tab14 ambidexterlaw22_MintimeBound.bits14 (fun HT_ HW_ => ?_)
                          generalize wr.drew = w35 at HO_8 HO_10 BK304 BK309 HB hx320_0 hx320_1 hx320_2 hHeld ⊢
                          refine pure_ (i := 1) (N := some 87) (v := ?_) (a' := ?_) #[false, true, false, false, false, false, false, false, false, false, false, false, false, false] rfl rfl (any_of HT_.out (by kernel_rfl)) (fun _ _ _ h => h) (Or.inl ⟨by rfl, ?_⟩) ?_ ?_
                          rotate_left
                          · intro w'
                            go_simp
                            with_reducible rfl
                          rotate_left
                          · simp only [Act.put, List.setIfInBounds_toArray, List.set_cons_zero, List.set_cons_succ, i64_w, i32_w]
                            rfl
                          refine pure_ (i := 2) (N := some 88) (v := ?_) (a' := ?_) #[false, true, true, false, false, false, false, false, false, false, false, false, false, false] rfl rfl (any_of HT_.out (by kernel_rfl)) (fun _ _ _ h => h) (Or.inl ⟨by rfl, ?_⟩) ?_ ?_
                          rotate_left
                          · intro w'
                            go_simp
                            with_reducible rfl
                          rotate_left
                          · simp only [Act.put, List.setIfInBounds_toArray, List.set_cons_zero, List.set_cons_succ, i64_w, i32_w]
                            rfl
                          refine pure_ (i := 3) (N := some 89) (v := ?_) (a' := ?_) #[false, true, true, true, false, false, false, false, false, false, false, false, false, false] rfl rfl (any_of HT_.out (by kernel_rfl)) (fun _ _ _ h => h) (Or.inl ⟨by rfl, ?_⟩) ?_ ?_
                          rotate_left
                          · intro w'
                            go_simp
                            with_reducible rfl
                          rotate_left
                          · simp only [Act.put, List.setIfInBounds_toArray, List.set_cons_zero, List.set_cons_succ, i64_w, i32_w]
                            rfl
                          refine pure_ (i := 4) (N := some 90) (v := ?_) (a' := ?_) #[false, true, true, true, true, false, false, false, false, false, false, false, false, false] rfl rfl (any_of HT_.out (by kernel_rfl)) (fun _ _ _ h => h) (Or.inl ⟨by rfl, ?_⟩) ?_ ?_
                          rotate_left
                          · intro w'
                            go_simp
                            with_reducible rfl
                          rotate_left
                          · simp only [Act.put, List.setIfInBounds_toArray, List.set_cons_zero, List.set_cons_succ, i64_w, i32_w]
                            rfl
                          refine pure_ (i := 5) (N := some 91) (v := ?_) (a' := ?_) #[false, true, true, true, true, true, false, false, false, false, false, false, false, false] rfl rfl (any_of HT_.out (by kernel_rfl)) (fun _ _ _ h => h) (Or.inl ⟨by rfl, ?_⟩) ?_ ?_
                          rotate_left
                          · intro w'
                            go_simp
                            with_reducible rfl
                          rotate_left
                          · simp only [Act.put, List.setIfInBounds_toArray, List.set_cons_zero, List.set_cons_succ, i64_w, i32_w]
                            rfl
                          refine take_ (i := 0) (N := some 86) (v := ?_) (a' := ?_) #[true, true, true, true, true, true, false, false, false, false, false, false, false, false] rfl rfl (take_ofW HT_.out HW_.out (by kernel_rfl)) (fun _ _ _ h => h) (Or.inl ⟨by rfl, ?_⟩) hHeld ?_ ?_
                          rotate_left
                          · rintro w' ⟨s0, s1, s2, s3, s4, s5⟩
                            go_simp
                            with_reducible rfl
                          rotate_left
                          · simp only [Act.put, List.setIfInBounds_toArray, List.set_cons_zero, List.set_cons_succ, i64_w, i32_w]
                            rfl
                          refine take_ (i := 6) (N := some 92) (v := ?_) (a' := ?_) #[true, true, true, true, true, true, true, false, false, false, false, false, false, false] rfl rfl (take_ofW HT_.out HW_.out (by kernel_rfl)) (fun _ _ _ h => h) (Or.inl ⟨by rfl, ?_⟩) hHeld ?_ ?_
                          rotate_left
                          · rintro w' ⟨s0, s1, s2, s3, s4, s5⟩
                            go_simp
                            with_reducible rfl
                          rotate_left
                          · simp only [Act.put, List.setIfInBounds_toArray, List.set_cons_zero, List.set_cons_succ, i64_w, i32_w]
                            rfl
                          refine pure_ (i := 7) (N := some 93) (v := ?_) (a' := ?_) #[true, true, true, true, true, true, true, true, false, false, false, false, false, false] rfl rfl (any_of HT_.out (by kernel_rfl)) (fun _ _ _ h => h) (Or.inl ⟨by rfl, ?_⟩) ?_ ?_
                          rotate_left
                          · intro w'
                            go_simp
                            with_reducible rfl
                          rotate_left
                          · simp only [Act.put, List.setIfInBounds_toArray, List.set_cons_zero, List.set_cons_succ, i64_w, i32_w]
                            rfl
                          refine one_ (i := 8) (N := some 94) #[true, true, true, true, true, true, true, true, true, false, false, false, false, false] rfl rfl (one_of HT_.out (by kernel_rfl)) (by decide) (fun K hK => ?_)
                          refine goes_ Try.func18 (by kernel_rfl) rfl #[.agg #[.int .i64 t306, .int .i64 t307, .int .i64 t308], .int .i64 (wrap64 ((Int.tmod (wrap64 (a1)) 421) + ((rd_T37 t314 x11_2).f1)))] (by rfl) rfl rfl (by (try simp only [List.map_toArray, List.map_cons, List.map_nil]); first | done | rfl | (simp only [List.length_drop, List.length_take]; rfl)) ?_
                          with_reducible refine (mintime_Duration.calls k2 t306 t307 t308 (wrap64 ((Int.tmod (wrap64 (a1)) 421) + ((rd_T37 t314 x11_2).f1))) t321 true _ A32.out).mono ?_
                          rintro e w36 ⟨rfl, hb⟩
                          have HS3_ := (hb.cell (World.block_lt_of_cell? _ _ (hHeld.2.2.2.1))).trans (hHeld.2.2.2.1)
                          have HS4_ := (hb.cell (World.block_lt_of_cell? _ _ (hHeld.2.2.2.2.1))).trans (hHeld.2.2.2.2.1)
                          have HS5_ := (hb.cell (World.block_lt_of_cell? _ _ (hHeld.2.2.2.2.2))).trans (hHeld.2.2.2.2.2)
                          refine ⟨_, rfl, ?_⟩
                          have n0_ := Aside0.mk (Kd.R_below (by (with_reducible repeat (first | apply Kd.R_alloc | apply Kd.R_drewN | apply Kd.R_drew)); exact HO_8.out) hb)
                          have n1_ := Aside0.mk (Kd.R_below (by (with_reducible repeat (first | apply Kd.R_alloc | apply Kd.R_drewN | apply Kd.R_drew)); exact HO_10.out) hb)
                          have n2_ := Aside0.mk (blk_below (g := gb304) (o := .cells #[.int .u8 a0_0, .int .u8 a0_1, .int .u8 a0_2] 32 (0, 0)) (by (with_reducible repeat (first | refine blk_drewN ?_ _ | refine blk_drew ?_ | refine blk_alloc ?_ _)); exact BK304.out) hb)
                          have n3_ := Aside0.mk (blk_below (g := gb309) (o := .cells #[.int .i64 t306, .int .i64 t307, .int .i64 t308] 23 (0, 0)) (by (with_reducible repeat (first | refine blk_drewN ?_ _ | refine blk_drew ?_ | refine blk_alloc ?_ _)); exact BK309.out) hb)
                          have n4_ := Aside0.mk (below_step (by repeat (first | (with_reducible first | exact HB.out | apply below_alloc | apply pw_below_drewN | apply below_drew1 | refine below_set ?_ GE304.out | refine below_set ?_ GE309.out) | exact HB.out)) hb)
                          clear HO_8
                          clear HO_10
                          clear BK304
                          clear BK309
                          clear HB
                          have HO_8 := n0_
                          have HO_10 := n1_
                          have BK304 := n2_
                          have BK309 := n3_
                          have HB := n4_
                          clear n0_ n1_ n2_ n3_ n4_
                          (try clear hb)
                          (try clear hb2)
                          (try clear hk)
                          (try clear hi)
                          refine hK.out _ _ ⟨(blk_cell BK309.out 0).trans rfl, (blk_cell BK309.out 1).trans rfl, (blk_cell BK309.out 2).trans rfl, HS3_, HS4_, HS5_⟩ (fun hHeld => ?_)
                          clear hK K
                          refine norm_ (a' := ?_) ?_ ?_
                          rotate_left
                          · show Act.put _ (some 94) _ = _
                            simp only [Act.put, List.setIfInBounds_toArray, List.set_cons_zero, List.set_cons_succ, i64_w, i32_w]
                            rfl
                          refine pure_ (i := 9) (N := some 85) (v := ?_) (a' := ?_) #[true, true, true, true, true, true, true, true, true, true, false, false, false, false] rfl rfl (any_of HT_.out (by kernel_rfl)) (fun _ _ _ h => h) (Or.inl ⟨by rfl, ?_⟩) ?_ ?_
                          rotate_left
                          · intro w'
                            go_simp
                            with_reducible rfl
                          rotate_left
                          · simp only [Act.put, List.setIfInBounds_toArray, List.set_cons_zero, List.set_cons_succ, i64_w, i32_w]
                            rfl
                          refine pure_ (i := 10) (N := some 95) (v := ?_) (a' := ?_) #[true, true, true, true, true, true, true, true, true, true, true, false, false, false] rfl rfl (any_of HT_.out (by kernel_rfl)) (fun _ _ _ h => h) (Or.inl ⟨by rfl, ?_⟩) ?_ ?_
                          rotate_left
                          · intro w'
                            go_simp
                            with_reducible rfl
                          rotate_left
                          · simp only [Act.put, List.setIfInBounds_toArray, List.set_cons_zero, List.set_cons_succ, i64_w, i32_w]
                            rfl
                          refine pure_ (i := 11) (N := some 96) (v := ?_) (a' := ?_) #[true, true, true, true, true, true, true, true, true, true, true, true, false, false] rfl rfl (any_of HT_.out (by kernel_rfl)) (fun _ _ _ h => h) (Or.inl ⟨by rfl, ?_⟩) ?_ ?_
                          rotate_left
                          · intro w'
                            go_simp
                            with_reducible rfl
                          rotate_left
                          · simp only [Act.put, List.setIfInBounds_toArray, List.set_cons_zero, List.set_cons_succ, i64_w, i32_w]
                            rfl
                          refine pure_ (i := 12) (N := some 12) (v := ?_) (a' := ?_) #[true, true, true, true, true, true, true, true, true, true, true, true, true, false] rfl rfl (any_of HT_.out (by kernel_rfl)) (fun _ _ _ h => h) (Or.inl ⟨by rfl, ?_⟩) ?_ ?_
                          rotate_left
                          · intro w'
                            go_simp
                            with_reducible rfl
                          rotate_left
                          · simp only [Act.put, List.setIfInBounds_toArray, List.set_cons_zero, List.set_cons_succ, i64_w, i32_w]
                            rfl
                          refine pure_ (i := 13) (N := some 13) (v := ?_) (a' := ?_) #[true, true, true, true, true, true, true, true, true, true, true, true, true, true] rfl rfl (any_of HT_.out (by kernel_rfl)) (fun _ _ _ h => h) (Or.inl ⟨by rfl, ?_⟩) ?_ ?_
                          rotate_left
                          · intro w'
                            go_simp
                            with_reducible rfl
                          rotate_left
                          · simp only [Act.put, List.setIfInBounds_toArray, List.set_cons_zero, List.set_cons_succ, i64_w, i32_w]
                            rfl
                          refine done_ (done_of HT_.out (by kernel_rfl)) ?_
                          try go_wp2
                          go_ret
                          exact ⟨by first | rfl | (simp [errW_none, errW_some] <;> rfl) | (simp [*, errW_none, errW_some] <;> rfl), by repeat (first | (with_reducible first | exact HB.out | apply below_alloc | apply pw_below_drewN | apply below_drew1 | refine below_set ?_ GE304.out | refine below_set ?_ GE309.out) | exact HB.out)⟩
                        · replace c33 := Bool.eq_false_iff.mpr c33
                          subst c33
                          have H1 : (some false) = some r := by rw [if_neg (show ¬ (false = true) by decide)] at H; exact H
                          clear H
                          have H := H1
                          clear H1
                          exact absurd HT.out (by rw [← Option.some.inj H]; decide)
                  · rw [if_neg c27] at H
                    have c27b0 : (((rd_T37 t314 x11_2).f2) == 0) = false := beq_eq_false_iff_ne.mpr c27
                    have c27b1 : (((rd_T37 t314 x11_2).f2) != 0) = true := bne_iff_ne.mpr c27
                    have H' := Aside0.mk H
                    clear H
                    obtain ⟨Ao37, co37, eo37⟩ := Kd.R_slice HO_10.out
                    subst eo37
                    have p317 : 0 ≤ (x11_2 : Int) := of_decide_eq_true (by first | (with_reducible assumption) | assumption)
                    have q317 : x11_2 < (t314.length : Int) := of_decide_eq_true (by first | (with_reducible assumption) | assumption)
                    obtain ⟨ad317, e317, hx317_0, hx317_1, hx317_2⟩ := at_T37 (Kd.R_reads' HO_10.out).2.2 x11_2 p317 q317
                    cases e317
                    replace p317 := eq_true p317
                    replace q317 := eq_true q317
                    go_wp2
                    go_roundg k2
                    case measure => have := HJ7.out; have := HK2.out; omega
                    case rel => exact ⟨(wrap64 (x11_2 + 1)), (by first | rfl | (simp; done) | (simp [*]; done)), H', ⟨by have := HJ7.out; have := HK2.out; omega⟩, ⟨by (with_reducible repeat (first | apply Kd.R_alloc | apply Kd.R_drewN | apply Kd.R_drew)); exact HO_8.out⟩, ⟨by (with_reducible repeat (first | apply Kd.R_alloc | apply Kd.R_drewN | apply Kd.R_drew)); exact HO_10.out⟩, ⟨by (with_reducible repeat (first | refine blk_drewN ?_ _ | refine blk_drew ?_ | refine blk_alloc ?_ _)); exact BK304.out⟩, ⟨by (with_reducible repeat (first | refine blk_drewN ?_ _ | refine blk_drew ?_ | refine blk_alloc ?_ _)); exact BK309.out⟩, ⟨by repeat (first | (with_reducible first | exact HB.out | apply below_alloc | apply pw_below_drewN | apply below_drew1 | refine below_set ?_ GE304.out | refine below_set ?_ GE309.out) | exact HB.out)⟩⟩
                · rw [if_neg c26] at H
                  exact absurd H (by simp)
              · rw [if_neg c25] at H
                have c25b0 : decide (x11_2 < (t314.length : Int)) = false := decide_eq_false c25
                clear c25
                obtain rfl := Option.some.inj H
                obtain ⟨Ao38, co38, eo38⟩ := Kd.R_slice HO_10.out
                subst eo38
                go_wp2
                go_ret
                exact ⟨by first | rfl | (simp [errW_none, errW_some] <;> rfl) | (simp [*, errW_none, errW_some] <;> rfl), by repeat (first | (with_reducible first | exact HB.out | apply below_alloc | apply pw_below_drewN | apply below_drew1 | refine below_set ?_ GE304.out | refine below_set ?_ GE309.out) | exact HB.out)⟩
  · replace c6 := Bool.eq_false_iff.mpr c6
    subst c6
    have H1 : (if true = true then (some ((Int.tmod (wrap64 (a1)) 421) == 1)) else (some false)) = some r := by rw [if_neg (show ¬ (false = true) by decide)] at H; exact H
    clear H
    have H := H1
    clear H1
    have H1 : (some ((Int.tmod (wrap64 (a1)) 421) == 1)) = some r := by first | (rw [if_pos rfl] at H; exact H) | (rw [if_pos True.intro] at H; exact H)
    clear H
    have H := H1
    clear H1
    obtain rfl := Option.some.inj H
    go_enter Try.func13, Try.ntmps13
    go_wp2_with (first | ((with_reducible refine gate_dst (N := 2) rfl ?_); (try (refine gate_guard (by rfl) ?_; dsimp only)); refine box_event ?hg (N := 2) ?hd (cs := #[.int .u8 a0_0, .int .u8 a0_1, .int .u8 a0_2]) (t := 32) ?hr ?_; (case hd => rfl); (case hg => rfl); (case hr => first | (go_simp; done) | (go_simp; rfl)); intro gb304 hg w39 hbox hb; have n0_ := Aside0.mk (below_step (by repeat (first | (with_reducible first | exact HB.out | apply below_alloc | apply pw_below_drewN | apply below_drew1) | exact HB.out)) hb); have n1_ := Aside0.mk (hbox); have n2_ := Aside0.mk ((by rw [hg]; exact (below_size (by repeat (first | (with_reducible first | exact HB.out | apply below_alloc | apply pw_below_drewN | apply below_drew1) | exact HB.out))) : w.heap.size ≤ gb304)); have n3_ := Aside0.mk ((by rw [hg]; exact (below_size (by repeat (first | (with_reducible first | exact HB.out | apply below_alloc | apply pw_below_drewN | apply below_drew1) | exact HB.out))) : w.heap.size ≤ gb304)); clear HB; have HB := n0_; have BK304 := n1_; have GW304 := n2_; have GE304 := n3_; clear n0_ n1_ n2_ n3_; clear hb hbox hg) | ((with_reducible refine gate_callee (f := 15) rfl ?_); refine goesL_ (some 14) rfl rfl Try.func15 (by kernel_rfl) rfl #[] rfl (by (try simp only [List.map_toArray, List.map_cons, List.map_nil]); first | done | rfl | (simp only [List.length_drop, List.length_take]; rfl)) ?_; (with_reducible refine (ambidexterlaw22_head.calls k  true _ A3.out).mono ?_); rintro e w40 ⟨rfl, hb⟩; refine ⟨_, rfl, ?_⟩; have n0_ := Aside0.mk (blk_below (g := gb304) (o := .cells #[.int .u8 a0_0, .int .u8 a0_1, .int .u8 a0_2] 32 (0, 0)) (by (with_reducible repeat (first | refine blk_drewN ?_ _ | refine blk_drew ?_ | refine blk_alloc ?_ _)); exact BK304.out) hb); have n1_ := Aside0.mk (below_step (by repeat (first | (with_reducible first | exact HB.out | apply below_alloc | apply pw_below_drewN | apply below_drew1 | refine below_set ?_ GE304.out) | exact HB.out)) hb); clear BK304; clear HB; have BK304 := n0_; have HB := n1_; clear n0_ n1_; (try clear hb); (try clear hb2); (try clear hk); (try clear hi); have hcz41_0 : w40.cell? ⟨gb304, 0, none⟩ = some (.int .u8 a0_0) := (blk_cell BK304.out 0).trans rfl; have hcz41_1 : w40.cell? ⟨gb304, 1, none⟩ = some (.int .u8 a0_1) := (blk_cell BK304.out 1).trans rfl; have hcz41_2 : w40.cell? ⟨gb304, 2, none⟩ = some (.int .u8 a0_2) := (blk_cell BK304.out 2).trans rfl; have hfz41_0 := blk_frozen BK304.out 0; have hfz41_1 := blk_frozen BK304.out 1; have hfz41_2 := blk_frozen BK304.out 2) | ((with_reducible refine gate_callee (f := 20) rfl ?_); refine goesL_ (some 21) rfl rfl Try.func20 (by kernel_rfl) rfl #[.int .u8 a0_0, .int .u8 a0_1, .int .u8 a0_2] rfl (by (try simp only [List.map_toArray, List.map_cons, List.map_nil]); first | done | rfl | (simp only [List.length_drop, List.length_take]; rfl)) ?_; (with_reducible refine (ambidexterlaw22_Limits.calls a0_0 a0_1 a0_2 t306 t307 t308 _ A4.out).mono ?_); rintro e w42 ⟨rfl, hb⟩; refine ⟨_, rfl, ?_⟩; have n0_ := Aside0.mk (blk_below (g := gb304) (o := .cells #[.int .u8 a0_0, .int .u8 a0_1, .int .u8 a0_2] 32 (0, 0)) (by (with_reducible repeat (first | refine blk_drewN ?_ _ | refine blk_drew ?_ | refine blk_alloc ?_ _)); exact BK304.out) hb); have n1_ := Aside0.mk (below_step (by repeat (first | (with_reducible first | exact HB.out | apply below_alloc | apply pw_below_drewN | apply below_drew1 | refine below_set ?_ GE304.out) | exact HB.out)) hb); clear BK304; clear HB; have BK304 := n0_; have HB := n1_; clear n0_ n1_; (try clear hb); (try clear hb2); (try clear hk); (try clear hi)) | ((with_reducible refine gate_dst (N := 6) rfl ?_); (try (refine gate_guard (by rfl) ?_; dsimp only)); refine box_event ?hg (N := 6) ?hd (cs := #[.int .i64 0, .int .i64 0, .int .i64 0]) (t := 23) ?hr ?_; (case hd => rfl); (case hg => rfl); (case hr => first | (go_simp; done) | (go_simp; rfl)); intro gb309 hg w43 hbox hb; have n0_ := Aside0.mk (blk_below (g := gb304) (o := .cells #[.int .u8 a0_0, .int .u8 a0_1, .int .u8 a0_2] 32 (0, 0)) (by (with_reducible repeat (first | refine blk_drewN ?_ _ | refine blk_drew ?_ | refine blk_alloc ?_ _)); exact BK304.out) hb); have n1_ := Aside0.mk (below_step (by repeat (first | (with_reducible first | exact HB.out | apply below_alloc | apply pw_below_drewN | apply below_drew1 | refine below_set ?_ GE304.out) | exact HB.out)) hb); have n2_ := Aside0.mk (hbox); have n3_ := Aside0.mk ((by rw [hg]; exact (below_size (by repeat (first | (with_reducible first | exact HB.out | apply below_alloc | apply pw_below_drewN | apply below_drew1 | refine below_set ?_ GE304.out) | exact HB.out))) : w.heap.size ≤ gb309)); have n4_ := Aside0.mk ((by rw [hg]; exact (below_size (by repeat (first | (with_reducible first | exact HB.out | apply below_alloc | apply pw_below_drewN | apply below_drew1 | refine below_set ?_ GE304.out) | exact HB.out))) : w.heap.size ≤ gb309)); have n5_ := Aside0.mk ((by rw [hg]; exact Nat.ne_of_lt (blk_lt (g := gb304) (o := .cells #[.int .u8 a0_0, .int .u8 a0_1, .int .u8 a0_2] 32 (0, 0)) (by (with_reducible repeat (first | refine blk_drewN ?_ _ | refine blk_drew ?_ | refine blk_alloc ?_ _)); exact BK304.out)) : gb304 ≠ gb309)); have n6_ := Aside0.mk ((by rw [hg]; exact Nat.ne_of_gt (blk_lt (g := gb304) (o := .cells #[.int .u8 a0_0, .int .u8 a0_1, .int .u8 a0_2] 32 (0, 0)) (by (with_reducible repeat (first | refine blk_drewN ?_ _ | refine blk_drew ?_ | refine blk_alloc ?_ _)); exact BK304.out)) : gb309 ≠ gb304)); clear BK304; clear HB; have BK304 := n0_; have HB := n1_; have BK309 := n2_; have GW309 := n3_; have GE309 := n4_; have NB304_309 := n5_; have NB309_304 := n6_; clear n0_ n1_ n2_ n3_ n4_ n5_ n6_; clear hb hbox hg; have hnb44 := NB309_304.out; have hnc44 := NB304_309.out; have hcz45_0 : w43.cell? ⟨gb309, 0, none⟩ = some (.int .i64 0) := (blk_cell BK309.out 0).trans rfl; have hcz45_1 : w43.cell? ⟨gb309, 1, none⟩ = some (.int .i64 0) := (blk_cell BK309.out 1).trans rfl; have hcz45_2 : w43.cell? ⟨gb309, 2, none⟩ = some (.int .i64 0) := (blk_cell BK309.out 2).trans rfl; have hfz45_0 := blk_frozen BK309.out 0; have hfz45_1 := blk_frozen BK309.out 1; have hfz45_2 := blk_frozen BK309.out 2) | ((with_reducible refine gate_callee (f := 16) rfl ?_); refine goesL_ (some 28) rfl rfl Try.func16 (by kernel_rfl) rfl #[.agg #[.int .i64 t306, .int .i64 t307, .int .i64 t308], .int .i64 (Int.tmod (wrap64 (a1)) 421)] rfl (by (try simp only [List.map_toArray, List.map_cons, List.map_nil]); first | done | rfl | (simp only [List.length_drop, List.length_take]; rfl)) ?_; (with_reducible refine (mintime_Profile.calls k t306 t307 t308 (Int.tmod (wrap64 (a1)) 421) t310 false _ A5.out).mono ?_); rintro e w46 ⟨v311, rfl, ho0, hb⟩; refine ⟨_, rfl, ?_⟩; have n0_ := Aside0.mk (Kd.R_lower ho0 (below_size (by repeat (first | (with_reducible first | exact HB.out | apply below_alloc | apply pw_below_drewN | apply below_drew1 | refine below_set ?_ GE304.out | refine below_set ?_ GE309.out) | exact HB.out)))); have n1_ := Aside0.mk (blk_below (g := gb304) (o := .cells #[.int .u8 a0_0, .int .u8 a0_1, .int .u8 a0_2] 32 (0, 0)) (by (with_reducible repeat (first | refine blk_drewN ?_ _ | refine blk_drew ?_ | refine blk_alloc ?_ _)); refine blk_far ?_ NB304_309.out _; (with_reducible repeat (first | refine blk_drewN ?_ _ | refine blk_drew ?_ | refine blk_alloc ?_ _)); refine blk_far ?_ NB304_309.out _; (with_reducible repeat (first | refine blk_drewN ?_ _ | refine blk_drew ?_ | refine blk_alloc ?_ _)); refine blk_far ?_ NB304_309.out _; (with_reducible repeat (first | refine blk_drewN ?_ _ | refine blk_drew ?_ | refine blk_alloc ?_ _)); exact BK304.out) hb); have n2_ := Aside0.mk (blk_below (g := gb309) (o := .cells #[.int .i64 t306, .int .i64 t307, .int .i64 t308] 23 (0, 0)) (by (with_reducible repeat (first | refine blk_drewN ?_ _ | refine blk_drew ?_ | refine blk_alloc ?_ _)); refine blk_put (cs := #[.int .i64 t306, .int .i64 t307, .int .i64 0]) ?_ 2 _ rfl; (with_reducible repeat (first | refine blk_drewN ?_ _ | refine blk_drew ?_ | refine blk_alloc ?_ _)); refine blk_put (cs := #[.int .i64 t306, .int .i64 0, .int .i64 0]) ?_ 1 _ rfl; (with_reducible repeat (first | refine blk_drewN ?_ _ | refine blk_drew ?_ | refine blk_alloc ?_ _)); refine blk_put (cs := #[.int .i64 0, .int .i64 0, .int .i64 0]) ?_ 0 _ rfl; (with_reducible repeat (first | refine blk_drewN ?_ _ | refine blk_drew ?_ | refine blk_alloc ?_ _)); exact BK309.out) hb); have n3_ := Aside0.mk (below_step (by repeat (first | (with_reducible first | exact HB.out | apply below_alloc | apply pw_below_drewN | apply below_drew1 | refine below_set ?_ GE304.out | refine below_set ?_ GE309.out) | exact HB.out)) hb); clear BK304; clear BK309; clear HB; have HO312 := n0_; have BK304 := n1_; have BK309 := n2_; have HB := n3_; clear n0_ n1_ n2_ n3_; (try clear hb); (try clear hb2); (try clear hk); (try clear hi); (try clear ho0)))
    go_ret
    exact ⟨by first | rfl | (simp [errW_none, errW_some] <;> rfl) | (simp [*, errW_none, errW_some] <;> rfl), by repeat (first | (with_reducible first | exact HB.out | apply below_alloc | apply pw_below_drewN | apply below_drew1 | refine below_set ?_ GE304.out | refine below_set ?_ GE309.out) | exact HB.out)⟩

end Go.Proofs.Ytjcefdockfbnaaa.P
