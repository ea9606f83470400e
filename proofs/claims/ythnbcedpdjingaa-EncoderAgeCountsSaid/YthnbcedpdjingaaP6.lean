-- Written by this session's own program, for this seat. Lean checks it.
import Derived.Test.YthnbcedpdjingaaP0
import Derived.Test.YthnbcedpdjingaaP1
import Derived.Test.YthnbcedpdjingaaP3
namespace Go.Proofs.Ythnbcedpdjingaa.P
open Go.RowKit Go.Proofs.YthnbcedpdjingaaW.PrintWords Go.Proofs.YthnbcedpdjingaaW.PrintLast Go.Proofs.YthnbcedpdjingaaW.PrintMore
attribute [local go_sem] max2_int min2_int max_two min_two max_three min_three max_four min_four   -- for this text's walks alone
set_option linter.unusedVariables false
set_option linter.unusedSimpArgs false

attribute [local go_sem high] eqA23
/-! ### ambidexterlaw24_EncoderAgeCounts: function 5 -/
mutual
def ambidexterlaw24_EncoderAgeCounts.j0 : Nat → List (S35) → Bool → Bool → Int → Int → Int → Int → Int → Int → Option (Bool)
  | 0, _, _, _, _, _, _, _, _, _ => none
  | k + 1, x2, x7, x41, x187000, x187001, x187002, x188000, x188001, x188002 => if x41 = true then (some x7) else (ambidexterlaw24_EncoderAgeCounts.l0 k x2 x7 x187002 false 0 x187000 x187001 x187002 x187000 x187001 x187002 x188000 x188001 x188002)
def ambidexterlaw24_EncoderAgeCounts.l0 : Nat → List (S35) → Bool → Int → Bool → Int → Int → Int → Int → Int → Int → Int → Int → Int → Int → Option (Bool)
  | 0, _, _, _, _, _, _, _, _, _, _, _, _, _, _ => none
  | k + 1, x2, x7, x12, x13, x14, x187000, x187001, x187002, x192000, x192001, x192002, x193000, x193001, x193002 => if x14 < (x2.length : Int) then (if 0 ≤ x14 then ((encoder_Observe.f x192000 x192001 x192002 (wrap64 ((rd_T35 x2 x14).f1)) (wrap64 ((rd_T35 x2 x14).f0))).bind fun bt195 => ((encoder_Observe.f x193000 x193001 x193002 (wrap64 ((rd_T35 x2 x14).f1)) (wrap64 ((rd_T35 x2 x14).f0))).bind fun bt199 => (if ((rd_T35 x2 x14).f1) = 1 then (if bt195.2.2 = 0 then (if (!(bt195.1 == bt199.1) || (!(bt195.2.1 == bt199.2.1) || (!(bt195.2.2 == bt199.2.2)))) = true then (some false) else (ambidexterlaw24_EncoderAgeCounts.l0 k x2 x7 0 true (wrap64 (x14 + 1)) x187000 x187001 x187002 bt195.1 bt195.2.1 bt195.2.2 bt199.1 bt199.2.1 bt199.2.2)) else (some false)) else (if bt195.2.2 = (wrap64 (x12 + 1)) then (if x13 = true then (if (!(bt195.1 == bt199.1) || (!(bt195.2.1 == bt199.2.1) || (!(bt195.2.2 == bt199.2.2)))) = true then (some false) else (ambidexterlaw24_EncoderAgeCounts.l0 k x2 x7 (wrap64 (x12 + 1)) x13 (wrap64 (x14 + 1)) x187000 x187001 x187002 bt195.1 bt195.2.1 bt195.2.2 bt199.1 bt199.2.1 bt199.2.2)) else (ambidexterlaw24_EncoderAgeCounts.l0 k x2 x7 (wrap64 (x12 + 1)) x13 (wrap64 (x14 + 1)) x187000 x187001 x187002 bt195.1 bt195.2.1 bt195.2.2 bt199.1 bt199.2.1 bt199.2.2)) else (some false))))) else (none)) else (if x7 = true then (if x13 = true then (some true) else (if x192000 = x187000 then (some (x192001 == x187001)) else (some false))) else (some false))
end
def ambidexterlaw24_EncoderAgeCounts.f (k : Nat) (a0_0 : Int) (a0_1 : Int) (a0_2 : Int) (a1_0 : Int) (a1_1 : Int) (a1_2 : Int) (l2 : List (S35)) : Option (Bool) := (ambidexterlaw24_head.f).bind fun t188 => ((ambidexterref24_May.f a0_0 a0_1 a0_2).bind fun t189 => ((ambidexterref24_May.f a1_0 a1_1 a1_2).bind fun t190 => (if t189 = true then (if t190 = true then (if (l2.length : Int) > 200 then (ambidexterlaw24_EncoderAgeCounts.j0 k l2 t188 true a0_0 a0_1 a0_2 a1_0 a1_1 a1_2) else (if a0_2 > 549755813888 then (ambidexterlaw24_EncoderAgeCounts.j0 k l2 t188 true a0_0 a0_1 a0_2 a1_0 a1_1 a1_2) else (ambidexterlaw24_EncoderAgeCounts.j0 k l2 t188 (decide (a1_2 > 549755813888)) a0_0 a0_1 a0_2 a1_0 a1_1 a1_2))) else (ambidexterlaw24_EncoderAgeCounts.j0 k l2 t188 true a0_0 a0_1 a0_2 a1_0 a1_1 a1_2)) else (ambidexterlaw24_EncoderAgeCounts.j0 k l2 t188 true a0_0 a0_1 a0_2 a1_0 a1_1 a1_2))))
theorem ambidexterlaw24_EncoderAgeCounts.mono_l : ∀ k, (∀ y0 y1 y2 y3 y4 y5 y6 y7 y8, LeO (ambidexterlaw24_EncoderAgeCounts.j0 k y0 y1 y2 y3 y4 y5 y6 y7 y8) (ambidexterlaw24_EncoderAgeCounts.j0 (k + 1) y0 y1 y2 y3 y4 y5 y6 y7 y8)) ∧ (∀ y0 y1 y2 y3 y4 y5 y6 y7 y8 y9 y10 y11 y12 y13, LeO (ambidexterlaw24_EncoderAgeCounts.l0 k y0 y1 y2 y3 y4 y5 y6 y7 y8 y9 y10 y11 y12 y13) (ambidexterlaw24_EncoderAgeCounts.l0 (k + 1) y0 y1 y2 y3 y4 y5 y6 y7 y8 y9 y10 y11 y12 y13))
  | 0 => ⟨fun _ _ _ _ _ _ _ _ _ r h => by simp [ambidexterlaw24_EncoderAgeCounts.j0] at h, fun _ _ _ _ _ _ _ _ _ _ _ _ _ _ r h => by simp [ambidexterlaw24_EncoderAgeCounts.l0] at h⟩
  | k + 1 => by
    obtain ⟨ih0, ih1⟩ := ambidexterlaw24_EncoderAgeCounts.mono_l k
    refine ⟨?_, ?_⟩
    · intro y0 y1 y2 y3 y4 y5 y6 y7 y8
      unfold ambidexterlaw24_EncoderAgeCounts.j0
      repeat' first
      | (with_reducible exact ih0 _ _ _ _ _ _ _ _ _)
      | (with_reducible exact ih1 _ _ _ _ _ _ _ _ _ _ _ _ _ _)
      | (with_reducible exact LeO.refl _)
      | (with_reducible exact LeO.none _)
      | (with_reducible refine LeO.ite ?_ ?_)
      | (with_reducible refine LeO.bind ?_ (fun _ => ?_))
      | exact ih0 _ _ _ _ _ _ _ _ _
      | exact ih1 _ _ _ _ _ _ _ _ _ _ _ _ _ _
      | exact LeO.none _
      | refine LeO.ite ?_ ?_
      | refine LeO.bind ?_ (fun _ => ?_)
    · intro y0 y1 y2 y3 y4 y5 y6 y7 y8 y9 y10 y11 y12 y13
      unfold ambidexterlaw24_EncoderAgeCounts.l0
      repeat' first
      | (with_reducible exact ih0 _ _ _ _ _ _ _ _ _)
      | (with_reducible exact ih1 _ _ _ _ _ _ _ _ _ _ _ _ _ _)
      | (with_reducible exact LeO.refl _)
      | (with_reducible exact LeO.none _)
      | (with_reducible refine LeO.ite ?_ ?_)
      | (with_reducible refine LeO.bind ?_ (fun _ => ?_))
      | exact ih0 _ _ _ _ _ _ _ _ _
      | exact ih1 _ _ _ _ _ _ _ _ _ _ _ _ _ _
      | exact LeO.none _
      | refine LeO.ite ?_ ?_
      | refine LeO.bind ?_ (fun _ => ?_)
theorem ambidexterlaw24_EncoderAgeCounts.mono : ∀ a0 a1 a2 a3 a4 a5 a6 k, LeO (ambidexterlaw24_EncoderAgeCounts.f k a0 a1 a2 a3 a4 a5 a6) (ambidexterlaw24_EncoderAgeCounts.f (k + 1) a0 a1 a2 a3 a4 a5 a6) := by
  intro a0 a1 a2 a3 a4 a5 a6 k
  obtain ⟨ih0, ih1⟩ := ambidexterlaw24_EncoderAgeCounts.mono_l k
  unfold ambidexterlaw24_EncoderAgeCounts.f
  repeat' first
      | (with_reducible exact ih0 _ _ _ _ _ _ _ _ _)
      | (with_reducible exact ih1 _ _ _ _ _ _ _ _ _ _ _ _ _ _)
      | (with_reducible exact LeO.refl _)
      | (with_reducible exact LeO.none _)
      | (with_reducible refine LeO.ite ?_ ?_)
      | (with_reducible refine LeO.bind ?_ (fun _ => ?_))
      | exact ih0 _ _ _ _ _ _ _ _ _
      | exact ih1 _ _ _ _ _ _ _ _ _ _ _ _ _ _
      | exact LeO.none _
      | refine LeO.ite ?_ ?_
      | refine LeO.bind ?_ (fun _ => ?_)
def ambidexterlaw24_EncoderAgeCounts.T14 : Bool × List (List Nat × List Nat) := (true, [([], []), ([], []), ([], []), ([1, 2], [1, 2]), ([3], [3]), ([4], [4]), ([5], [5]), ([], []), ([0, 6, 7], [0, 6, 7]), ([8, 8, 0, 1, 2, 3, 4, 5, 6, 7, 8], [8])])
def ambidexterlaw24_EncoderAgeCounts.B14 : List Nat := [0, 0, 0, 6, 14, 30, 62, 0, 255, 511]
theorem ambidexterlaw24_EncoderAgeCounts.tab14 : rtab .any (opsOf Try.f5 14) = ambidexterlaw24_EncoderAgeCounts.T14 := by kernel_rfl
theorem ambidexterlaw24_EncoderAgeCounts.bits14 : waitsOk ambidexterlaw24_EncoderAgeCounts.T14.2 ambidexterlaw24_EncoderAgeCounts.B14 = true := by kernel_rfl
def ambidexterlaw24_EncoderAgeCounts.T15 : Bool × List (List Nat × List Nat) := (true, [([], []), ([], []), ([], []), ([1, 2], [1, 2]), ([3], [3]), ([4], [4]), ([5], [5]), ([], []), ([0, 6, 7], [0, 6, 7]), ([8, 8, 0, 1, 2, 3, 4, 5, 6, 7, 8], [8])])
def ambidexterlaw24_EncoderAgeCounts.B15 : List Nat := [0, 0, 0, 6, 14, 30, 62, 0, 255, 511]
theorem ambidexterlaw24_EncoderAgeCounts.tab15 : rtab .any (opsOf Try.f5 15) = ambidexterlaw24_EncoderAgeCounts.T15 := by kernel_rfl
theorem ambidexterlaw24_EncoderAgeCounts.bits15 : waitsOk ambidexterlaw24_EncoderAgeCounts.T15.2 ambidexterlaw24_EncoderAgeCounts.B15 = true := by kernel_rfl
set_option maxHeartbeats 8000000 in
set_option maxRecDepth 100000 in
theorem ambidexterlaw24_EncoderAgeCounts.calls0 (k : Nat) (a0_0 : Int) (a0_1 : Int) (a0_2 : Int) (a1_0 : Int) (a1_1 : Int) (a1_2 : Int) (A2 : Option Addr) (c2 : Nat) (l2 : List (S35)) (r : Bool) (w : World) (hr2 : Kd.C k35 w A2 l2.length l2) (hc2 : l2.length ≤ c2) (h : ambidexterlaw24_EncoderAgeCounts.f k a0_0 a0_1 a0_2 a1_0 a1_1 a1_2 l2 = some r) (hT : r = true) :
    Calls Try.prog 5 #[.agg #[.int .i64 a0_0, .int .i64 a0_1, .int .i64 a0_2], .agg #[.int .i64 a1_0, .int .i64 a1_1, .int .i64 a1_2], .slice A2 l2.length c2] w fun e w' => e = .returned (.bool r) ∧ Below w.heap.size w w' := by
  have hu23 := Try.underlying23
  have HR2 := Aside0.mk hr2
  have HC2 := Aside0.mk hc2
  clear hr2 hc2
  have HB := Aside0.mk (Below.refl w.heap.size w)
  have H : ((ambidexterlaw24_head.f).bind fun t188 => ((ambidexterref24_May.f a0_0 a0_1 a0_2).bind fun t189 => ((ambidexterref24_May.f a1_0 a1_1 a1_2).bind fun t190 => (if t189 = true then (if t190 = true then (if (l2.length : Int) > 200 then (ambidexterlaw24_EncoderAgeCounts.j0 k l2 t188 true a0_0 a0_1 a0_2 a1_0 a1_1 a1_2) else (if a0_2 > 549755813888 then (ambidexterlaw24_EncoderAgeCounts.j0 k l2 t188 true a0_0 a0_1 a0_2 a1_0 a1_1 a1_2) else (ambidexterlaw24_EncoderAgeCounts.j0 k l2 t188 (decide (a1_2 > 549755813888)) a0_0 a0_1 a0_2 a1_0 a1_1 a1_2))) else (ambidexterlaw24_EncoderAgeCounts.j0 k l2 t188 true a0_0 a0_1 a0_2 a1_0 a1_1 a1_2)) else (ambidexterlaw24_EncoderAgeCounts.j0 k l2 t188 true a0_0 a0_1 a0_2 a1_0 a1_1 a1_2))))) = some r := h
  clear h
  have HT := Aside0.mk hT
  clear hT
  replace H := Option.bind_eq_some_iff.mp H
  obtain ⟨t188, A40, H⟩ := H
  obtain rfl := ambidexterlaw24_head.is_true A40
  replace H : ((ambidexterref24_May.f a0_0 a0_1 a0_2).bind fun t189 => ((ambidexterref24_May.f a1_0 a1_1 a1_2).bind fun t190 => (if t189 = true then (if t190 = true then (if (l2.length : Int) > 200 then (ambidexterlaw24_EncoderAgeCounts.j0 k l2 true true a0_0 a0_1 a0_2 a1_0 a1_1 a1_2) else (if a0_2 > 549755813888 then (ambidexterlaw24_EncoderAgeCounts.j0 k l2 true true a0_0 a0_1 a0_2 a1_0 a1_1 a1_2) else (ambidexterlaw24_EncoderAgeCounts.j0 k l2 true (decide (a1_2 > 549755813888)) a0_0 a0_1 a0_2 a1_0 a1_1 a1_2))) else (ambidexterlaw24_EncoderAgeCounts.j0 k l2 true true a0_0 a0_1 a0_2 a1_0 a1_1 a1_2)) else (ambidexterlaw24_EncoderAgeCounts.j0 k l2 true true a0_0 a0_1 a0_2 a1_0 a1_1 a1_2)))) = some r := H
  have A4 := Aside0.mk A40
  clear A40
  replace H := Option.bind_eq_some_iff.mp H
  obtain ⟨t189, A50, H⟩ := H
  replace H : ((ambidexterref24_May.f a1_0 a1_1 a1_2).bind fun t190 => (if t189 = true then (if t190 = true then (if (l2.length : Int) > 200 then (ambidexterlaw24_EncoderAgeCounts.j0 k l2 true true a0_0 a0_1 a0_2 a1_0 a1_1 a1_2) else (if a0_2 > 549755813888 then (ambidexterlaw24_EncoderAgeCounts.j0 k l2 true true a0_0 a0_1 a0_2 a1_0 a1_1 a1_2) else (ambidexterlaw24_EncoderAgeCounts.j0 k l2 true (decide (a1_2 > 549755813888)) a0_0 a0_1 a0_2 a1_0 a1_1 a1_2))) else (ambidexterlaw24_EncoderAgeCounts.j0 k l2 true true a0_0 a0_1 a0_2 a1_0 a1_1 a1_2)) else (ambidexterlaw24_EncoderAgeCounts.j0 k l2 true true a0_0 a0_1 a0_2 a1_0 a1_1 a1_2))) = some r := H
  have A5 := Aside0.mk A50
  clear A50
  replace H := Option.bind_eq_some_iff.mp H
  obtain ⟨t190, A60, H⟩ := H
  replace H : (if t189 = true then (if t190 = true then (if (l2.length : Int) > 200 then (ambidexterlaw24_EncoderAgeCounts.j0 k l2 true true a0_0 a0_1 a0_2 a1_0 a1_1 a1_2) else (if a0_2 > 549755813888 then (ambidexterlaw24_EncoderAgeCounts.j0 k l2 true true a0_0 a0_1 a0_2 a1_0 a1_1 a1_2) else (ambidexterlaw24_EncoderAgeCounts.j0 k l2 true (decide (a1_2 > 549755813888)) a0_0 a0_1 a0_2 a1_0 a1_1 a1_2))) else (ambidexterlaw24_EncoderAgeCounts.j0 k l2 true true a0_0 a0_1 a0_2 a1_0 a1_1 a1_2)) else (ambidexterlaw24_EncoderAgeCounts.j0 k l2 true true a0_0 a0_1 a0_2 a1_0 a1_1 a1_2)) = some r := H
  have A6 := Aside0.mk A60
  clear A60
  have HC7 := Aside0.mk H
  clear H
  go_enter Try.func5, Try.ntmps5
  go_upto_region 4 with (first | ((with_reducible refine gate_dst (N := 3) rfl ?_); (try (refine gate_guard (by rfl) ?_; dsimp only)); refine box_event ?hg (N := 3) ?hd (cs := #[.int .i64 a0_0, .int .i64 a0_1, .int .i64 a0_2]) (t := 23) ?hr ?_; (case hd => rfl); (case hg => rfl); (case hr => first | (go_simp; done) | (go_simp; rfl)); intro gb186 hg w8 hbox hb; have n0_ := Aside0.mk (below_step (by repeat (first | (with_reducible first | exact HB.out | apply below_alloc | apply pw_below_drewN | apply below_drew1) | exact HB.out)) hb); have n1_ := Aside0.mk (hbox); have n2_ := Aside0.mk ((by rw [hg]; exact (below_size (by repeat (first | (with_reducible first | exact HB.out | apply below_alloc | apply pw_below_drewN | apply below_drew1) | exact HB.out))) : w.heap.size ≤ gb186)); have n3_ := Aside0.mk ((by rw [hg]; exact (below_size (by repeat (first | (with_reducible first | exact HB.out | apply below_alloc | apply pw_below_drewN | apply below_drew1) | exact HB.out))) : w.heap.size ≤ gb186)); clear HB; have HB := n0_; have BK186 := n1_; have GW186 := n2_; have GE186 := n3_; clear n0_ n1_ n2_ n3_; clear hb hbox hg) | ((with_reducible refine gate_dst (N := 4) rfl ?_); (try (refine gate_guard (by rfl) ?_; dsimp only)); refine box_event ?hg (N := 4) ?hd (cs := #[.int .i64 a1_0, .int .i64 a1_1, .int .i64 a1_2]) (t := 23) ?hr ?_; (case hd => rfl); (case hg => rfl); (case hr => first | (go_simp; done) | (go_simp; rfl)); intro gb187 hg w9 hbox hb; have n0_ := Aside0.mk (blk_below (g := gb186) (o := .cells #[.int .i64 a0_0, .int .i64 a0_1, .int .i64 a0_2] 23 (0, 0)) (by (with_reducible repeat (first | refine blk_drewN ?_ _ | refine blk_drew ?_ | refine blk_alloc ?_ _)); exact BK186.out) hb); have n1_ := Aside0.mk (below_step (by repeat (first | (with_reducible first | exact HB.out | apply below_alloc | apply pw_below_drewN | apply below_drew1 | refine below_set ?_ GE186.out) | exact HB.out)) hb); have n2_ := Aside0.mk (hbox); have n3_ := Aside0.mk ((by rw [hg]; exact (below_size (by repeat (first | (with_reducible first | exact HB.out | apply below_alloc | apply pw_below_drewN | apply below_drew1 | refine below_set ?_ GE186.out) | exact HB.out))) : w.heap.size ≤ gb187)); have n4_ := Aside0.mk ((by rw [hg]; exact (below_size (by repeat (first | (with_reducible first | exact HB.out | apply below_alloc | apply pw_below_drewN | apply below_drew1 | refine below_set ?_ GE186.out) | exact HB.out))) : w.heap.size ≤ gb187)); have n5_ := Aside0.mk ((by rw [hg]; exact Nat.ne_of_lt (blk_lt (g := gb186) (o := .cells #[.int .i64 a0_0, .int .i64 a0_1, .int .i64 a0_2] 23 (0, 0)) (by (with_reducible repeat (first | refine blk_drewN ?_ _ | refine blk_drew ?_ | refine blk_alloc ?_ _)); exact BK186.out)) : gb186 ≠ gb187)); have n6_ := Aside0.mk ((by rw [hg]; exact Nat.ne_of_gt (blk_lt (g := gb186) (o := .cells #[.int .i64 a0_0, .int .i64 a0_1, .int .i64 a0_2] 23 (0, 0)) (by (with_reducible repeat (first | refine blk_drewN ?_ _ | refine blk_drew ?_ | refine blk_alloc ?_ _)); exact BK186.out)) : gb187 ≠ gb186)); clear BK186; clear HB; have BK186 := n0_; have HB := n1_; have BK187 := n2_; have GW187 := n3_; have GE187 := n4_; have NB186_187 := n5_; have NB187_186 := n6_; clear n0_ n1_ n2_ n3_ n4_ n5_ n6_; clear hb hbox hg) | ((with_reducible refine gate_callee (f := 15) rfl ?_); refine goesL_ (some 16) rfl rfl Try.func15 (by kernel_rfl) rfl #[] rfl (by (try simp only [List.map_toArray, List.map_cons, List.map_nil]); first | done | rfl | (simp only [List.length_drop, List.length_take]; rfl)) ?_; (with_reducible refine (ambidexterlaw24_head.calls  true _ A4.out).mono ?_); rintro e w10 ⟨rfl, hb⟩; refine ⟨_, rfl, ?_⟩; have n0_ := Aside0.mk (blk_below (g := gb186) (o := .cells #[.int .i64 a0_0, .int .i64 a0_1, .int .i64 a0_2] 23 (0, 0)) (by (with_reducible repeat (first | refine blk_drewN ?_ _ | refine blk_drew ?_ | refine blk_alloc ?_ _)); exact BK186.out) hb); have n1_ := Aside0.mk (blk_below (g := gb187) (o := .cells #[.int .i64 a1_0, .int .i64 a1_1, .int .i64 a1_2] 23 (0, 0)) (by (with_reducible repeat (first | refine blk_drewN ?_ _ | refine blk_drew ?_ | refine blk_alloc ?_ _)); exact BK187.out) hb); have n2_ := Aside0.mk (below_step (by repeat (first | (with_reducible first | exact HB.out | apply below_alloc | apply pw_below_drewN | apply below_drew1 | refine below_set ?_ GE186.out | refine below_set ?_ GE187.out) | exact HB.out)) hb); clear BK186; clear BK187; clear HB; have BK186 := n0_; have BK187 := n1_; have HB := n2_; clear n0_ n1_ n2_; (try clear hb); (try clear hb2); (try clear hk); (try clear hi); have hnb11 := NB186_187.out; have hnc11 := NB187_186.out; have hcz12_0 : w10.cell? ⟨gb186, 0, none⟩ = some (.int .i64 a0_0) := (blk_cell BK186.out 0).trans rfl; have hcz12_1 : w10.cell? ⟨gb186, 1, none⟩ = some (.int .i64 a0_1) := (blk_cell BK186.out 1).trans rfl; have hcz12_2 : w10.cell? ⟨gb186, 2, none⟩ = some (.int .i64 a0_2) := (blk_cell BK186.out 2).trans rfl; have hfz12_0 := blk_frozen BK186.out 0; have hfz12_1 := blk_frozen BK186.out 1; have hfz12_2 := blk_frozen BK186.out 2) | ((with_reducible refine gate_callee (f := 16) rfl ?_); refine goesL_ (some 18) rfl rfl Try.func16 (by kernel_rfl) rfl #[.agg #[.int .i64 a0_0, .int .i64 a0_1, .int .i64 a0_2]] rfl (by (try simp only [List.map_toArray, List.map_cons, List.map_nil]); first | done | rfl | (simp only [List.length_drop, List.length_take]; rfl)) ?_; (with_reducible refine (ambidexterref24_May.calls a0_0 a0_1 a0_2 t189 _ A5.out).mono ?_); rintro e w13 ⟨rfl, hb⟩; refine ⟨_, rfl, ?_⟩; have n0_ := Aside0.mk (blk_below (g := gb186) (o := .cells #[.int .i64 a0_0, .int .i64 a0_1, .int .i64 a0_2] 23 (0, 0)) (by (with_reducible repeat (first | refine blk_drewN ?_ _ | refine blk_drew ?_ | refine blk_alloc ?_ _)); exact BK186.out) hb); have n1_ := Aside0.mk (blk_below (g := gb187) (o := .cells #[.int .i64 a1_0, .int .i64 a1_1, .int .i64 a1_2] 23 (0, 0)) (by (with_reducible repeat (first | refine blk_drewN ?_ _ | refine blk_drew ?_ | refine blk_alloc ?_ _)); exact BK187.out) hb); have n2_ := Aside0.mk (below_step (by repeat (first | (with_reducible first | exact HB.out | apply below_alloc | apply pw_below_drewN | apply below_drew1 | refine below_set ?_ GE186.out | refine below_set ?_ GE187.out) | exact HB.out)) hb); clear BK186; clear BK187; clear HB; have BK186 := n0_; have BK187 := n1_; have HB := n2_; clear n0_ n1_ n2_; (try clear hb); (try clear hb2); (try clear hk); (try clear hi); have hcz14_0 : w13.cell? ⟨gb187, 0, none⟩ = some (.int .i64 a1_0) := (blk_cell BK187.out 0).trans rfl; have hcz14_1 : w13.cell? ⟨gb187, 1, none⟩ = some (.int .i64 a1_1) := (blk_cell BK187.out 1).trans rfl; have hcz14_2 : w13.cell? ⟨gb187, 2, none⟩ = some (.int .i64 a1_2) := (blk_cell BK187.out 2).trans rfl; have hfz14_0 := blk_frozen BK187.out 0; have hfz14_1 := blk_frozen BK187.out 1; have hfz14_2 := blk_frozen BK187.out 2) | ((with_reducible refine gate_callee (f := 16) rfl ?_); refine goesL_ (some 20) rfl rfl Try.func16 (by kernel_rfl) rfl #[.agg #[.int .i64 a1_0, .int .i64 a1_1, .int .i64 a1_2]] rfl (by (try simp only [List.map_toArray, List.map_cons, List.map_nil]); first | done | rfl | (simp only [List.length_drop, List.length_take]; rfl)) ?_; (with_reducible refine (ambidexterref24_May.calls a1_0 a1_1 a1_2 t190 _ A6.out).mono ?_); rintro e w15 ⟨rfl, hb⟩; refine ⟨_, rfl, ?_⟩; have n0_ := Aside0.mk (blk_below (g := gb186) (o := .cells #[.int .i64 a0_0, .int .i64 a0_1, .int .i64 a0_2] 23 (0, 0)) (by (with_reducible repeat (first | refine blk_drewN ?_ _ | refine blk_drew ?_ | refine blk_alloc ?_ _)); exact BK186.out) hb); have n1_ := Aside0.mk (blk_below (g := gb187) (o := .cells #[.int .i64 a1_0, .int .i64 a1_1, .int .i64 a1_2] 23 (0, 0)) (by (with_reducible repeat (first | refine blk_drewN ?_ _ | refine blk_drew ?_ | refine blk_alloc ?_ _)); exact BK187.out) hb); have n2_ := Aside0.mk (below_step (by repeat (first | (with_reducible first | exact HB.out | apply below_alloc | apply pw_below_drewN | apply below_drew1 | refine below_set ?_ GE186.out | refine below_set ?_ GE187.out) | exact HB.out)) hb); clear BK186; clear BK187; clear HB; have BK186 := n0_; have BK187 := n1_; have HB := n2_; clear n0_ n1_ n2_; (try clear hb); (try clear hb2); (try clear hk); (try clear hi)))
  (try simp only [Act.put, List.setIfInBounds_toArray, List.set_cons_zero, List.set_cons_succ])
  go_cut [41] (fun v41 wc => ∃ (kq : Nat) (x41_6 : Bool), v41 = .bool x41_6 ∧ Aside0 (ambidexterlaw24_EncoderAgeCounts.j0 kq l2 true x41_6 a0_0 a0_1 a0_2 a1_0 a1_1 a1_2 = some r) ∧ Aside0 (kq ≤ k) ∧ Aside0 (wc.heap[gb186]? = some (.cells #[.int .i64 a0_0, .int .i64 a0_1, .int .i64 a0_2] 23 (0, 0))) ∧ Aside0 (wc.heap[gb187]? = some (.cells #[.int .i64 a1_0, .int .i64 a1_1, .int .i64 a1_2] 23 (0, 0))) ∧ Aside0 (Below w.heap.size w wc))
  case first =>
    have H := HC7.out
    clear HC7
    by_cases c16 : t189 = true
    · subst c16
      have H1 : (if t190 = true then (if (l2.length : Int) > 200 then (ambidexterlaw24_EncoderAgeCounts.j0 k l2 true true a0_0 a0_1 a0_2 a1_0 a1_1 a1_2) else (if a0_2 > 549755813888 then (ambidexterlaw24_EncoderAgeCounts.j0 k l2 true true a0_0 a0_1 a0_2 a1_0 a1_1 a1_2) else (ambidexterlaw24_EncoderAgeCounts.j0 k l2 true (decide (a1_2 > 549755813888)) a0_0 a0_1 a0_2 a1_0 a1_1 a1_2))) else (ambidexterlaw24_EncoderAgeCounts.j0 k l2 true true a0_0 a0_1 a0_2 a1_0 a1_1 a1_2)) = some r := by rw [if_pos rfl] at H; exact H
      clear H
      have H := H1
      clear H1
      by_cases c17 : t190 = true
      · subst c17
        have H1 : (if (l2.length : Int) > 200 then (ambidexterlaw24_EncoderAgeCounts.j0 k l2 true true a0_0 a0_1 a0_2 a1_0 a1_1 a1_2) else (if a0_2 > 549755813888 then (ambidexterlaw24_EncoderAgeCounts.j0 k l2 true true a0_0 a0_1 a0_2 a1_0 a1_1 a1_2) else (ambidexterlaw24_EncoderAgeCounts.j0 k l2 true (decide (a1_2 > 549755813888)) a0_0 a0_1 a0_2 a1_0 a1_1 a1_2))) = some r := by rw [if_pos rfl] at H; exact H
        clear H
        have H := H1
        clear H1
        by_cases c18 : (l2.length : Int) > 200
        · rw [if_pos c18] at H
          have c18b0 : decide (200 < (l2.length : Int)) = true := decide_eq_true c18
          have c18b1 : decide (200 < l2.length) = true := decide_eq_true (by omega)
          clear c18
          (first | rw [c18b0] | (simp only [i64_w, i32_w]; rw [c18b0]) | skip)
          have H' := Aside0.mk H
          clear H
          go_wp2
          go_meet
          case rel => exact ⟨_, (true), (by first | rfl | (simp; done) | (simp [*]; done)), H', ⟨by first | omega | exact Nat.le_refl _⟩, ⟨by (with_reducible repeat (first | refine blk_drewN ?_ _ | refine blk_drew ?_ | refine blk_alloc ?_ _)); exact BK186.out⟩, ⟨by (with_reducible repeat (first | refine blk_drewN ?_ _ | refine blk_drew ?_ | refine blk_alloc ?_ _)); exact BK187.out⟩, ⟨by repeat (first | (with_reducible first | exact HB.out | apply below_alloc | apply pw_below_drewN | apply below_drew1 | refine below_set ?_ GE186.out | refine below_set ?_ GE187.out) | exact HB.out)⟩⟩
        · rw [if_neg c18] at H
          have c18b0 : decide (200 < (l2.length : Int)) = false := decide_eq_false c18
          have c18b1 : decide (200 < l2.length) = false := decide_eq_false (by omega)
          clear c18
          (first | rw [c18b0] | (simp only [i64_w, i32_w]; rw [c18b0]) | skip)
          by_cases c19 : a0_2 > 549755813888
          · rw [if_pos c19] at H
            have c19b0 : decide (549755813888 < a0_2) = true := decide_eq_true c19
            clear c19
            have H' := Aside0.mk H
            clear H
            have hnb20 := NB186_187.out
            have hnc20 := NB187_186.out
            have hcz21_0 : w15.cell? ⟨gb186, 0, none⟩ = some (.int .i64 a0_0) := (blk_cell BK186.out 0).trans rfl
            have hcz21_1 : w15.cell? ⟨gb186, 1, none⟩ = some (.int .i64 a0_1) := (blk_cell BK186.out 1).trans rfl
            have hcz21_2 : w15.cell? ⟨gb186, 2, none⟩ = some (.int .i64 a0_2) := (blk_cell BK186.out 2).trans rfl
            have hfz21_0 := blk_frozen BK186.out 0
            have hfz21_1 := blk_frozen BK186.out 1
            have hfz21_2 := blk_frozen BK186.out 2
            go_wp2
            go_meet
            case rel => exact ⟨_, (true), (by first | rfl | (simp; done) | (simp [*]; done)), H', ⟨by first | omega | exact Nat.le_refl _⟩, ⟨by (with_reducible repeat (first | refine blk_drewN ?_ _ | refine blk_drew ?_ | refine blk_alloc ?_ _)); exact BK186.out⟩, ⟨by (with_reducible repeat (first | refine blk_drewN ?_ _ | refine blk_drew ?_ | refine blk_alloc ?_ _)); exact BK187.out⟩, ⟨by repeat (first | (with_reducible first | exact HB.out | apply below_alloc | apply pw_below_drewN | apply below_drew1 | refine below_set ?_ GE186.out | refine below_set ?_ GE187.out) | exact HB.out)⟩⟩
          · rw [if_neg c19] at H
            have c19b0 : decide (549755813888 < a0_2) = false := decide_eq_false c19
            clear c19
            have H' := Aside0.mk H
            clear H
            have hnb22 := NB186_187.out
            have hnc22 := NB187_186.out
            have hcz23_0 : w15.cell? ⟨gb186, 0, none⟩ = some (.int .i64 a0_0) := (blk_cell BK186.out 0).trans rfl
            have hcz23_1 : w15.cell? ⟨gb186, 1, none⟩ = some (.int .i64 a0_1) := (blk_cell BK186.out 1).trans rfl
            have hcz23_2 : w15.cell? ⟨gb186, 2, none⟩ = some (.int .i64 a0_2) := (blk_cell BK186.out 2).trans rfl
            have hfz23_0 := blk_frozen BK186.out 0
            have hfz23_1 := blk_frozen BK186.out 1
            have hfz23_2 := blk_frozen BK186.out 2
            have hcz24_0 : w15.cell? ⟨gb187, 0, none⟩ = some (.int .i64 a1_0) := (blk_cell BK187.out 0).trans rfl
            have hcz24_1 : w15.cell? ⟨gb187, 1, none⟩ = some (.int .i64 a1_1) := (blk_cell BK187.out 1).trans rfl
            have hcz24_2 : w15.cell? ⟨gb187, 2, none⟩ = some (.int .i64 a1_2) := (blk_cell BK187.out 2).trans rfl
            have hfz24_0 := blk_frozen BK187.out 0
            have hfz24_1 := blk_frozen BK187.out 1
            have hfz24_2 := blk_frozen BK187.out 2
            go_wp2
            go_meet
            case rel => exact ⟨_, (decide (a1_2 > 549755813888)), (by first | rfl | (simp; done) | (simp [*]; done)), H', ⟨by first | omega | exact Nat.le_refl _⟩, ⟨by (with_reducible repeat (first | refine blk_drewN ?_ _ | refine blk_drew ?_ | refine blk_alloc ?_ _)); exact BK186.out⟩, ⟨by (with_reducible repeat (first | refine blk_drewN ?_ _ | refine blk_drew ?_ | refine blk_alloc ?_ _)); exact BK187.out⟩, ⟨by repeat (first | (with_reducible first | exact HB.out | apply below_alloc | apply pw_below_drewN | apply below_drew1 | refine below_set ?_ GE186.out | refine below_set ?_ GE187.out) | exact HB.out)⟩⟩
      · replace c17 := Bool.eq_false_iff.mpr c17
        subst c17
        have H1 : (ambidexterlaw24_EncoderAgeCounts.j0 k l2 true true a0_0 a0_1 a0_2 a1_0 a1_1 a1_2) = some r := by rw [if_neg (show ¬ (false = true) by decide)] at H; exact H
        clear H
        have H := H1
        clear H1
        have H' := Aside0.mk H
        clear H
        go_wp2
        go_meet
        case rel => exact ⟨_, (true), (by first | rfl | (simp; done) | (simp [*]; done)), H', ⟨by first | omega | exact Nat.le_refl _⟩, ⟨by (with_reducible repeat (first | refine blk_drewN ?_ _ | refine blk_drew ?_ | refine blk_alloc ?_ _)); exact BK186.out⟩, ⟨by (with_reducible repeat (first | refine blk_drewN ?_ _ | refine blk_drew ?_ | refine blk_alloc ?_ _)); exact BK187.out⟩, ⟨by repeat (first | (with_reducible first | exact HB.out | apply below_alloc | apply pw_below_drewN | apply below_drew1 | refine below_set ?_ GE186.out | refine below_set ?_ GE187.out) | exact HB.out)⟩⟩
    · replace c16 := Bool.eq_false_iff.mpr c16
      subst c16
      have H1 : (ambidexterlaw24_EncoderAgeCounts.j0 k l2 true true a0_0 a0_1 a0_2 a1_0 a1_1 a1_2) = some r := by rw [if_neg (show ¬ (false = true) by decide)] at H; exact H
      clear H
      have H := H1
      clear H1
      have H' := Aside0.mk H
      clear H
      go_wp2
      go_meet
      case rel => exact ⟨_, (true), (by first | rfl | (simp; done) | (simp [*]; done)), H', ⟨by first | omega | exact Nat.le_refl _⟩, ⟨by (with_reducible repeat (first | refine blk_drewN ?_ _ | refine blk_drew ?_ | refine blk_alloc ?_ _)); exact BK186.out⟩, ⟨by (with_reducible repeat (first | refine blk_drewN ?_ _ | refine blk_drew ?_ | refine blk_alloc ?_ _)); exact BK187.out⟩, ⟨by repeat (first | (with_reducible first | exact HB.out | apply below_alloc | apply pw_below_drewN | apply below_drew1 | refine below_set ?_ GE186.out | refine below_set ?_ GE187.out) | exact HB.out)⟩⟩
  case rest =>
    clear HC7
    try clear c1
    try clear c2
    try clear p2
    try clear c5
    try clear c11
    try clear c15
    try clear c16
    try clear c17
    try clear c18
    try clear c18b0
    try clear c18b1
    try clear c19
    try clear c19b0
    try clear c20
    try clear c22
    try clear hcz12_0
    try clear hcz12_1
    try clear hcz12_2
    try clear hcz14_0
    try clear hcz14_1
    try clear hcz14_2
    try clear hcz21_0
    try clear hcz21_1
    try clear hcz21_2
    try clear hcz23_0
    try clear hcz23_1
    try clear hcz23_2
    try clear hcz24_0
    try clear hcz24_1
    try clear hcz24_2
    try clear hfz12_0
    try clear hfz12_1
    try clear hfz12_2
    try clear hfz14_0
    try clear hfz14_1
    try clear hfz14_2
    try clear hfz21_0
    try clear hfz21_1
    try clear hfz21_2
    try clear hfz23_0
    try clear hfz23_1
    try clear hfz23_2
    try clear hfz24_0
    try clear hfz24_1
    try clear hfz24_2
    obtain ⟨kq, x41_6, rfl, HA, HJ6, BK186, BK187, HB⟩ := hcut
    cases kq with
    | zero => exact absurd HA.out (by simp [ambidexterlaw24_EncoderAgeCounts.j0])
    | succ kj6 =>
      have H := HA.out
      clear HA
      simp only [ambidexterlaw24_EncoderAgeCounts.j0] at H
      by_cases c25 : x41_6 = true
      · subst c25
        have H1 : (some true) = some r := by rw [if_pos rfl] at H; exact H
        clear H
        have H := H1
        clear H1
        obtain rfl := Option.some.inj H
        go_wp2
        go_ret
        exact ⟨by first | rfl | (simp [errW_none, errW_some] <;> rfl) | (simp [*, errW_none, errW_some] <;> rfl), by repeat (first | (with_reducible first | exact HB.out | apply below_alloc | apply pw_below_drewN | apply below_drew1 | refine below_set ?_ GE186.out | refine below_set ?_ GE187.out) | exact HB.out)⟩
      · replace c25 := Bool.eq_false_iff.mpr c25
        subst c25
        have H1 : (ambidexterlaw24_EncoderAgeCounts.l0 kj6 l2 true a0_2 false 0 a0_0 a0_1 a0_2 a0_0 a0_1 a0_2 a1_0 a1_1 a1_2) = some r := by rw [if_neg (show ¬ (false = true) by decide)] at H; exact H
        clear H
        have H := H1
        clear H1
        have H' := Aside0.mk H
        clear H
        have hnb26 := NB186_187.out
        have hnc26 := NB187_186.out
        have hcz27_0 : wc.cell? ⟨gb186, 0, none⟩ = some (.int .i64 a0_0) := (blk_cell BK186.out 0).trans rfl
        have hcz27_1 : wc.cell? ⟨gb186, 1, none⟩ = some (.int .i64 a0_1) := (blk_cell BK186.out 1).trans rfl
        have hcz27_2 : wc.cell? ⟨gb186, 2, none⟩ = some (.int .i64 a0_2) := (blk_cell BK186.out 2).trans rfl
        have hfz27_0 := blk_frozen BK186.out 0
        have hfz27_1 := blk_frozen BK186.out 1
        have hfz27_2 := blk_frozen BK186.out 2
        go_wp2_with (first | ((with_reducible refine gate_dst (N := 10) rfl ?_); (try (refine gate_guard (by rfl) ?_; dsimp only)); refine box_event ?hg (N := 10) ?hd (cs := #[.int .i64 0, .int .i64 0, .int .i64 0]) (t := 23) ?hr ?_; (case hd => rfl); (case hg => rfl); (case hr => first | (go_simp; done) | (go_simp; rfl)); intro gb191 hg w28 hbox hb; have n0_ := Aside0.mk (blk_below (g := gb186) (o := .cells #[.int .i64 a0_0, .int .i64 a0_1, .int .i64 a0_2] 23 (0, 0)) (by (with_reducible repeat (first | refine blk_drewN ?_ _ | refine blk_drew ?_ | refine blk_alloc ?_ _)); exact BK186.out) hb); have n1_ := Aside0.mk (blk_below (g := gb187) (o := .cells #[.int .i64 a1_0, .int .i64 a1_1, .int .i64 a1_2] 23 (0, 0)) (by (with_reducible repeat (first | refine blk_drewN ?_ _ | refine blk_drew ?_ | refine blk_alloc ?_ _)); exact BK187.out) hb); have n2_ := Aside0.mk (below_step (by repeat (first | (with_reducible first | exact HB.out | apply below_alloc | apply pw_below_drewN | apply below_drew1 | refine below_set ?_ GE186.out | refine below_set ?_ GE187.out) | exact HB.out)) hb); have n3_ := Aside0.mk (hbox); have n4_ := Aside0.mk ((by rw [hg]; exact (below_size (by repeat (first | (with_reducible first | exact HB.out | apply below_alloc | apply pw_below_drewN | apply below_drew1 | refine below_set ?_ GE186.out | refine below_set ?_ GE187.out) | exact HB.out))) : w.heap.size ≤ gb191)); have n5_ := Aside0.mk ((by rw [hg]; exact (below_size (by repeat (first | (with_reducible first | exact HB.out | apply below_alloc | apply pw_below_drewN | apply below_drew1 | refine below_set ?_ GE186.out | refine below_set ?_ GE187.out) | exact HB.out))) : w.heap.size ≤ gb191)); have n6_ := Aside0.mk ((by rw [hg]; exact Nat.ne_of_lt (blk_lt (g := gb186) (o := .cells #[.int .i64 a0_0, .int .i64 a0_1, .int .i64 a0_2] 23 (0, 0)) (by (with_reducible repeat (first | refine blk_drewN ?_ _ | refine blk_drew ?_ | refine blk_alloc ?_ _)); exact BK186.out)) : gb186 ≠ gb191)); have n7_ := Aside0.mk ((by rw [hg]; exact Nat.ne_of_gt (blk_lt (g := gb186) (o := .cells #[.int .i64 a0_0, .int .i64 a0_1, .int .i64 a0_2] 23 (0, 0)) (by (with_reducible repeat (first | refine blk_drewN ?_ _ | refine blk_drew ?_ | refine blk_alloc ?_ _)); exact BK186.out)) : gb191 ≠ gb186)); have n8_ := Aside0.mk ((by rw [hg]; exact Nat.ne_of_lt (blk_lt (g := gb187) (o := .cells #[.int .i64 a1_0, .int .i64 a1_1, .int .i64 a1_2] 23 (0, 0)) (by (with_reducible repeat (first | refine blk_drewN ?_ _ | refine blk_drew ?_ | refine blk_alloc ?_ _)); exact BK187.out)) : gb187 ≠ gb191)); have n9_ := Aside0.mk ((by rw [hg]; exact Nat.ne_of_gt (blk_lt (g := gb187) (o := .cells #[.int .i64 a1_0, .int .i64 a1_1, .int .i64 a1_2] 23 (0, 0)) (by (with_reducible repeat (first | refine blk_drewN ?_ _ | refine blk_drew ?_ | refine blk_alloc ?_ _)); exact BK187.out)) : gb191 ≠ gb187)); clear BK186; clear BK187; clear HB; have BK186 := n0_; have BK187 := n1_; have HB := n2_; have BK191 := n3_; have GW191 := n4_; have GE191 := n5_; have NB186_191 := n6_; have NB191_186 := n7_; have NB187_191 := n8_; have NB191_187 := n9_; clear n0_ n1_ n2_ n3_ n4_ n5_ n6_ n7_ n8_ n9_; clear hb hbox hg; have hnb29 := NB191_186.out; have hnc29 := NB186_191.out; have hnb30 := NB191_187.out; have hnc30 := NB187_191.out; have hcz31_0 : w28.cell? ⟨gb191, 0, none⟩ = some (.int .i64 0) := (blk_cell BK191.out 0).trans rfl; have hcz31_1 : w28.cell? ⟨gb191, 1, none⟩ = some (.int .i64 0) := (blk_cell BK191.out 1).trans rfl; have hcz31_2 : w28.cell? ⟨gb191, 2, none⟩ = some (.int .i64 0) := (blk_cell BK191.out 2).trans rfl; have hfz31_0 := blk_frozen BK191.out 0; have hfz31_1 := blk_frozen BK191.out 1; have hfz31_2 := blk_frozen BK191.out 2; have hcz32_0 : w28.cell? ⟨gb187, 0, none⟩ = some (.int .i64 a1_0) := (blk_cell BK187.out 0).trans rfl; have hcz32_1 : w28.cell? ⟨gb187, 1, none⟩ = some (.int .i64 a1_1) := (blk_cell BK187.out 1).trans rfl; have hcz32_2 : w28.cell? ⟨gb187, 2, none⟩ = some (.int .i64 a1_2) := (blk_cell BK187.out 2).trans rfl; have hfz32_0 := blk_frozen BK187.out 0; have hfz32_1 := blk_frozen BK187.out 1; have hfz32_2 := blk_frozen BK187.out 2) | ((with_reducible refine gate_dst (N := 11) rfl ?_); (try (refine gate_guard (by rfl) ?_; dsimp only)); refine box_event ?hg (N := 11) ?hd (cs := #[.int .i64 0, .int .i64 0, .int .i64 0]) (t := 23) ?hr ?_; (case hd => rfl); (case hg => rfl); (case hr => first | (go_simp; done) | (go_simp; rfl)); intro gb192 hg w33 hbox hb; have n0_ := Aside0.mk (blk_below (g := gb186) (o := .cells #[.int .i64 a0_0, .int .i64 a0_1, .int .i64 a0_2] 23 (0, 0)) (by (with_reducible repeat (first | refine blk_drewN ?_ _ | refine blk_drew ?_ | refine blk_alloc ?_ _)); refine blk_far ?_ NB186_191.out _; (with_reducible repeat (first | refine blk_drewN ?_ _ | refine blk_drew ?_ | refine blk_alloc ?_ _)); refine blk_far ?_ NB186_191.out _; (with_reducible repeat (first | refine blk_drewN ?_ _ | refine blk_drew ?_ | refine blk_alloc ?_ _)); refine blk_far ?_ NB186_191.out _; (with_reducible repeat (first | refine blk_drewN ?_ _ | refine blk_drew ?_ | refine blk_alloc ?_ _)); exact BK186.out) hb); have n1_ := Aside0.mk (blk_below (g := gb187) (o := .cells #[.int .i64 a1_0, .int .i64 a1_1, .int .i64 a1_2] 23 (0, 0)) (by (with_reducible repeat (first | refine blk_drewN ?_ _ | refine blk_drew ?_ | refine blk_alloc ?_ _)); refine blk_far ?_ NB187_191.out _; (with_reducible repeat (first | refine blk_drewN ?_ _ | refine blk_drew ?_ | refine blk_alloc ?_ _)); refine blk_far ?_ NB187_191.out _; (with_reducible repeat (first | refine blk_drewN ?_ _ | refine blk_drew ?_ | refine blk_alloc ?_ _)); refine blk_far ?_ NB187_191.out _; (with_reducible repeat (first | refine blk_drewN ?_ _ | refine blk_drew ?_ | refine blk_alloc ?_ _)); exact BK187.out) hb); have n2_ := Aside0.mk (blk_below (g := gb191) (o := .cells #[.int .i64 a0_0, .int .i64 a0_1, .int .i64 a0_2] 23 (0, 0)) (by (with_reducible repeat (first | refine blk_drewN ?_ _ | refine blk_drew ?_ | refine blk_alloc ?_ _)); refine blk_put (cs := #[.int .i64 a0_0, .int .i64 a0_1, .int .i64 0]) ?_ 2 _ rfl; (with_reducible repeat (first | refine blk_drewN ?_ _ | refine blk_drew ?_ | refine blk_alloc ?_ _)); refine blk_put (cs := #[.int .i64 a0_0, .int .i64 0, .int .i64 0]) ?_ 1 _ rfl; (with_reducible repeat (first | refine blk_drewN ?_ _ | refine blk_drew ?_ | refine blk_alloc ?_ _)); refine blk_put (cs := #[.int .i64 0, .int .i64 0, .int .i64 0]) ?_ 0 _ rfl; (with_reducible repeat (first | refine blk_drewN ?_ _ | refine blk_drew ?_ | refine blk_alloc ?_ _)); exact BK191.out) hb); have n3_ := Aside0.mk (below_step (by repeat (first | (with_reducible first | exact HB.out | apply below_alloc | apply pw_below_drewN | apply below_drew1 | refine below_set ?_ GE186.out | refine below_set ?_ GE187.out | refine below_set ?_ GE191.out) | exact HB.out)) hb); have n4_ := Aside0.mk (hbox); have n5_ := Aside0.mk ((by rw [hg]; exact (below_size (by repeat (first | (with_reducible first | exact HB.out | apply below_alloc | apply pw_below_drewN | apply below_drew1 | refine below_set ?_ GE186.out | refine below_set ?_ GE187.out | refine below_set ?_ GE191.out) | exact HB.out))) : w.heap.size ≤ gb192)); have n6_ := Aside0.mk ((by rw [hg]; exact (below_size (by repeat (first | (with_reducible first | exact HB.out | apply below_alloc | apply pw_below_drewN | apply below_drew1 | refine below_set ?_ GE186.out | refine below_set ?_ GE187.out | refine below_set ?_ GE191.out) | exact HB.out))) : w.heap.size ≤ gb192)); have n7_ := Aside0.mk ((by rw [hg]; exact Nat.ne_of_lt (blk_lt (g := gb186) (o := .cells #[.int .i64 a0_0, .int .i64 a0_1, .int .i64 a0_2] 23 (0, 0)) (by (with_reducible repeat (first | refine blk_drewN ?_ _ | refine blk_drew ?_ | refine blk_alloc ?_ _)); refine blk_far ?_ NB186_191.out _; (with_reducible repeat (first | refine blk_drewN ?_ _ | refine blk_drew ?_ | refine blk_alloc ?_ _)); refine blk_far ?_ NB186_191.out _; (with_reducible repeat (first | refine blk_drewN ?_ _ | refine blk_drew ?_ | refine blk_alloc ?_ _)); refine blk_far ?_ NB186_191.out _; (with_reducible repeat (first | refine blk_drewN ?_ _ | refine blk_drew ?_ | refine blk_alloc ?_ _)); exact BK186.out)) : gb186 ≠ gb192)); have n8_ := Aside0.mk ((by rw [hg]; exact Nat.ne_of_gt (blk_lt (g := gb186) (o := .cells #[.int .i64 a0_0, .int .i64 a0_1, .int .i64 a0_2] 23 (0, 0)) (by (with_reducible repeat (first | refine blk_drewN ?_ _ | refine blk_drew ?_ | refine blk_alloc ?_ _)); refine blk_far ?_ NB186_191.out _; (with_reducible repeat (first | refine blk_drewN ?_ _ | refine blk_drew ?_ | refine blk_alloc ?_ _)); refine blk_far ?_ NB186_191.out _; (with_reducible repeat (first | refine blk_drewN ?_ _ | refine blk_drew ?_ | refine blk_alloc ?_ _)); refine blk_far ?_ NB186_191.out _; (with_reducible repeat (first | refine blk_drewN ?_ _ | refine blk_drew ?_ | refine blk_alloc ?_ _)); exact BK186.out)) : gb192 ≠ gb186)); have n9_ := Aside0.mk ((by rw [hg]; exact Nat.ne_of_lt (blk_lt (g := gb187) (o := .cells #[.int .i64 a1_0, .int .i64 a1_1, .int .i64 a1_2] 23 (0, 0)) (by (with_reducible repeat (first | refine blk_drewN ?_ _ | refine blk_drew ?_ | refine blk_alloc ?_ _)); refine blk_far ?_ NB187_191.out _; (with_reducible repeat (first | refine blk_drewN ?_ _ | refine blk_drew ?_ | refine blk_alloc ?_ _)); refine blk_far ?_ NB187_191.out _; (with_reducible repeat (first | refine blk_drewN ?_ _ | refine blk_drew ?_ | refine blk_alloc ?_ _)); refine blk_far ?_ NB187_191.out _; (with_reducible repeat (first | refine blk_drewN ?_ _ | refine blk_drew ?_ | refine blk_alloc ?_ _)); exact BK187.out)) : gb187 ≠ gb192)); have n10_ := Aside0.mk ((by rw [hg]; exact Nat.ne_of_gt (blk_lt (g := gb187) (o := .cells #[.int .i64 a1_0, .int .i64 a1_1, .int .i64 a1_2] 23 (0, 0)) (by (with_reducible repeat (first | refine blk_drewN ?_ _ | refine blk_drew ?_ | refine blk_alloc ?_ _)); refine blk_far ?_ NB187_191.out _; (with_reducible repeat (first | refine blk_drewN ?_ _ | refine blk_drew ?_ | refine blk_alloc ?_ _)); refine blk_far ?_ NB187_191.out _; (with_reducible repeat (first | refine blk_drewN ?_ _ | refine blk_drew ?_ | refine blk_alloc ?_ _)); refine blk_far ?_ NB187_191.out _; (with_reducible repeat (first | refine blk_drewN ?_ _ | refine blk_drew ?_ | refine blk_alloc ?_ _)); exact BK187.out)) : gb192 ≠ gb187)); have n11_ := Aside0.mk ((by rw [hg]; exact Nat.ne_of_lt (blk_lt (g := gb191) (o := .cells #[.int .i64 a0_0, .int .i64 a0_1, .int .i64 a0_2] 23 (0, 0)) (by (with_reducible repeat (first | refine blk_drewN ?_ _ | refine blk_drew ?_ | refine blk_alloc ?_ _)); refine blk_put (cs := #[.int .i64 a0_0, .int .i64 a0_1, .int .i64 0]) ?_ 2 _ rfl; (with_reducible repeat (first | refine blk_drewN ?_ _ | refine blk_drew ?_ | refine blk_alloc ?_ _)); refine blk_put (cs := #[.int .i64 a0_0, .int .i64 0, .int .i64 0]) ?_ 1 _ rfl; (with_reducible repeat (first | refine blk_drewN ?_ _ | refine blk_drew ?_ | refine blk_alloc ?_ _)); refine blk_put (cs := #[.int .i64 0, .int .i64 0, .int .i64 0]) ?_ 0 _ rfl; (with_reducible repeat (first | refine blk_drewN ?_ _ | refine blk_drew ?_ | refine blk_alloc ?_ _)); exact BK191.out)) : gb191 ≠ gb192)); have n12_ := Aside0.mk ((by rw [hg]; exact Nat.ne_of_gt (blk_lt (g := gb191) (o := .cells #[.int .i64 a0_0, .int .i64 a0_1, .int .i64 a0_2] 23 (0, 0)) (by (with_reducible repeat (first | refine blk_drewN ?_ _ | refine blk_drew ?_ | refine blk_alloc ?_ _)); refine blk_put (cs := #[.int .i64 a0_0, .int .i64 a0_1, .int .i64 0]) ?_ 2 _ rfl; (with_reducible repeat (first | refine blk_drewN ?_ _ | refine blk_drew ?_ | refine blk_alloc ?_ _)); refine blk_put (cs := #[.int .i64 a0_0, .int .i64 0, .int .i64 0]) ?_ 1 _ rfl; (with_reducible repeat (first | refine blk_drewN ?_ _ | refine blk_drew ?_ | refine blk_alloc ?_ _)); refine blk_put (cs := #[.int .i64 0, .int .i64 0, .int .i64 0]) ?_ 0 _ rfl; (with_reducible repeat (first | refine blk_drewN ?_ _ | refine blk_drew ?_ | refine blk_alloc ?_ _)); exact BK191.out)) : gb192 ≠ gb191)); clear BK186; clear BK187; clear BK191; clear HB; have BK186 := n0_; have BK187 := n1_; have BK191 := n2_; have HB := n3_; have BK192 := n4_; have GW192 := n5_; have GE192 := n6_; have NB186_192 := n7_; have NB192_186 := n8_; have NB187_192 := n9_; have NB192_187 := n10_; have NB191_192 := n11_; have NB192_191 := n12_; clear n0_ n1_ n2_ n3_ n4_ n5_ n6_ n7_ n8_ n9_ n10_ n11_ n12_; clear hb hbox hg; have hnb34 := NB192_186.out; have hnc34 := NB186_192.out; have hnb35 := NB192_187.out; have hnc35 := NB187_192.out; have hnb36 := NB192_191.out; have hnc36 := NB191_192.out; have hcz37_0 : w33.cell? ⟨gb192, 0, none⟩ = some (.int .i64 0) := (blk_cell BK192.out 0).trans rfl; have hcz37_1 : w33.cell? ⟨gb192, 1, none⟩ = some (.int .i64 0) := (blk_cell BK192.out 1).trans rfl; have hcz37_2 : w33.cell? ⟨gb192, 2, none⟩ = some (.int .i64 0) := (blk_cell BK192.out 2).trans rfl; have hfz37_0 := blk_frozen BK192.out 0; have hfz37_1 := blk_frozen BK192.out 1; have hfz37_2 := blk_frozen BK192.out 2; have hcz38_0 : w33.cell? ⟨gb186, 0, none⟩ = some (.int .i64 a0_0) := (blk_cell BK186.out 0).trans rfl; have hcz38_1 : w33.cell? ⟨gb186, 1, none⟩ = some (.int .i64 a0_1) := (blk_cell BK186.out 1).trans rfl; have hcz38_2 : w33.cell? ⟨gb186, 2, none⟩ = some (.int .i64 a0_2) := (blk_cell BK186.out 2).trans rfl; have hfz38_0 := blk_frozen BK186.out 0; have hfz38_1 := blk_frozen BK186.out 1; have hfz38_2 := blk_frozen BK186.out 2))
        go_loopg [12, 13, 14] kj6 (fun kq v12 v13 v14 w' => ∃ (x12_2 : Int) (x13_2 : Bool) (x14_2 : Int) (x192000_2 : Int) (x192001_2 : Int) (x192002_2 : Int) (x193000_2 : Int) (x193001_2 : Int) (x193002_2 : Int), v12 = .int .i64 x12_2 ∧ v13 = .bool x13_2 ∧ v14 = .int .i64 x14_2 ∧ Aside0 (ambidexterlaw24_EncoderAgeCounts.l0 kq l2 true x12_2 x13_2 x14_2 a0_0 a0_1 a0_2 x192000_2 x192001_2 x192002_2 x193000_2 x193001_2 x193002_2 = some r) ∧ Aside0 (kq ≤ kj6) ∧ Aside0 (w'.heap[gb186]? = some (.cells #[.int .i64 a0_0, .int .i64 a0_1, .int .i64 a0_2] 23 (0, 0))) ∧ Aside0 (w'.heap[gb187]? = some (.cells #[.int .i64 a1_0, .int .i64 a1_1, .int .i64 a1_2] 23 (0, 0))) ∧ Aside0 (w'.heap[gb191]? = some (.cells #[.int .i64 x192000_2, .int .i64 x192001_2, .int .i64 x192002_2] 23 (0, 0))) ∧ Aside0 (w'.heap[gb192]? = some (.cells #[.int .i64 x193000_2, .int .i64 x193001_2, .int .i64 x193002_2] 23 (0, 0))) ∧ Aside0 (Below w.heap.size w w'))
        case atStart => exact ⟨(a0_2), (false), (0), (a0_0), (a0_1), (a0_2), (a1_0), (a1_1), (a1_2), (by first | rfl | (simp; done) | (simp [*]; done)), (by first | rfl | (simp; done) | (simp [*]; done)), (by first | rfl | (simp; done) | (simp [*]; done)), H', ⟨Nat.le_refl _⟩, ⟨by (with_reducible repeat (first | refine blk_drewN ?_ _ | refine blk_drew ?_ | refine blk_alloc ?_ _)); refine blk_far ?_ NB186_192.out _; (with_reducible repeat (first | refine blk_drewN ?_ _ | refine blk_drew ?_ | refine blk_alloc ?_ _)); refine blk_far ?_ NB186_192.out _; (with_reducible repeat (first | refine blk_drewN ?_ _ | refine blk_drew ?_ | refine blk_alloc ?_ _)); refine blk_far ?_ NB186_192.out _; (with_reducible repeat (first | refine blk_drewN ?_ _ | refine blk_drew ?_ | refine blk_alloc ?_ _)); exact BK186.out⟩, ⟨by (with_reducible repeat (first | refine blk_drewN ?_ _ | refine blk_drew ?_ | refine blk_alloc ?_ _)); refine blk_far ?_ NB187_192.out _; (with_reducible repeat (first | refine blk_drewN ?_ _ | refine blk_drew ?_ | refine blk_alloc ?_ _)); refine blk_far ?_ NB187_192.out _; (with_reducible repeat (first | refine blk_drewN ?_ _ | refine blk_drew ?_ | refine blk_alloc ?_ _)); refine blk_far ?_ NB187_192.out _; (with_reducible repeat (first | refine blk_drewN ?_ _ | refine blk_drew ?_ | refine blk_alloc ?_ _)); exact BK187.out⟩, ⟨by (with_reducible repeat (first | refine blk_drewN ?_ _ | refine blk_drew ?_ | refine blk_alloc ?_ _)); refine blk_far ?_ NB191_192.out _; (with_reducible repeat (first | refine blk_drewN ?_ _ | refine blk_drew ?_ | refine blk_alloc ?_ _)); refine blk_far ?_ NB191_192.out _; (with_reducible repeat (first | refine blk_drewN ?_ _ | refine blk_drew ?_ | refine blk_alloc ?_ _)); refine blk_far ?_ NB191_192.out _; (with_reducible repeat (first | refine blk_drewN ?_ _ | refine blk_drew ?_ | refine blk_alloc ?_ _)); exact BK191.out⟩, ⟨by (with_reducible repeat (first | refine blk_drewN ?_ _ | refine blk_drew ?_ | refine blk_alloc ?_ _)); refine blk_put (cs := #[.int .i64 a1_0, .int .i64 a1_1, .int .i64 0]) ?_ 2 _ rfl; (with_reducible repeat (first | refine blk_drewN ?_ _ | refine blk_drew ?_ | refine blk_alloc ?_ _)); refine blk_put (cs := #[.int .i64 a1_0, .int .i64 0, .int .i64 0]) ?_ 1 _ rfl; (with_reducible repeat (first | refine blk_drewN ?_ _ | refine blk_drew ?_ | refine blk_alloc ?_ _)); refine blk_put (cs := #[.int .i64 0, .int .i64 0, .int .i64 0]) ?_ 0 _ rfl; (with_reducible repeat (first | refine blk_drewN ?_ _ | refine blk_drew ?_ | refine blk_alloc ?_ _)); exact BK192.out⟩, ⟨by repeat (first | (with_reducible first | exact HB.out | apply below_alloc | apply pw_below_drewN | apply below_drew1 | refine below_set ?_ GE186.out | refine below_set ?_ GE187.out | refine below_set ?_ GE191.out | refine below_set ?_ GE192.out) | exact HB.out)⟩⟩
        case round =>
          clear H'
          try clear c1
          try clear c2
          try clear p2
          try clear c3
          try clear c5
          try clear c11
          try clear c15
          try clear c16
          try clear c17
          try clear c18
          try clear c18b0
          try clear c18b1
          try clear c19
          try clear c19b0
          try clear c20
          try clear c22
          try clear c25
          try clear c26
          try clear c29
          try clear c30
          try clear c34
          try clear c35
          try clear c36
          try clear hcz12_0
          try clear hcz12_1
          try clear hcz12_2
          try clear hcz14_0
          try clear hcz14_1
          try clear hcz14_2
          try clear hcz21_0
          try clear hcz21_1
          try clear hcz21_2
          try clear hcz23_0
          try clear hcz23_1
          try clear hcz23_2
          try clear hcz24_0
          try clear hcz24_1
          try clear hcz24_2
          try clear hcz27_0
          try clear hcz27_1
          try clear hcz27_2
          try clear hcz31_0
          try clear hcz31_1
          try clear hcz31_2
          try clear hcz32_0
          try clear hcz32_1
          try clear hcz32_2
          try clear hcz37_0
          try clear hcz37_1
          try clear hcz37_2
          try clear hcz38_0
          try clear hcz38_1
          try clear hcz38_2
          try clear hfz12_0
          try clear hfz12_1
          try clear hfz12_2
          try clear hfz14_0
          try clear hfz14_1
          try clear hfz14_2
          try clear hfz21_0
          try clear hfz21_1
          try clear hfz21_2
          try clear hfz23_0
          try clear hfz23_1
          try clear hfz23_2
          try clear hfz24_0
          try clear hfz24_1
          try clear hfz24_2
          try clear hfz27_0
          try clear hfz27_1
          try clear hfz27_2
          try clear hfz31_0
          try clear hfz31_1
          try clear hfz31_2
          try clear hfz32_0
          try clear hfz32_1
          try clear hfz32_2
          try clear hfz37_0
          try clear hfz37_1
          try clear hfz37_2
          try clear hfz38_0
          try clear hfz38_1
          try clear hfz38_2
          try clear p2
          obtain ⟨x12_2, x13_2, x14_2, x192000_2, x192001_2, x192002_2, x193000_2, x193001_2, x193002_2, rfl, rfl, rfl, HA, HK2, BK186, BK187, BK191, BK192, HB⟩ := hrel
          cases gk with
          | zero => exact absurd HA.out (by simp [ambidexterlaw24_EncoderAgeCounts.l0])
          | succ k2 =>
            have H := HA.out
            clear HA
            simp only [ambidexterlaw24_EncoderAgeCounts.l0] at H
            by_cases c39 : x14_2 < (l2.length : Int)
            · rw [if_pos c39] at H
              have c39b0 : decide (x14_2 < (l2.length : Int)) = true := decide_eq_true c39
              clear c39
              by_cases c40 : 0 ≤ x14_2
              · rw [if_pos c40] at H
                have c40b0 : decide (0 ≤ x14_2) = true := decide_eq_true c40
                clear c40
                replace H := Option.bind_eq_some_iff.mp H
                obtain ⟨⟨t195, t196, t197⟩, A410, H⟩ := H
                replace H : ((encoder_Observe.f x193000_2 x193001_2 x193002_2 (wrap64 ((rd_T35 l2 x14_2).f1)) (wrap64 ((rd_T35 l2 x14_2).f0))).bind fun bt199 => (if ((rd_T35 l2 x14_2).f1) = 1 then (if t197 = 0 then (if (!(t195 == bt199.1) || (!(t196 == bt199.2.1) || (!(t197 == bt199.2.2)))) = true then (some false) else (ambidexterlaw24_EncoderAgeCounts.l0 k2 l2 true 0 true (wrap64 (x14_2 + 1)) a0_0 a0_1 a0_2 t195 t196 t197 bt199.1 bt199.2.1 bt199.2.2)) else (some false)) else (if t197 = (wrap64 (x12_2 + 1)) then (if x13_2 = true then (if (!(t195 == bt199.1) || (!(t196 == bt199.2.1) || (!(t197 == bt199.2.2)))) = true then (some false) else (ambidexterlaw24_EncoderAgeCounts.l0 k2 l2 true (wrap64 (x12_2 + 1)) x13_2 (wrap64 (x14_2 + 1)) a0_0 a0_1 a0_2 t195 t196 t197 bt199.1 bt199.2.1 bt199.2.2)) else (ambidexterlaw24_EncoderAgeCounts.l0 k2 l2 true (wrap64 (x12_2 + 1)) x13_2 (wrap64 (x14_2 + 1)) a0_0 a0_1 a0_2 t195 t196 t197 bt199.1 bt199.2.1 bt199.2.2)) else (some false)))) = some r := H
                have A41 := Aside0.mk A410
                clear A410
                replace H := Option.bind_eq_some_iff.mp H
                obtain ⟨⟨t199, t200, t201⟩, A420, H⟩ := H
                replace H : (if ((rd_T35 l2 x14_2).f1) = 1 then (if t197 = 0 then (if (!(t195 == t199) || (!(t196 == t200) || (!(t197 == t201)))) = true then (some false) else (ambidexterlaw24_EncoderAgeCounts.l0 k2 l2 true 0 true (wrap64 (x14_2 + 1)) a0_0 a0_1 a0_2 t195 t196 t197 t199 t200 t201)) else (some false)) else (if t197 = (wrap64 (x12_2 + 1)) then (if x13_2 = true then (if (!(t195 == t199) || (!(t196 == t200) || (!(t197 == t201)))) = true then (some false) else (ambidexterlaw24_EncoderAgeCounts.l0 k2 l2 true (wrap64 (x12_2 + 1)) x13_2 (wrap64 (x14_2 + 1)) a0_0 a0_1 a0_2 t195 t196 t197 t199 t200 t201)) else (ambidexterlaw24_EncoderAgeCounts.l0 k2 l2 true (wrap64 (x12_2 + 1)) x13_2 (wrap64 (x14_2 + 1)) a0_0 a0_1 a0_2 t195 t196 t197 t199 t200 t201)) else (some false))) = some r := H
                have A42 := Aside0.mk A420
                clear A420
                by_cases c43 : ((rd_T35 l2 x14_2).f1) = 1
                · rw [if_pos c43] at H
                  have c43b0 : (((rd_T35 l2 x14_2).f1) == 1) = true := beq_iff_eq.mpr c43
                  have c43b1 : (((rd_T35 l2 x14_2).f1) != 1) = false := bne_eq_false_iff_eq.mpr c43
                  clear c43
                  by_cases c44 : t197 = 0
                  · rw [if_pos c44] at H
                    have c44b0 : (t197 == 0) = true := beq_iff_eq.mpr c44
                    have c44b1 : (t197 != 0) = false := bne_eq_false_iff_eq.mpr c44
                    clear c44
                    by_cases c45 : (!(t195 == t199) || (!(t196 == t200) || (!(t197 == t201)))) = true
                    · rw [if_pos c45] at H
                      have c45b0 : (!(t195 == t199) || (!(t196 == t200) || (!(t197 == t201)))) = true := c45
                      clear c45
                      exact absurd HT.out (by rw [← Option.some.inj H]; decide)
                    · rw [if_neg c45] at H
                      have c45b0 : (!(t195 == t199) || (!(t196 == t200) || (!(t197 == t201)))) = false := by simpa using c45
                      clear c45
                      have H' := Aside0.mk H
                      clear H
                      have p193 : 0 ≤ (x14_2 : Int) := of_decide_eq_true (by first | (with_reducible assumption) | assumption)
                      have q193 : x14_2 < (l2.length : Int) := of_decide_eq_true (by first | (with_reducible assumption) | assumption)
                      obtain ⟨ad193, e193, hx193_0, hx193_1⟩ := at_T35 HR2.out x14_2 p193 q193
                      cases e193
                      replace hx193_0 := (HB.out.cell (World.block_lt_of_cell? w _ hx193_0)).trans hx193_0
                      replace hx193_1 := (HB.out.cell (World.block_lt_of_cell? w _ hx193_1)).trans hx193_1
                      replace p193 := eq_true p193
                      replace q193 := eq_true q193
                      try go_wp2
                      have n0_ := Aside0.mk (blk_drew BK186.out)
                      have n1_ := Aside0.mk (blk_drew BK187.out)
                      have n2_ := Aside0.mk (blk_drew BK191.out)
                      have n3_ := Aside0.mk (blk_drew BK192.out)
                      have n4_ := Aside0.mk (below_drew1 HB.out)
                      clear BK186
                      clear BK187
                      clear BK191
                      clear BK192
                      clear HB
                      have BK186 := n0_
                      have BK187 := n1_
                      have BK191 := n2_
                      have BK192 := n3_
                      have HB := n4_
                      clear n0_ n1_ n2_ n3_ n4_
                      have p194 : 0 ≤ (x14_2 : Int) := of_decide_eq_true (by first | (with_reducible assumption) | assumption)
                      have q194 : x14_2 < (l2.length : Int) := of_decide_eq_true (by first | (with_reducible assumption) | assumption)
                      obtain ⟨ad194, e194, hx194_0, hx194_1⟩ := at_T35 HR2.out x14_2 p194 q194
                      have hw194_1 := hx194_1
                      have hw194_0 := hx194_0
                      obtain rfl : ad193 = ad194 := (by injection e194)
                      replace hx194_0 := (HB.out.cell (World.block_lt_of_cell? w _ hx194_0)).trans hx194_0
                      replace hx194_1 := (HB.out.cell (World.block_lt_of_cell? w _ hx194_1)).trans hx194_1
                      replace p194 := eq_true p194
                      replace q194 := eq_true q194
                      refine start_ (n := 10) (S := fun w' => w'.cell? ⟨gb191, 0, none⟩ = some (.int .i64 x192000_2) ∧ w'.cell? ⟨gb191, 1, none⟩ = some (.int .i64 x192001_2) ∧ w'.cell? ⟨gb191, 2, none⟩ = some (.int .i64 x192002_2) ∧ w'.cell? (ad193.add ((x14_2).toNat * 2)) = some (.int .i16 ((rd_T35 l2 x14_2).f0)) ∧ w'.cell? ⟨(ad193.add ((x14_2).toNat * 2)).block, (ad193.add ((x14_2).toNat * 2)).off + 1, none⟩ = some (.int .u8 ((rd_T35 l2 x14_2).f1))) (ds := [9]) #[false, false, false, false, false, false, false, false, false, false] (by kernel_rfl) rfl rfl ⟨(blk_cell BK191.out 0).trans rfl, (blk_cell BK191.out 1).trans rfl, (blk_cell BK191.out 2).trans rfl, ((HB.out.cell (World.block_lt_of_cell? w _ hw194_0)).trans hw194_0), ((HB.out.cell (World.block_lt_of_cell? w _ hw194_1)).trans hw194_1)⟩ (fun hHeld => ?_); refine with_tabW ambidexterlaw24_EncoderAgeCounts.tab14 ambidexterlaw24_EncoderAgeCounts.bits14 (fun HT_ HW_ => ?_)
                      generalize wr.drew = w46 at BK186 BK187 BK191 BK192 HB hx194_0 hx194_1 hHeld ⊢
                      refine pure_ (i := 1) (N := some 60) (v := ?_) (a' := ?_) #[false, true, false, false, false, false, false, false, false, false] rfl rfl (any_of HT_.out (by kernel_rfl)) (fun _ _ _ h => h) (Or.inl ⟨by rfl, ?_⟩) ?_ ?_
                      rotate_left
                      · intro w'
                        go_simp
                        with_reducible rfl
                      rotate_left
                      · simp only [Act.put, List.setIfInBounds_toArray, List.set_cons_zero, List.set_cons_succ, i64_w, i32_w]
                        rfl
                      refine pure_ (i := 2) (N := some 61) (v := ?_) (a' := ?_) #[false, true, true, false, false, false, false, false, false, false] rfl rfl (any_of HT_.out (by kernel_rfl)) (fun _ _ _ h => h) (Or.inl ⟨by rfl, ?_⟩) ?_ ?_
                      rotate_left
                      · intro w'
                        go_simp
                        with_reducible rfl
                      rotate_left
                      · simp only [Act.put, List.setIfInBounds_toArray, List.set_cons_zero, List.set_cons_succ, i64_w, i32_w]
                        rfl
                      refine pure_ (i := 3) (N := some 62) (v := ?_) (a' := ?_) #[false, true, true, true, false, false, false, false, false, false] rfl rfl (any_of HT_.out (by kernel_rfl)) (fun _ _ _ h => h) (Or.inl ⟨by rfl, ?_⟩) ?_ ?_
                      rotate_left
                      · intro w'
                        go_simp
                        with_reducible rfl
                      rotate_left
                      · simp only [Act.put, List.setIfInBounds_toArray, List.set_cons_zero, List.set_cons_succ, i64_w, i32_w]
                        rfl
                      refine pure_ (i := 4) (N := some 63) (v := ?_) (a' := ?_) #[false, true, true, true, true, false, false, false, false, false] rfl rfl (any_of HT_.out (by kernel_rfl)) (fun _ _ _ h => h) (Or.inl ⟨by rfl, ?_⟩) ?_ ?_
                      rotate_left
                      · intro w'
                        go_simp
                        with_reducible rfl
                      rotate_left
                      · simp only [Act.put, List.setIfInBounds_toArray, List.set_cons_zero, List.set_cons_succ, i64_w, i32_w]
                        rfl
                      refine pure_ (i := 7) (N := some 66) (v := ?_) (a' := ?_) #[false, true, true, true, true, false, false, true, false, false] rfl rfl (any_of HT_.out (by kernel_rfl)) (fun _ _ _ h => h) (Or.inl ⟨by rfl, ?_⟩) ?_ ?_
                      rotate_left
                      · intro w'
                        go_simp
                        with_reducible rfl
                      rotate_left
                      · simp only [Act.put, List.setIfInBounds_toArray, List.set_cons_zero, List.set_cons_succ, i64_w, i32_w]
                        rfl
                      refine take_ (i := 0) (N := some 59) (v := ?_) (a' := ?_) #[true, true, true, true, true, false, false, true, false, false] rfl rfl (take_ofW HT_.out HW_.out (by kernel_rfl)) (fun _ _ _ h => h) (Or.inl ⟨by rfl, ?_⟩) hHeld ?_ ?_
                      rotate_left
                      · rintro w' ⟨s0, s1, s2, s3, s4⟩
                        go_simp
                        with_reducible rfl
                      rotate_left
                      · simp only [Act.put, List.setIfInBounds_toArray, List.set_cons_zero, List.set_cons_succ, i64_w, i32_w]
                        rfl
                      refine take_ (i := 5) (N := some 64) (v := ?_) (a' := ?_) #[true, true, true, true, true, true, false, true, false, false] rfl rfl (take_ofW HT_.out HW_.out (by kernel_rfl)) (fun _ _ _ h => h) (Or.inl ⟨by rfl, ?_⟩) hHeld ?_ ?_
                      rotate_left
                      · rintro w' ⟨s0, s1, s2, s3, s4⟩
                        go_simp
                        with_reducible rfl
                      rotate_left
                      · simp only [Act.put, List.setIfInBounds_toArray, List.set_cons_zero, List.set_cons_succ, i64_w, i32_w]
                        rfl
                      refine pure_ (i := 6) (N := some 65) (v := ?_) (a' := ?_) #[true, true, true, true, true, true, true, true, false, false] rfl rfl (any_of HT_.out (by kernel_rfl)) (fun _ _ _ h => h) (Or.inl ⟨by rfl, ?_⟩) ?_ ?_
                      rotate_left
                      · intro w'
                        go_simp
                        with_reducible rfl
                      rotate_left
                      · simp only [Act.put, List.setIfInBounds_toArray, List.set_cons_zero, List.set_cons_succ, i64_w, i32_w]
                        rfl
                      refine one_ (i := 8) (N := some 67) #[true, true, true, true, true, true, true, true, true, false] rfl rfl (one_of HT_.out (by kernel_rfl)) (by decide) (fun K hK => ?_)
                      refine goes_ Try.func21 (by kernel_rfl) rfl #[.agg #[.int .i64 x192000_2, .int .i64 x192001_2, .int .i64 x192002_2], .int .i64 (wrap64 ((rd_T35 l2 x14_2).f1)), .int .i64 (wrap64 ((rd_T35 l2 x14_2).f0))] (by rfl) rfl rfl (by (try simp only [List.map_toArray, List.map_cons, List.map_nil]); first | done | rfl | (simp only [List.length_drop, List.length_take]; rfl)) ?_
                      with_reducible refine (encoder_Observe.calls x192000_2 x192001_2 x192002_2 (wrap64 ((rd_T35 l2 x14_2).f1)) (wrap64 ((rd_T35 l2 x14_2).f0)) t195 t196 t197 _ A41.out).mono ?_
                      rintro e w47 ⟨rfl, hb⟩
                      refine ⟨_, rfl, ?_⟩
                      have n0_ := Aside0.mk (blk_below (g := gb186) (o := .cells #[.int .i64 a0_0, .int .i64 a0_1, .int .i64 a0_2] 23 (0, 0)) (by (with_reducible repeat (first | refine blk_drewN ?_ _ | refine blk_drew ?_ | refine blk_alloc ?_ _)); exact BK186.out) hb)
                      have n1_ := Aside0.mk (blk_below (g := gb187) (o := .cells #[.int .i64 a1_0, .int .i64 a1_1, .int .i64 a1_2] 23 (0, 0)) (by (with_reducible repeat (first | refine blk_drewN ?_ _ | refine blk_drew ?_ | refine blk_alloc ?_ _)); exact BK187.out) hb)
                      have n2_ := Aside0.mk (blk_below (g := gb191) (o := .cells #[.int .i64 x192000_2, .int .i64 x192001_2, .int .i64 x192002_2] 23 (0, 0)) (by (with_reducible repeat (first | refine blk_drewN ?_ _ | refine blk_drew ?_ | refine blk_alloc ?_ _)); exact BK191.out) hb)
                      have n3_ := Aside0.mk (blk_below (g := gb192) (o := .cells #[.int .i64 x193000_2, .int .i64 x193001_2, .int .i64 x193002_2] 23 (0, 0)) (by (with_reducible repeat (first | refine blk_drewN ?_ _ | refine blk_drew ?_ | refine blk_alloc ?_ _)); exact BK192.out) hb)
                      have n4_ := Aside0.mk (below_step (by repeat (first | (with_reducible first | exact HB.out | apply below_alloc | apply pw_below_drewN | apply below_drew1 | refine below_set ?_ GE186.out | refine below_set ?_ GE187.out | refine below_set ?_ GE191.out | refine below_set ?_ GE192.out) | exact HB.out)) hb)
                      clear BK186
                      clear BK187
                      clear BK191
                      clear BK192
                      clear HB
                      have BK186 := n0_
                      have BK187 := n1_
                      have BK191 := n2_
                      have BK192 := n3_
                      have HB := n4_
                      clear n0_ n1_ n2_ n3_ n4_
                      (try clear hb)
                      (try clear hb2)
                      (try clear hk)
                      (try clear hi)
                      refine hK.out _ _ ⟨(blk_cell BK191.out 0).trans rfl, (blk_cell BK191.out 1).trans rfl, (blk_cell BK191.out 2).trans rfl, ((HB.out.cell (World.block_lt_of_cell? w _ hw194_0)).trans hw194_0), ((HB.out.cell (World.block_lt_of_cell? w _ hw194_1)).trans hw194_1)⟩ (fun hHeld => ?_)
                      clear hK K
                      refine norm_ (a' := ?_) ?_ ?_
                      rotate_left
                      · show Act.put _ (some 67) _ = _
                        simp only [Act.put, List.setIfInBounds_toArray, List.set_cons_zero, List.set_cons_succ, i64_w, i32_w]
                        rfl
                      refine last_ (i := 9) (N := none) #[true, true, true, true, true, true, true, true, true, true] rfl rfl (one_of HT_.out (by kernel_rfl)) (by decide) (fun K hK => ?_)
                      have hs48 : w47.cell? ⟨gb191, 0, none⟩ = some (.int .i64 x192000_2) := (blk_cell BK191.out 0).trans rfl
                      have hfs48 := blk_frozen BK191.out 0
                      have hns48_0 := NB186_191.out
                      have hns48_1 := NB187_191.out
                      have hns48_3 := NB192_191.out
                      have hms48_0 := NB191_186.out
                      have hms48_1 := NB191_187.out
                      have hms48_3 := NB191_192.out
                      have hs49 : w47.cell? ⟨gb191, 1, none⟩ = some (.int .i64 x192001_2) := (blk_cell BK191.out 1).trans rfl
                      have hfs49 := blk_frozen BK191.out 1
                      have hns49_0 := NB186_191.out
                      have hns49_1 := NB187_191.out
                      have hns49_3 := NB192_191.out
                      have hms49_0 := NB191_186.out
                      have hms49_1 := NB191_187.out
                      have hms49_3 := NB191_192.out
                      have hs50 : w47.cell? ⟨gb191, 2, none⟩ = some (.int .i64 x192002_2) := (blk_cell BK191.out 2).trans rfl
                      have hfs50 := blk_frozen BK191.out 2
                      have hns50_0 := NB186_191.out
                      have hns50_1 := NB187_191.out
                      have hns50_3 := NB192_191.out
                      have hms50_0 := NB191_186.out
                      have hms50_1 := NB191_187.out
                      have hms50_3 := NB191_192.out
                      refine skip_ (w1 := ?_) (by rfl) rfl ?_ ?_
                      rotate_left
                      · go_simp
                        rfl
                      refine hK.out _ _ ?_
                      clear hK K
                      refine done_ (done_of HT_.out (by kernel_rfl)) ?_
                      try go_wp2
                      have n0_ : Aside0 ((((w47.setCell ⟨gb191, 0, none⟩ (.int .i64 t195)).setCell ⟨gb191, 1, none⟩ (.int .i64 t196)).setCell ⟨gb191, 2, none⟩ (.int .i64 t197)).heap[gb186]? = some (.cells #[.int .i64 a0_0, .int .i64 a0_1, .int .i64 a0_2] 23 (0, 0))) := ⟨by (with_reducible repeat (first | refine blk_drewN ?_ _ | refine blk_drew ?_ | refine blk_alloc ?_ _)); refine blk_far ?_ NB186_191.out _; (with_reducible repeat (first | refine blk_drewN ?_ _ | refine blk_drew ?_ | refine blk_alloc ?_ _)); refine blk_far ?_ NB186_191.out _; (with_reducible repeat (first | refine blk_drewN ?_ _ | refine blk_drew ?_ | refine blk_alloc ?_ _)); refine blk_far ?_ NB186_191.out _; (with_reducible repeat (first | refine blk_drewN ?_ _ | refine blk_drew ?_ | refine blk_alloc ?_ _)); exact BK186.out⟩
                      have n1_ : Aside0 ((((w47.setCell ⟨gb191, 0, none⟩ (.int .i64 t195)).setCell ⟨gb191, 1, none⟩ (.int .i64 t196)).setCell ⟨gb191, 2, none⟩ (.int .i64 t197)).heap[gb187]? = some (.cells #[.int .i64 a1_0, .int .i64 a1_1, .int .i64 a1_2] 23 (0, 0))) := ⟨by (with_reducible repeat (first | refine blk_drewN ?_ _ | refine blk_drew ?_ | refine blk_alloc ?_ _)); refine blk_far ?_ NB187_191.out _; (with_reducible repeat (first | refine blk_drewN ?_ _ | refine blk_drew ?_ | refine blk_alloc ?_ _)); refine blk_far ?_ NB187_191.out _; (with_reducible repeat (first | refine blk_drewN ?_ _ | refine blk_drew ?_ | refine blk_alloc ?_ _)); refine blk_far ?_ NB187_191.out _; (with_reducible repeat (first | refine blk_drewN ?_ _ | refine blk_drew ?_ | refine blk_alloc ?_ _)); exact BK187.out⟩
                      have n2_ : Aside0 ((((w47.setCell ⟨gb191, 0, none⟩ (.int .i64 t195)).setCell ⟨gb191, 1, none⟩ (.int .i64 t196)).setCell ⟨gb191, 2, none⟩ (.int .i64 t197)).heap[gb191]? = some (.cells #[.int .i64 t195, .int .i64 t196, .int .i64 t197] 23 (0, 0))) := ⟨by (with_reducible repeat (first | refine blk_drewN ?_ _ | refine blk_drew ?_ | refine blk_alloc ?_ _)); refine blk_put (cs := #[.int .i64 t195, .int .i64 t196, .int .i64 x192002_2]) ?_ 2 _ rfl; (with_reducible repeat (first | refine blk_drewN ?_ _ | refine blk_drew ?_ | refine blk_alloc ?_ _)); refine blk_put (cs := #[.int .i64 t195, .int .i64 x192001_2, .int .i64 x192002_2]) ?_ 1 _ rfl; (with_reducible repeat (first | refine blk_drewN ?_ _ | refine blk_drew ?_ | refine blk_alloc ?_ _)); refine blk_put (cs := #[.int .i64 x192000_2, .int .i64 x192001_2, .int .i64 x192002_2]) ?_ 0 _ rfl; (with_reducible repeat (first | refine blk_drewN ?_ _ | refine blk_drew ?_ | refine blk_alloc ?_ _)); exact BK191.out⟩
                      have n3_ : Aside0 ((((w47.setCell ⟨gb191, 0, none⟩ (.int .i64 t195)).setCell ⟨gb191, 1, none⟩ (.int .i64 t196)).setCell ⟨gb191, 2, none⟩ (.int .i64 t197)).heap[gb192]? = some (.cells #[.int .i64 x193000_2, .int .i64 x193001_2, .int .i64 x193002_2] 23 (0, 0))) := ⟨by (with_reducible repeat (first | refine blk_drewN ?_ _ | refine blk_drew ?_ | refine blk_alloc ?_ _)); refine blk_far ?_ NB192_191.out _; (with_reducible repeat (first | refine blk_drewN ?_ _ | refine blk_drew ?_ | refine blk_alloc ?_ _)); refine blk_far ?_ NB192_191.out _; (with_reducible repeat (first | refine blk_drewN ?_ _ | refine blk_drew ?_ | refine blk_alloc ?_ _)); refine blk_far ?_ NB192_191.out _; (with_reducible repeat (first | refine blk_drewN ?_ _ | refine blk_drew ?_ | refine blk_alloc ?_ _)); exact BK192.out⟩
                      have n4_ : Aside0 (Below w.heap.size w (((w47.setCell ⟨gb191, 0, none⟩ (.int .i64 t195)).setCell ⟨gb191, 1, none⟩ (.int .i64 t196)).setCell ⟨gb191, 2, none⟩ (.int .i64 t197))) := ⟨by repeat (first | (with_reducible first | exact HB.out | apply below_alloc | apply pw_below_drewN | apply below_drew1 | refine below_set ?_ GE186.out | refine below_set ?_ GE187.out | refine below_set ?_ GE191.out | refine below_set ?_ GE192.out) | exact HB.out)⟩
                      (try clear BK186)
                      (try clear BK187)
                      (try clear BK191)
                      (try clear BK192)
                      (try clear HB)
                      generalize (((w47.setCell ⟨gb191, 0, none⟩ (.int .i64 t195)).setCell ⟨gb191, 1, none⟩ (.int .i64 t196)).setCell ⟨gb191, 2, none⟩ (.int .i64 t197)) = w51 at n0_ n1_ n2_ n3_ n4_ ⊢
                      have BK186 := n0_
                      have BK187 := n1_
                      have BK191 := n2_
                      have BK192 := n3_
                      have HB := n4_
                      clear n0_ n1_ n2_ n3_ n4_
                      have n0_ := Aside0.mk (blk_drew BK186.out)
                      have n1_ := Aside0.mk (blk_drew BK187.out)
                      have n2_ := Aside0.mk (blk_drew BK191.out)
                      have n3_ := Aside0.mk (blk_drew BK192.out)
                      have n4_ := Aside0.mk (below_drew1 HB.out)
                      clear BK186
                      clear BK187
                      clear BK191
                      clear BK192
                      clear HB
                      have BK186 := n0_
                      have BK187 := n1_
                      have BK191 := n2_
                      have BK192 := n3_
                      have HB := n4_
                      clear n0_ n1_ n2_ n3_ n4_
                      have p198 : 0 ≤ (x14_2 : Int) := of_decide_eq_true (by first | (with_reducible assumption) | assumption)
                      have q198 : x14_2 < (l2.length : Int) := of_decide_eq_true (by first | (with_reducible assumption) | assumption)
                      obtain ⟨ad198, e198, hx198_0, hx198_1⟩ := at_T35 HR2.out x14_2 p198 q198
                      have hw198_1 := hx198_1
                      have hw198_0 := hx198_0
                      obtain rfl : ad193 = ad198 := (by injection e198)
                      replace hx198_0 := (HB.out.cell (World.block_lt_of_cell? w _ hx198_0)).trans hx198_0
                      replace hx198_1 := (HB.out.cell (World.block_lt_of_cell? w _ hx198_1)).trans hx198_1
                      replace p198 := eq_true p198
                      replace q198 := eq_true q198
                      refine start_ (n := 10) (S := fun w' => w'.cell? ⟨gb192, 0, none⟩ = some (.int .i64 x193000_2) ∧ w'.cell? ⟨gb192, 1, none⟩ = some (.int .i64 x193001_2) ∧ w'.cell? ⟨gb192, 2, none⟩ = some (.int .i64 x193002_2) ∧ w'.cell? (ad193.add ((x14_2).toNat * 2)) = some (.int .i16 ((rd_T35 l2 x14_2).f0)) ∧ w'.cell? ⟨(ad193.add ((x14_2).toNat * 2)).block, (ad193.add ((x14_2).toNat * 2)).off + 1, none⟩ = some (.int .u8 ((rd_T35 l2 x14_2).f1))) (ds := [9]) #[false, false, false, false, false, false, false, false, false, false] (by kernel_rfl) rfl rfl ⟨(blk_cell BK192.out 0).trans rfl, (blk_cell BK192.out 1).trans rfl, (blk_cell BK192.out 2).trans rfl, ((HB.out.cell (World.block_lt_of_cell? w _ hw198_0)).trans hw198_0), ((HB.out.cell (World.block_lt_of_cell? w _ hw198_1)).trans hw198_1)⟩ (fun hHeld => ?_); refine with_tabW ambidexterlaw24_EncoderAgeCounts.tab15 ambidexterlaw24_EncoderAgeCounts.bits15 (fun HT_ HW_ => ?_)
                      generalize w51.drew = w52 at BK186 BK187 BK191 BK192 HB hx198_0 hx198_1 hHeld ⊢
                      refine pure_ (i := 1) (N := some 69) (v := ?_) (a' := ?_) #[false, true, false, false, false, false, false, false, false, false] rfl rfl (any_of HT_.out (by kernel_rfl)) (fun _ _ _ h => h) (Or.inl ⟨by rfl, ?_⟩) ?_ ?_
                      rotate_left
                      · intro w'
                        go_simp
                        with_reducible rfl
                      rotate_left
                      · simp only [Act.put, List.setIfInBounds_toArray, List.set_cons_zero, List.set_cons_succ, i64_w, i32_w]
                        rfl
                      refine pure_ (i := 2) (N := some 70) (v := ?_) (a' := ?_) #[false, true, true, false, false, false, false, false, false, false] rfl rfl (any_of HT_.out (by kernel_rfl)) (fun _ _ _ h => h) (Or.inl ⟨by rfl, ?_⟩) ?_ ?_
                      rotate_left
                      · intro w'
                        go_simp
                        with_reducible rfl
                      rotate_left
                      · simp only [Act.put, List.setIfInBounds_toArray, List.set_cons_zero, List.set_cons_succ, i64_w, i32_w]
                        rfl
                      refine pure_ (i := 3) (N := some 71) (v := ?_) (a' := ?_) #[false, true, true, true, false, false, false, false, false, false] rfl rfl (any_of HT_.out (by kernel_rfl)) (fun _ _ _ h => h) (Or.inl ⟨by rfl, ?_⟩) ?_ ?_
                      rotate_left
                      · intro w'
                        go_simp
                        with_reducible rfl
                      rotate_left
                      · simp only [Act.put, List.setIfInBounds_toArray, List.set_cons_zero, List.set_cons_succ, i64_w, i32_w]
                        rfl
                      refine pure_ (i := 4) (N := some 72) (v := ?_) (a' := ?_) #[false, true, true, true, true, false, false, false, false, false] rfl rfl (any_of HT_.out (by kernel_rfl)) (fun _ _ _ h => h) (Or.inl ⟨by rfl, ?_⟩) ?_ ?_
                      rotate_left
                      · intro w'
                        go_simp
                        with_reducible rfl
                      rotate_left
                      · simp only [Act.put, List.setIfInBounds_toArray, List.set_cons_zero, List.set_cons_succ, i64_w, i32_w]
                        rfl
                      refine pure_ (i := 7) (N := some 75) (v := ?_) (a' := ?_) #[false, true, true, true, true, false, false, true, false, false] rfl rfl (any_of HT_.out (by kernel_rfl)) (fun _ _ _ h => h) (Or.inl ⟨by rfl, ?_⟩) ?_ ?_
                      rotate_left
                      · intro w'
                        go_simp
                        with_reducible rfl
                      rotate_left
                      · simp only [Act.put, List.setIfInBounds_toArray, List.set_cons_zero, List.set_cons_succ, i64_w, i32_w]
                        rfl
                      refine take_ (i := 0) (N := some 68) (v := ?_) (a' := ?_) #[true, true, true, true, true, false, false, true, false, false] rfl rfl (take_ofW HT_.out HW_.out (by kernel_rfl)) (fun _ _ _ h => h) (Or.inl ⟨by rfl, ?_⟩) hHeld ?_ ?_
                      rotate_left
                      · rintro w' ⟨s0, s1, s2, s3, s4⟩
                        go_simp
                        with_reducible rfl
                      rotate_left
                      · simp only [Act.put, List.setIfInBounds_toArray, List.set_cons_zero, List.set_cons_succ, i64_w, i32_w]
                        rfl
                      refine take_ (i := 5) (N := some 73) (v := ?_) (a' := ?_) #[true, true, true, true, true, true, false, true, false, false] rfl rfl (take_ofW HT_.out HW_.out (by kernel_rfl)) (fun _ _ _ h => h) (Or.inl ⟨by rfl, ?_⟩) hHeld ?_ ?_
                      rotate_left
                      · rintro w' ⟨s0, s1, s2, s3, s4⟩
                        go_simp
                        with_reducible rfl
                      rotate_left
                      · simp only [Act.put, List.setIfInBounds_toArray, List.set_cons_zero, List.set_cons_succ, i64_w, i32_w]
                        rfl
                      refine pure_ (i := 6) (N := some 74) (v := ?_) (a' := ?_) #[true, true, true, true, true, true, true, true, false, false] rfl rfl (any_of HT_.out (by kernel_rfl)) (fun _ _ _ h => h) (Or.inl ⟨by rfl, ?_⟩) ?_ ?_
                      rotate_left
                      · intro w'
                        go_simp
                        with_reducible rfl
                      rotate_left
                      · simp only [Act.put, List.setIfInBounds_toArray, List.set_cons_zero, List.set_cons_succ, i64_w, i32_w]
                        rfl
                      refine one_ (i := 8) (N := some 76) #[true, true, true, true, true, true, true, true, true, false] rfl rfl (one_of HT_.out (by kernel_rfl)) (by decide) (fun K hK => ?_)
                      refine goes_ Try.func21 (by kernel_rfl) rfl #[.agg #[.int .i64 x193000_2, .int .i64 x193001_2, .int .i64 x193002_2], .int .i64 (wrap64 ((rd_T35 l2 x14_2).f1)), .int .i64 (wrap64 ((rd_T35 l2 x14_2).f0))] (by rfl) rfl rfl (by (try simp only [List.map_toArray, List.map_cons, List.map_nil]); first | done | rfl | (simp only [List.length_drop, List.length_take]; rfl)) ?_
                      with_reducible refine (encoder_Observe.calls x193000_2 x193001_2 x193002_2 (wrap64 ((rd_T35 l2 x14_2).f1)) (wrap64 ((rd_T35 l2 x14_2).f0)) t199 t200 t201 _ A42.out).mono ?_
                      rintro e w53 ⟨rfl, hb⟩
                      refine ⟨_, rfl, ?_⟩
                      have n0_ := Aside0.mk (blk_below (g := gb186) (o := .cells #[.int .i64 a0_0, .int .i64 a0_1, .int .i64 a0_2] 23 (0, 0)) (by (with_reducible repeat (first | refine blk_drewN ?_ _ | refine blk_drew ?_ | refine blk_alloc ?_ _)); exact BK186.out) hb)
                      have n1_ := Aside0.mk (blk_below (g := gb187) (o := .cells #[.int .i64 a1_0, .int .i64 a1_1, .int .i64 a1_2] 23 (0, 0)) (by (with_reducible repeat (first | refine blk_drewN ?_ _ | refine blk_drew ?_ | refine blk_alloc ?_ _)); exact BK187.out) hb)
                      have n2_ := Aside0.mk (blk_below (g := gb191) (o := .cells #[.int .i64 t195, .int .i64 t196, .int .i64 t197] 23 (0, 0)) (by (with_reducible repeat (first | refine blk_drewN ?_ _ | refine blk_drew ?_ | refine blk_alloc ?_ _)); exact BK191.out) hb)
                      have n3_ := Aside0.mk (blk_below (g := gb192) (o := .cells #[.int .i64 x193000_2, .int .i64 x193001_2, .int .i64 x193002_2] 23 (0, 0)) (by (with_reducible repeat (first | refine blk_drewN ?_ _ | refine blk_drew ?_ | refine blk_alloc ?_ _)); exact BK192.out) hb)
                      have n4_ := Aside0.mk (below_step (by repeat (first | (with_reducible first | exact HB.out | apply below_alloc | apply pw_below_drewN | apply below_drew1 | refine below_set ?_ GE186.out | refine below_set ?_ GE187.out | refine below_set ?_ GE191.out | refine below_set ?_ GE192.out) | exact HB.out)) hb)
                      clear BK186
                      clear BK187
                      clear BK191
                      clear BK192
                      clear HB
                      have BK186 := n0_
                      have BK187 := n1_
                      have BK191 := n2_
                      have BK192 := n3_
                      have HB := n4_
                      clear n0_ n1_ n2_ n3_ n4_
                      (try clear hb)
                      (try clear hb2)
                      (try clear hk)
                      (try clear hi)
                      refine hK.out _ _ ⟨(blk_cell BK192.out 0).trans rfl, (blk_cell BK192.out 1).trans rfl, (blk_cell BK192.out 2).trans rfl, ((HB.out.cell (World.block_lt_of_cell? w _ hw198_0)).trans hw198_0), ((HB.out.cell (World.block_lt_of_cell? w _ hw198_1)).trans hw198_1)⟩ (fun hHeld => ?_)
                      clear hK K
                      refine norm_ (a' := ?_) ?_ ?_
                      rotate_left
                      · show Act.put _ (some 76) _ = _
                        simp only [Act.put, List.setIfInBounds_toArray, List.set_cons_zero, List.set_cons_succ, i64_w, i32_w]
                        rfl
                      refine last_ (i := 9) (N := none) #[true, true, true, true, true, true, true, true, true, true] rfl rfl (one_of HT_.out (by kernel_rfl)) (by decide) (fun K hK => ?_)
                      have hs54 : w53.cell? ⟨gb192, 0, none⟩ = some (.int .i64 x193000_2) := (blk_cell BK192.out 0).trans rfl
                      have hfs54 := blk_frozen BK192.out 0
                      have hns54_0 := NB186_192.out
                      have hns54_1 := NB187_192.out
                      have hns54_2 := NB191_192.out
                      have hms54_0 := NB192_186.out
                      have hms54_1 := NB192_187.out
                      have hms54_2 := NB192_191.out
                      have hs55 : w53.cell? ⟨gb192, 1, none⟩ = some (.int .i64 x193001_2) := (blk_cell BK192.out 1).trans rfl
                      have hfs55 := blk_frozen BK192.out 1
                      have hns55_0 := NB186_192.out
                      have hns55_1 := NB187_192.out
                      have hns55_2 := NB191_192.out
                      have hms55_0 := NB192_186.out
                      have hms55_1 := NB192_187.out
                      have hms55_2 := NB192_191.out
                      have hs56 : w53.cell? ⟨gb192, 2, none⟩ = some (.int .i64 x193002_2) := (blk_cell BK192.out 2).trans rfl
                      have hfs56 := blk_frozen BK192.out 2
                      have hns56_0 := NB186_192.out
                      have hns56_1 := NB187_192.out
                      have hns56_2 := NB191_192.out
                      have hms56_0 := NB192_186.out
                      have hms56_1 := NB192_187.out
                      have hms56_2 := NB192_191.out
                      refine skip_ (w1 := ?_) (by rfl) rfl ?_ ?_
                      rotate_left
                      · go_simp
                        rfl
                      refine hK.out _ _ ?_
                      clear hK K
                      refine done_ (done_of HT_.out (by kernel_rfl)) ?_
                      have p202 : 0 ≤ (x14_2 : Int) := of_decide_eq_true (by first | (with_reducible assumption) | assumption)
                      have q202 : x14_2 < (l2.length : Int) := of_decide_eq_true (by first | (with_reducible assumption) | assumption)
                      obtain ⟨ad202, e202, hx202_0, hx202_1⟩ := at_T35 HR2.out x14_2 p202 q202
                      obtain rfl : ad193 = ad202 := (by injection e202)
                      have hn202_0 : ad193.block ≠ gb192 := Nat.ne_of_lt (Nat.lt_of_lt_of_le (by have := World.block_lt_of_cell? _ _ hx202_0; first | rwa [add_block] at this | exact this) GW192.out)
                      have hn202_1 : ad193.block ≠ gb192 := Nat.ne_of_lt (Nat.lt_of_lt_of_le (by have := World.block_lt_of_cell? _ _ hx202_0; first | rwa [add_block] at this | exact this) GW192.out)
                      have hn202_2 : ad193.block ≠ gb192 := Nat.ne_of_lt (Nat.lt_of_lt_of_le (by have := World.block_lt_of_cell? _ _ hx202_0; first | rwa [add_block] at this | exact this) GW192.out)
                      replace hx202_0 := (HB.out.cell (World.block_lt_of_cell? w _ hx202_0)).trans hx202_0
                      replace hx202_1 := (HB.out.cell (World.block_lt_of_cell? w _ hx202_1)).trans hx202_1
                      replace hx202_0 := (cell_far (p := ⟨gb192, 0, none⟩) (by first | (rw [add_block]; exact hn202_0) | (show (Addr.add _ _).block ≠ _; rw [add_block]; exact hn202_0) | exact hn202_0) (.int .i64 t199)).trans hx202_0
                      replace hx202_1 := (cell_far (p := ⟨gb192, 0, none⟩) (by first | (rw [add_block]; exact hn202_0) | (show (Addr.add _ _).block ≠ _; rw [add_block]; exact hn202_0) | exact hn202_0) (.int .i64 t199)).trans hx202_1
                      replace hx202_0 := (cell_far (p := ⟨gb192, 1, none⟩) (by first | (rw [add_block]; exact hn202_1) | (show (Addr.add _ _).block ≠ _; rw [add_block]; exact hn202_1) | exact hn202_1) (.int .i64 t200)).trans hx202_0
                      replace hx202_1 := (cell_far (p := ⟨gb192, 1, none⟩) (by first | (rw [add_block]; exact hn202_1) | (show (Addr.add _ _).block ≠ _; rw [add_block]; exact hn202_1) | exact hn202_1) (.int .i64 t200)).trans hx202_1
                      replace hx202_0 := (cell_far (p := ⟨gb192, 2, none⟩) (by first | (rw [add_block]; exact hn202_2) | (show (Addr.add _ _).block ≠ _; rw [add_block]; exact hn202_2) | exact hn202_2) (.int .i64 t201)).trans hx202_0
                      replace hx202_1 := (cell_far (p := ⟨gb192, 2, none⟩) (by first | (rw [add_block]; exact hn202_2) | (show (Addr.add _ _).block ≠ _; rw [add_block]; exact hn202_2) | exact hn202_2) (.int .i64 t201)).trans hx202_1
                      clear hn202_0
                      clear hn202_1
                      clear hn202_2
                      replace p202 := eq_true p202
                      replace q202 := eq_true q202
                      have hnb57 := NB191_186.out
                      have hnc57 := NB186_191.out
                      have hnb58 := NB191_187.out
                      have hnc58 := NB187_191.out
                      have hnb59 := NB191_192.out
                      have hnc59 := NB192_191.out
                      have hcz60_0 : w53.cell? ⟨gb191, 0, none⟩ = some (.int .i64 t195) := (blk_cell BK191.out 0).trans rfl
                      have hcz60_1 : w53.cell? ⟨gb191, 1, none⟩ = some (.int .i64 t196) := (blk_cell BK191.out 1).trans rfl
                      have hcz60_2 : w53.cell? ⟨gb191, 2, none⟩ = some (.int .i64 t197) := (blk_cell BK191.out 2).trans rfl
                      have hfz60_0 := blk_frozen BK191.out 0
                      have hfz60_1 := blk_frozen BK191.out 1
                      have hfz60_2 := blk_frozen BK191.out 2
                      have hnb61 := NB192_186.out
                      have hnc61 := NB186_192.out
                      have hnb62 := NB192_187.out
                      have hnc62 := NB187_192.out
                      have hcz63_0 : w53.cell? ⟨gb192, 0, none⟩ = some (.int .i64 x193000_2) := (blk_cell BK192.out 0).trans rfl
                      have hcz63_1 : w53.cell? ⟨gb192, 1, none⟩ = some (.int .i64 x193001_2) := (blk_cell BK192.out 1).trans rfl
                      have hcz63_2 : w53.cell? ⟨gb192, 2, none⟩ = some (.int .i64 x193002_2) := (blk_cell BK192.out 2).trans rfl
                      have hfz63_0 := blk_frozen BK192.out 0
                      have hfz63_1 := blk_frozen BK192.out 1
                      have hfz63_2 := blk_frozen BK192.out 2
                      try go_wp2
                      go_roundg k2
                      case measure => have := HJ6.out; have := HK2.out; omega
                      case rel => exact ⟨(0), (true), (wrap64 (x14_2 + 1)), (t195), (t196), (t197), (t199), (t200), (t201), (by first | rfl | (simp; done) | (simp [*]; done)), (by first | rfl | (simp; done) | (simp [*]; done)), (by first | rfl | (simp; done) | (simp [*]; done)), H', ⟨by have := HJ6.out; have := HK2.out; omega⟩, ⟨by (with_reducible repeat (first | refine blk_drewN ?_ _ | refine blk_drew ?_ | refine blk_alloc ?_ _)); refine blk_far ?_ NB186_192.out _; (with_reducible repeat (first | refine blk_drewN ?_ _ | refine blk_drew ?_ | refine blk_alloc ?_ _)); refine blk_far ?_ NB186_192.out _; (with_reducible repeat (first | refine blk_drewN ?_ _ | refine blk_drew ?_ | refine blk_alloc ?_ _)); refine blk_far ?_ NB186_192.out _; (with_reducible repeat (first | refine blk_drewN ?_ _ | refine blk_drew ?_ | refine blk_alloc ?_ _)); exact BK186.out⟩, ⟨by (with_reducible repeat (first | refine blk_drewN ?_ _ | refine blk_drew ?_ | refine blk_alloc ?_ _)); refine blk_far ?_ NB187_192.out _; (with_reducible repeat (first | refine blk_drewN ?_ _ | refine blk_drew ?_ | refine blk_alloc ?_ _)); refine blk_far ?_ NB187_192.out _; (with_reducible repeat (first | refine blk_drewN ?_ _ | refine blk_drew ?_ | refine blk_alloc ?_ _)); refine blk_far ?_ NB187_192.out _; (with_reducible repeat (first | refine blk_drewN ?_ _ | refine blk_drew ?_ | refine blk_alloc ?_ _)); exact BK187.out⟩, ⟨by (with_reducible repeat (first | refine blk_drewN ?_ _ | refine blk_drew ?_ | refine blk_alloc ?_ _)); refine blk_far ?_ NB191_192.out _; (with_reducible repeat (first | refine blk_drewN ?_ _ | refine blk_drew ?_ | refine blk_alloc ?_ _)); refine blk_far ?_ NB191_192.out _; (with_reducible repeat (first | refine blk_drewN ?_ _ | refine blk_drew ?_ | refine blk_alloc ?_ _)); refine blk_far ?_ NB191_192.out _; (with_reducible repeat (first | refine blk_drewN ?_ _ | refine blk_drew ?_ | refine blk_alloc ?_ _)); exact BK191.out⟩, ⟨by (with_reducible repeat (first | refine blk_drewN ?_ _ | refine blk_drew ?_ | refine blk_alloc ?_ _)); refine blk_put (cs := #[.int .i64 t199, .int .i64 t200, .int .i64 x193002_2]) ?_ 2 _ rfl; (with_reducible repeat (first | refine blk_drewN ?_ _ | refine blk_drew ?_ | refine blk_alloc ?_ _)); refine blk_put (cs := #[.int .i64 t199, .int .i64 x193001_2, .int .i64 x193002_2]) ?_ 1 _ rfl; (with_reducible repeat (first | refine blk_drewN ?_ _ | refine blk_drew ?_ | refine blk_alloc ?_ _)); refine blk_put (cs := #[.int .i64 x193000_2, .int .i64 x193001_2, .int .i64 x193002_2]) ?_ 0 _ rfl; (with_reducible repeat (first | refine blk_drewN ?_ _ | refine blk_drew ?_ | refine blk_alloc ?_ _)); exact BK192.out⟩, ⟨by repeat (first | (with_reducible first | exact HB.out | apply below_alloc | apply pw_below_drewN | apply below_drew1 | refine below_set ?_ GE186.out | refine below_set ?_ GE187.out | refine below_set ?_ GE191.out | refine below_set ?_ GE192.out) | exact HB.out)⟩⟩
                  · rw [if_neg c44] at H
                    have c44b0 : (t197 == 0) = false := beq_eq_false_iff_ne.mpr c44
                    have c44b1 : (t197 != 0) = true := bne_iff_ne.mpr c44
                    exact absurd HT.out (by rw [← Option.some.inj H]; decide)
                · rw [if_neg c43] at H
                  have c43b0 : (((rd_T35 l2 x14_2).f1) == 1) = false := beq_eq_false_iff_ne.mpr c43
                  have c43b1 : (((rd_T35 l2 x14_2).f1) != 1) = true := bne_iff_ne.mpr c43
                  by_cases c64 : t197 = (wrap64 (x12_2 + 1))
                  · rw [if_pos c64] at H
                    have c64b0 : (t197 == (wrap64 (x12_2 + 1))) = true := beq_iff_eq.mpr c64
                    have c64b1 : (t197 != (wrap64 (x12_2 + 1))) = false := bne_eq_false_iff_eq.mpr c64
                    clear c64
                    by_cases c65 : x13_2 = true
                    · subst c65
                      have H1 : (if (!(t195 == t199) || (!(t196 == t200) || (!(t197 == t201)))) = true then (some false) else (ambidexterlaw24_EncoderAgeCounts.l0 k2 l2 true (wrap64 (x12_2 + 1)) true (wrap64 (x14_2 + 1)) a0_0 a0_1 a0_2 t195 t196 t197 t199 t200 t201)) = some r := by rw [if_pos rfl] at H; exact H
                      clear H
                      have H := H1
                      clear H1
                      by_cases c66 : (!(t195 == t199) || (!(t196 == t200) || (!(t197 == t201)))) = true
                      · rw [if_pos c66] at H
                        have c66b0 : (!(t195 == t199) || (!(t196 == t200) || (!(t197 == t201)))) = true := c66
                        clear c66
                        exact absurd HT.out (by rw [← Option.some.inj H]; decide)
                      · rw [if_neg c66] at H
                        have c66b0 : (!(t195 == t199) || (!(t196 == t200) || (!(t197 == t201)))) = false := by simpa using c66
                        clear c66
                        have H' := Aside0.mk H
                        clear H
                        have p193 : 0 ≤ (x14_2 : Int) := of_decide_eq_true (by first | (with_reducible assumption) | assumption)
                        have q193 : x14_2 < (l2.length : Int) := of_decide_eq_true (by first | (with_reducible assumption) | assumption)
                        obtain ⟨ad193, e193, hx193_0, hx193_1⟩ := at_T35 HR2.out x14_2 p193 q193
                        cases e193
                        replace hx193_0 := (HB.out.cell (World.block_lt_of_cell? w _ hx193_0)).trans hx193_0
                        replace hx193_1 := (HB.out.cell (World.block_lt_of_cell? w _ hx193_1)).trans hx193_1
                        replace p193 := eq_true p193
                        replace q193 := eq_true q193
                        try go_wp2
                        have n0_ := Aside0.mk (blk_drew BK186.out)
                        have n1_ := Aside0.mk (blk_drew BK187.out)
                        have n2_ := Aside0.mk (blk_drew BK191.out)
                        have n3_ := Aside0.mk (blk_drew BK192.out)
                        have n4_ := Aside0.mk (below_drew1 HB.out)
                        clear BK186
                        clear BK187
                        clear BK191
                        clear BK192
                        clear HB
                        have BK186 := n0_
                        have BK187 := n1_
                        have BK191 := n2_
                        have BK192 := n3_
                        have HB := n4_
                        clear n0_ n1_ n2_ n3_ n4_
                        have p194 : 0 ≤ (x14_2 : Int) := of_decide_eq_true (by first | (with_reducible assumption) | assumption)
                        have q194 : x14_2 < (l2.length : Int) := of_decide_eq_true (by first | (with_reducible assumption) | assumption)
                        obtain ⟨ad194, e194, hx194_0, hx194_1⟩ := at_T35 HR2.out x14_2 p194 q194
                        have hw194_1 := hx194_1
                        have hw194_0 := hx194_0
                        obtain rfl : ad193 = ad194 := (by injection e194)
                        replace hx194_0 := (HB.out.cell (World.block_lt_of_cell? w _ hx194_0)).trans hx194_0
                        replace hx194_1 := (HB.out.cell (World.block_lt_of_cell? w _ hx194_1)).trans hx194_1
                        replace p194 := eq_true p194
                        replace q194 := eq_true q194
                        refine start_ (n := 10) (S := fun w' => w'.cell? ⟨gb191, 0, none⟩ = some (.int .i64 x192000_2) ∧ w'.cell? ⟨gb191, 1, none⟩ = some (.int .i64 x192001_2) ∧ w'.cell? ⟨gb191, 2, none⟩ = some (.int .i64 x192002_2) ∧ w'.cell? (ad193.add ((x14_2).toNat * 2)) = some (.int .i16 ((rd_T35 l2 x14_2).f0)) ∧ w'.cell? ⟨(ad193.add ((x14_2).toNat * 2)).block, (ad193.add ((x14_2).toNat * 2)).off + 1, none⟩ = some (.int .u8 ((rd_T35 l2 x14_2).f1))) (ds := [9]) #[false, false, false, false, false, false, false, false, false, false] (by kernel_rfl) rfl rfl ⟨(blk_cell BK191.out 0).trans rfl, (blk_cell BK191.out 1).trans rfl, (blk_cell BK191.out 2).trans rfl, ((HB.out.cell (World.block_lt_of_cell? w _ hw194_0)).trans hw194_0), ((HB.out.cell (World.block_lt_of_cell? w _ hw194_1)).trans hw194_1)⟩ (fun hHeld => ?_); refine with_tabW ambidexterlaw24_EncoderAgeCounts.tab14 ambidexterlaw24_EncoderAgeCounts.bits14 (fun HT_ HW_ => ?_)
                        generalize wr.drew = w67 at BK186 BK187 BK191 BK192 HB hx194_0 hx194_1 hHeld ⊢
                        refine pure_ (i := 1) (N := some 60) (v := ?_) (a' := ?_) #[false, true, false, false, false, false, false, false, false, false] rfl rfl (any_of HT_.out (by kernel_rfl)) (fun _ _ _ h => h) (Or.inl ⟨by rfl, ?_⟩) ?_ ?_
                        rotate_left
                        · intro w'
                          go_simp
                          with_reducible rfl
                        rotate_left
                        · simp only [Act.put, List.setIfInBounds_toArray, List.set_cons_zero, List.set_cons_succ, i64_w, i32_w]
                          rfl
                        refine pure_ (i := 2) (N := some 61) (v := ?_) (a' := ?_) #[false, true, true, false, false, false, false, false, false, false] rfl rfl (any_of HT_.out (by kernel_rfl)) (fun _ _ _ h => h) (Or.inl ⟨by rfl, ?_⟩) ?_ ?_
                        rotate_left
                        · intro w'
                          go_simp
                          with_reducible rfl
                        rotate_left
                        · simp only [Act.put, List.setIfInBounds_toArray, List.set_cons_zero, List.set_cons_succ, i64_w, i32_w]
                          rfl
                        refine pure_ (i := 3) (N := some 62) (v := ?_) (a' := ?_) #[false, true, true, true, false, false, false, false, false, false] rfl rfl (any_of HT_.out (by kernel_rfl)) (fun _ _ _ h => h) (Or.inl ⟨by rfl, ?_⟩) ?_ ?_
                        rotate_left
                        · intro w'
                          go_simp
                          with_reducible rfl
                        rotate_left
                        · simp only [Act.put, List.setIfInBounds_toArray, List.set_cons_zero, List.set_cons_succ, i64_w, i32_w]
                          rfl
                        refine pure_ (i := 4) (N := some 63) (v := ?_) (a' := ?_) #[false, true, true, true, true, false, false, false, false, false] rfl rfl (any_of HT_.out (by kernel_rfl)) (fun _ _ _ h => h) (Or.inl ⟨by rfl, ?_⟩) ?_ ?_
                        rotate_left
                        · intro w'
                          go_simp
                          with_reducible rfl
                        rotate_left
                        · simp only [Act.put, List.setIfInBounds_toArray, List.set_cons_zero, List.set_cons_succ, i64_w, i32_w]
                          rfl
                        refine pure_ (i := 7) (N := some 66) (v := ?_) (a' := ?_) #[false, true, true, true, true, false, false, true, false, false] rfl rfl (any_of HT_.out (by kernel_rfl)) (fun _ _ _ h => h) (Or.inl ⟨by rfl, ?_⟩) ?_ ?_
                        rotate_left
                        · intro w'
                          go_simp
                          with_reducible rfl
                        rotate_left
                        · simp only [Act.put, List.setIfInBounds_toArray, List.set_cons_zero, List.set_cons_succ, i64_w, i32_w]
                          rfl
                        refine take_ (i := 0) (N := some 59) (v := ?_) (a' := ?_) #[true, true, true, true, true, false, false, true, false, false] rfl rfl (take_ofW HT_.out HW_.out (by kernel_rfl)) (fun _ _ _ h => h) (Or.inl ⟨by rfl, ?_⟩) hHeld ?_ ?_
                        rotate_left
                        · rintro w' ⟨s0, s1, s2, s3, s4⟩
                          go_simp
                          with_reducible rfl
                        rotate_left
                        · simp only [Act.put, List.setIfInBounds_toArray, List.set_cons_zero, List.set_cons_succ, i64_w, i32_w]
                          rfl
                        refine take_ (i := 5) (N := some 64) (v := ?_) (a' := ?_) #[true, true, true, true, true, true, false, true, false, false] rfl rfl (take_ofW HT_.out HW_.out (by kernel_rfl)) (fun _ _ _ h => h) (Or.inl ⟨by rfl, ?_⟩) hHeld ?_ ?_
                        rotate_left
                        · rintro w' ⟨s0, s1, s2, s3, s4⟩
                          go_simp
                          with_reducible rfl
                        rotate_left
                        · simp only [Act.put, List.setIfInBounds_toArray, List.set_cons_zero, List.set_cons_succ, i64_w, i32_w]
                          rfl
                        refine pure_ (i := 6) (N := some 65) (v := ?_) (a' := ?_) #[true, true, true, true, true, true, true, true, false, false] rfl rfl (any_of HT_.out (by kernel_rfl)) (fun _ _ _ h => h) (Or.inl ⟨by rfl, ?_⟩) ?_ ?_
                        rotate_left
                        · intro w'
                          go_simp
                          with_reducible rfl
                        rotate_left
                        · simp only [Act.put, List.setIfInBounds_toArray, List.set_cons_zero, List.set_cons_succ, i64_w, i32_w]
                          rfl
                        refine one_ (i := 8) (N := some 67) #[true, true, true, true, true, true, true, true, true, false] rfl rfl (one_of HT_.out (by kernel_rfl)) (by decide) (fun K hK => ?_)
                        refine goes_ Try.func21 (by kernel_rfl) rfl #[.agg #[.int .i64 x192000_2, .int .i64 x192001_2, .int .i64 x192002_2], .int .i64 (wrap64 ((rd_T35 l2 x14_2).f1)), .int .i64 (wrap64 ((rd_T35 l2 x14_2).f0))] (by rfl) rfl rfl (by (try simp only [List.map_toArray, List.map_cons, List.map_nil]); first | done | rfl | (simp only [List.length_drop, List.length_take]; rfl)) ?_
                        with_reducible refine (encoder_Observe.calls x192000_2 x192001_2 x192002_2 (wrap64 ((rd_T35 l2 x14_2).f1)) (wrap64 ((rd_T35 l2 x14_2).f0)) t195 t196 t197 _ A41.out).mono ?_
                        rintro e w68 ⟨rfl, hb⟩
                        refine ⟨_, rfl, ?_⟩
                        have n0_ := Aside0.mk (blk_below (g := gb186) (o := .cells #[.int .i64 a0_0, .int .i64 a0_1, .int .i64 a0_2] 23 (0, 0)) (by (with_reducible repeat (first | refine blk_drewN ?_ _ | refine blk_drew ?_ | refine blk_alloc ?_ _)); exact BK186.out) hb)
                        have n1_ := Aside0.mk (blk_below (g := gb187) (o := .cells #[.int .i64 a1_0, .int .i64 a1_1, .int .i64 a1_2] 23 (0, 0)) (by (with_reducible repeat (first | refine blk_drewN ?_ _ | refine blk_drew ?_ | refine blk_alloc ?_ _)); exact BK187.out) hb)
                        have n2_ := Aside0.mk (blk_below (g := gb191) (o := .cells #[.int .i64 x192000_2, .int .i64 x192001_2, .int .i64 x192002_2] 23 (0, 0)) (by (with_reducible repeat (first | refine blk_drewN ?_ _ | refine blk_drew ?_ | refine blk_alloc ?_ _)); exact BK191.out) hb)
                        have n3_ := Aside0.mk (blk_below (g := gb192) (o := .cells #[.int .i64 x193000_2, .int .i64 x193001_2, .int .i64 x193002_2] 23 (0, 0)) (by (with_reducible repeat (first | refine blk_drewN ?_ _ | refine blk_drew ?_ | refine blk_alloc ?_ _)); exact BK192.out) hb)
                        have n4_ := Aside0.mk (below_step (by repeat (first | (with_reducible first | exact HB.out | apply below_alloc | apply pw_below_drewN | apply below_drew1 | refine below_set ?_ GE186.out | refine below_set ?_ GE187.out | refine below_set ?_ GE191.out | refine below_set ?_ GE192.out) | exact HB.out)) hb)
                        clear BK186
                        clear BK187
                        clear BK191
                        clear BK192
                        clear HB
                        have BK186 := n0_
                        have BK187 := n1_
                        have BK191 := n2_
                        have BK192 := n3_
                        have HB := n4_
                        clear n0_ n1_ n2_ n3_ n4_
                        (try clear hb)
                        (try clear hb2)
                        (try clear hk)
                        (try clear hi)
                        refine hK.out _ _ ⟨(blk_cell BK191.out 0).trans rfl, (blk_cell BK191.out 1).trans rfl, (blk_cell BK191.out 2).trans rfl, ((HB.out.cell (World.block_lt_of_cell? w _ hw194_0)).trans hw194_0), ((HB.out.cell (World.block_lt_of_cell? w _ hw194_1)).trans hw194_1)⟩ (fun hHeld => ?_)
                        clear hK K
                        refine norm_ (a' := ?_) ?_ ?_
                        rotate_left
                        · show Act.put _ (some 67) _ = _
                          simp only [Act.put, List.setIfInBounds_toArray, List.set_cons_zero, List.set_cons_succ, i64_w, i32_w]
                          rfl
                        refine last_ (i := 9) (N := none) #[true, true, true, true, true, true, true, true, true, true] rfl rfl (one_of HT_.out (by kernel_rfl)) (by decide) (fun K hK => ?_)
                        have hs69 : w68.cell? ⟨gb191, 0, none⟩ = some (.int .i64 x192000_2) := (blk_cell BK191.out 0).trans rfl
                        have hfs69 := blk_frozen BK191.out 0
                        have hns69_0 := NB186_191.out
                        have hns69_1 := NB187_191.out
                        have hns69_3 := NB192_191.out
                        have hms69_0 := NB191_186.out
                        have hms69_1 := NB191_187.out
                        have hms69_3 := NB191_192.out
                        have hs70 : w68.cell? ⟨gb191, 1, none⟩ = some (.int .i64 x192001_2) := (blk_cell BK191.out 1).trans rfl
                        have hfs70 := blk_frozen BK191.out 1
                        have hns70_0 := NB186_191.out
                        have hns70_1 := NB187_191.out
                        have hns70_3 := NB192_191.out
                        have hms70_0 := NB191_186.out
                        have hms70_1 := NB191_187.out
                        have hms70_3 := NB191_192.out
                        have hs71 : w68.cell? ⟨gb191, 2, none⟩ = some (.int .i64 x192002_2) := (blk_cell BK191.out 2).trans rfl
                        have hfs71 := blk_frozen BK191.out 2
                        have hns71_0 := NB186_191.out
                        have hns71_1 := NB187_191.out
                        have hns71_3 := NB192_191.out
                        have hms71_0 := NB191_186.out
                        have hms71_1 := NB191_187.out
                        have hms71_3 := NB191_192.out
                        refine skip_ (w1 := ?_) (by rfl) rfl ?_ ?_
                        rotate_left
                        · go_simp
                          rfl
                        refine hK.out _ _ ?_
                        clear hK K
                        refine done_ (done_of HT_.out (by kernel_rfl)) ?_
                        try go_wp2
                        have n0_ : Aside0 ((((w68.setCell ⟨gb191, 0, none⟩ (.int .i64 t195)).setCell ⟨gb191, 1, none⟩ (.int .i64 t196)).setCell ⟨gb191, 2, none⟩ (.int .i64 t197)).heap[gb186]? = some (.cells #[.int .i64 a0_0, .int .i64 a0_1, .int .i64 a0_2] 23 (0, 0))) := ⟨by (with_reducible repeat (first | refine blk_drewN ?_ _ | refine blk_drew ?_ | refine blk_alloc ?_ _)); refine blk_far ?_ NB186_191.out _; (with_reducible repeat (first | refine blk_drewN ?_ _ | refine blk_drew ?_ | refine blk_alloc ?_ _)); refine blk_far ?_ NB186_191.out _; (with_reducible repeat (first | refine blk_drewN ?_ _ | refine blk_drew ?_ | refine blk_alloc ?_ _)); refine blk_far ?_ NB186_191.out _; (with_reducible repeat (first | refine blk_drewN ?_ _ | refine blk_drew ?_ | refine blk_alloc ?_ _)); exact BK186.out⟩
                        have n1_ : Aside0 ((((w68.setCell ⟨gb191, 0, none⟩ (.int .i64 t195)).setCell ⟨gb191, 1, none⟩ (.int .i64 t196)).setCell ⟨gb191, 2, none⟩ (.int .i64 t197)).heap[gb187]? = some (.cells #[.int .i64 a1_0, .int .i64 a1_1, .int .i64 a1_2] 23 (0, 0))) := ⟨by (with_reducible repeat (first | refine blk_drewN ?_ _ | refine blk_drew ?_ | refine blk_alloc ?_ _)); refine blk_far ?_ NB187_191.out _; (with_reducible repeat (first | refine blk_drewN ?_ _ | refine blk_drew ?_ | refine blk_alloc ?_ _)); refine blk_far ?_ NB187_191.out _; (with_reducible repeat (first | refine blk_drewN ?_ _ | refine blk_drew ?_ | refine blk_alloc ?_ _)); refine blk_far ?_ NB187_191.out _; (with_reducible repeat (first | refine blk_drewN ?_ _ | refine blk_drew ?_ | refine blk_alloc ?_ _)); exact BK187.out⟩
                        have n2_ : Aside0 ((((w68.setCell ⟨gb191, 0, none⟩ (.int .i64 t195)).setCell ⟨gb191, 1, none⟩ (.int .i64 t196)).setCell ⟨gb191, 2, none⟩ (.int .i64 t197)).heap[gb191]? = some (.cells #[.int .i64 t195, .int .i64 t196, .int .i64 t197] 23 (0, 0))) := ⟨by (with_reducible repeat (first | refine blk_drewN ?_ _ | refine blk_drew ?_ | refine blk_alloc ?_ _)); refine blk_put (cs := #[.int .i64 t195, .int .i64 t196, .int .i64 x192002_2]) ?_ 2 _ rfl; (with_reducible repeat (first | refine blk_drewN ?_ _ | refine blk_drew ?_ | refine blk_alloc ?_ _)); refine blk_put (cs := #[.int .i64 t195, .int .i64 x192001_2, .int .i64 x192002_2]) ?_ 1 _ rfl; (with_reducible repeat (first | refine blk_drewN ?_ _ | refine blk_drew ?_ | refine blk_alloc ?_ _)); refine blk_put (cs := #[.int .i64 x192000_2, .int .i64 x192001_2, .int .i64 x192002_2]) ?_ 0 _ rfl; (with_reducible repeat (first | refine blk_drewN ?_ _ | refine blk_drew ?_ | refine blk_alloc ?_ _)); exact BK191.out⟩
                        have n3_ : Aside0 ((((w68.setCell ⟨gb191, 0, none⟩ (.int .i64 t195)).setCell ⟨gb191, 1, none⟩ (.int .i64 t196)).setCell ⟨gb191, 2, none⟩ (.int .i64 t197)).heap[gb192]? = some (.cells #[.int .i64 x193000_2, .int .i64 x193001_2, .int .i64 x193002_2] 23 (0, 0))) := ⟨by (with_reducible repeat (first | refine blk_drewN ?_ _ | refine blk_drew ?_ | refine blk_alloc ?_ _)); refine blk_far ?_ NB192_191.out _; (with_reducible repeat (first | refine blk_drewN ?_ _ | refine blk_drew ?_ | refine blk_alloc ?_ _)); refine blk_far ?_ NB192_191.out _; (with_reducible repeat (first | refine blk_drewN ?_ _ | refine blk_drew ?_ | refine blk_alloc ?_ _)); refine blk_far ?_ NB192_191.out _; (with_reducible repeat (first | refine blk_drewN ?_ _ | refine blk_drew ?_ | refine blk_alloc ?_ _)); exact BK192.out⟩
                        have n4_ : Aside0 (Below w.heap.size w (((w68.setCell ⟨gb191, 0, none⟩ (.int .i64 t195)).setCell ⟨gb191, 1, none⟩ (.int .i64 t196)).setCell ⟨gb191, 2, none⟩ (.int .i64 t197))) := ⟨by repeat (first | (with_reducible first | exact HB.out | apply below_alloc | apply pw_below_drewN | apply below_drew1 | refine below_set ?_ GE186.out | refine below_set ?_ GE187.out | refine below_set ?_ GE191.out | refine below_set ?_ GE192.out) | exact HB.out)⟩
                        (try clear BK186)
                        (try clear BK187)
                        (try clear BK191)
                        (try clear BK192)
                        (try clear HB)
                        generalize (((w68.setCell ⟨gb191, 0, none⟩ (.int .i64 t195)).setCell ⟨gb191, 1, none⟩ (.int .i64 t196)).setCell ⟨gb191, 2, none⟩ (.int .i64 t197)) = w72 at n0_ n1_ n2_ n3_ n4_ ⊢
                        have BK186 := n0_
                        have BK187 := n1_
                        have BK191 := n2_
                        have BK192 := n3_
                        have HB := n4_
                        clear n0_ n1_ n2_ n3_ n4_
                        have n0_ := Aside0.mk (blk_drew BK186.out)
                        have n1_ := Aside0.mk (blk_drew BK187.out)
                        have n2_ := Aside0.mk (blk_drew BK191.out)
                        have n3_ := Aside0.mk (blk_drew BK192.out)
                        have n4_ := Aside0.mk (below_drew1 HB.out)
                        clear BK186
                        clear BK187
                        clear BK191
                        clear BK192
                        clear HB
                        have BK186 := n0_
                        have BK187 := n1_
                        have BK191 := n2_
                        have BK192 := n3_
                        have HB := n4_
                        clear n0_ n1_ n2_ n3_ n4_
                        have p198 : 0 ≤ (x14_2 : Int) := of_decide_eq_true (by first | (with_reducible assumption) | assumption)
                        have q198 : x14_2 < (l2.length : Int) := of_decide_eq_true (by first | (with_reducible assumption) | assumption)
                        obtain ⟨ad198, e198, hx198_0, hx198_1⟩ := at_T35 HR2.out x14_2 p198 q198
                        have hw198_1 := hx198_1
                        have hw198_0 := hx198_0
                        obtain rfl : ad193 = ad198 := (by injection e198)
                        replace hx198_0 := (HB.out.cell (World.block_lt_of_cell? w _ hx198_0)).trans hx198_0
                        replace hx198_1 := (HB.out.cell (World.block_lt_of_cell? w _ hx198_1)).trans hx198_1
                        replace p198 := eq_true p198
                        replace q198 := eq_true q198
                        refine start_ (n := 10) (S := fun w' => w'.cell? ⟨gb192, 0, none⟩ = some (.int .i64 x193000_2) ∧ w'.cell? ⟨gb192, 1, none⟩ = some (.int .i64 x193001_2) ∧ w'.cell? ⟨gb192, 2, none⟩ = some (.int .i64 x193002_2) ∧ w'.cell? (ad193.add ((x14_2).toNat * 2)) = some (.int .i16 ((rd_T35 l2 x14_2).f0)) ∧ w'.cell? ⟨(ad193.add ((x14_2).toNat * 2)).block, (ad193.add ((x14_2).toNat * 2)).off + 1, none⟩ = some (.int .u8 ((rd_T35 l2 x14_2).f1))) (ds := [9]) #[false, false, false, false, false, false, false, false, false, false] (by kernel_rfl) rfl rfl ⟨(blk_cell BK192.out 0).trans rfl, (blk_cell BK192.out 1).trans rfl, (blk_cell BK192.out 2).trans rfl, ((HB.out.cell (World.block_lt_of_cell? w _ hw198_0)).trans hw198_0), ((HB.out.cell (World.block_lt_of_cell? w _ hw198_1)).trans hw198_1)⟩ (fun hHeld => ?_); refine with_tabW ambidexterlaw24_EncoderAgeCounts.tab15 ambidexterlaw24_EncoderAgeCounts.bits15 (fun HT_ HW_ => ?_)
                        generalize w72.drew = w73 at BK186 BK187 BK191 BK192 HB hx198_0 hx198_1 hHeld ⊢
                        refine pure_ (i := 1) (N := some 69) (v := ?_) (a' := ?_) #[false, true, false, false, false, false, false, false, false, false] rfl rfl (any_of HT_.out (by kernel_rfl)) (fun _ _ _ h => h) (Or.inl ⟨by rfl, ?_⟩) ?_ ?_
                        rotate_left
                        · intro w'
                          go_simp
                          with_reducible rfl
                        rotate_left
                        · simp only [Act.put, List.setIfInBounds_toArray, List.set_cons_zero, List.set_cons_succ, i64_w, i32_w]
                          rfl
                        refine pure_ (i := 2) (N := some 70) (v := ?_) (a' := ?_) #[false, true, true, false, false, false, false, false, false, false] rfl rfl (any_of HT_.out (by kernel_rfl)) (fun _ _ _ h => h) (Or.inl ⟨by rfl, ?_⟩) ?_ ?_
                        rotate_left
                        · intro w'
                          go_simp
                          with_reducible rfl
                        rotate_left
                        · simp only [Act.put, List.setIfInBounds_toArray, List.set_cons_zero, List.set_cons_succ, i64_w, i32_w]
                          rfl
                        refine pure_ (i := 3) (N := some 71) (v := ?_) (a' := ?_) #[false, true, true, true, false, false, false, false, false, false] rfl rfl (any_of HT_.out (by kernel_rfl)) (fun _ _ _ h => h) (Or.inl ⟨by rfl, ?_⟩) ?_ ?_
                        rotate_left
                        · intro w'
                          go_simp
                          with_reducible rfl
                        rotate_left
                        · simp only [Act.put, List.setIfInBounds_toArray, List.set_cons_zero, List.set_cons_succ, i64_w, i32_w]
                          rfl
                        refine pure_ (i := 4) (N := some 72) (v := ?_) (a' := ?_) #[false, true, true, true, true, false, false, false, false, false] rfl rfl (any_of HT_.out (by kernel_rfl)) (fun _ _ _ h => h) (Or.inl ⟨by rfl, ?_⟩) ?_ ?_
                        rotate_left
                        · intro w'
                          go_simp
                          with_reducible rfl
                        rotate_left
                        · simp only [Act.put, List.setIfInBounds_toArray, List.set_cons_zero, List.set_cons_succ, i64_w, i32_w]
                          rfl
                        refine pure_ (i := 7) (N := some 75) (v := ?_) (a' := ?_) #[false, true, true, true, true, false, false, true, false, false] rfl rfl (any_of HT_.out (by kernel_rfl)) (fun _ _ _ h => h) (Or.inl ⟨by rfl, ?_⟩) ?_ ?_
                        rotate_left
                        · intro w'
                          go_simp
                          with_reducible rfl
                        rotate_left
                        · simp only [Act.put, List.setIfInBounds_toArray, List.set_cons_zero, List.set_cons_succ, i64_w, i32_w]
                          rfl
                        refine take_ (i := 0) (N := some 68) (v := ?_) (a' := ?_) #[true, true, true, true, true, false, false, true, false, false] rfl rfl (take_ofW HT_.out HW_.out (by kernel_rfl)) (fun _ _ _ h => h) (Or.inl ⟨by rfl, ?_⟩) hHeld ?_ ?_
                        rotate_left
                        · rintro w' ⟨s0, s1, s2, s3, s4⟩
                          go_simp
                          with_reducible rfl
                        rotate_left
                        · simp only [Act.put, List.setIfInBounds_toArray, List.set_cons_zero, List.set_cons_succ, i64_w, i32_w]
                          rfl
                        refine take_ (i := 5) (N := some 73) (v := ?_) (a' := ?_) #[true, true, true, true, true, true, false, true, false, false] rfl rfl (take_ofW HT_.out HW_.out (by kernel_rfl)) (fun _ _ _ h => h) (Or.inl ⟨by rfl, ?_⟩) hHeld ?_ ?_
                        rotate_left
                        · rintro w' ⟨s0, s1, s2, s3, s4⟩
                          go_simp
                          with_reducible rfl
                        rotate_left
                        · simp only [Act.put, List.setIfInBounds_toArray, List.set_cons_zero, List.set_cons_succ, i64_w, i32_w]
                          rfl
                        refine pure_ (i := 6) (N := some 74) (v := ?_) (a' := ?_) #[true, true, true, true, true, true, true, true, false, false] rfl rfl (any_of HT_.out (by kernel_rfl)) (fun _ _ _ h => h) (Or.inl ⟨by rfl, ?_⟩) ?_ ?_
                        rotate_left
                        · intro w'
                          go_simp
                          with_reducible rfl
                        rotate_left
                        · simp only [Act.put, List.setIfInBounds_toArray, List.set_cons_zero, List.set_cons_succ, i64_w, i32_w]
                          rfl
                        refine one_ (i := 8) (N := some 76) #[true, true, true, true, true, true, true, true, true, false] rfl rfl (one_of HT_.out (by kernel_rfl)) (by decide) (fun K hK => ?_)
                        refine goes_ Try.func21 (by kernel_rfl) rfl #[.agg #[.int .i64 x193000_2, .int .i64 x193001_2, .int .i64 x193002_2], .int .i64 (wrap64 ((rd_T35 l2 x14_2).f1)), .int .i64 (wrap64 ((rd_T35 l2 x14_2).f0))] (by rfl) rfl rfl (by (try simp only [List.map_toArray, List.map_cons, List.map_nil]); first | done | rfl | (simp only [List.length_drop, List.length_take]; rfl)) ?_
                        with_reducible refine (encoder_Observe.calls x193000_2 x193001_2 x193002_2 (wrap64 ((rd_T35 l2 x14_2).f1)) (wrap64 ((rd_T35 l2 x14_2).f0)) t199 t200 t201 _ A42.out).mono ?_
                        rintro e w74 ⟨rfl, hb⟩
                        refine ⟨_, rfl, ?_⟩
                        have n0_ := Aside0.mk (blk_below (g := gb186) (o := .cells #[.int .i64 a0_0, .int .i64 a0_1, .int .i64 a0_2] 23 (0, 0)) (by (with_reducible repeat (first | refine blk_drewN ?_ _ | refine blk_drew ?_ | refine blk_alloc ?_ _)); exact BK186.out) hb)
                        have n1_ := Aside0.mk (blk_below (g := gb187) (o := .cells #[.int .i64 a1_0, .int .i64 a1_1, .int .i64 a1_2] 23 (0, 0)) (by (with_reducible repeat (first | refine blk_drewN ?_ _ | refine blk_drew ?_ | refine blk_alloc ?_ _)); exact BK187.out) hb)
                        have n2_ := Aside0.mk (blk_below (g := gb191) (o := .cells #[.int .i64 t195, .int .i64 t196, .int .i64 t197] 23 (0, 0)) (by (with_reducible repeat (first | refine blk_drewN ?_ _ | refine blk_drew ?_ | refine blk_alloc ?_ _)); exact BK191.out) hb)
                        have n3_ := Aside0.mk (blk_below (g := gb192) (o := .cells #[.int .i64 x193000_2, .int .i64 x193001_2, .int .i64 x193002_2] 23 (0, 0)) (by (with_reducible repeat (first | refine blk_drewN ?_ _ | refine blk_drew ?_ | refine blk_alloc ?_ _)); exact BK192.out) hb)
                        have n4_ := Aside0.mk (below_step (by repeat (first | (with_reducible first | exact HB.out | apply below_alloc | apply pw_below_drewN | apply below_drew1 | refine below_set ?_ GE186.out | refine below_set ?_ GE187.out | refine below_set ?_ GE191.out | refine below_set ?_ GE192.out) | exact HB.out)) hb)
                        clear BK186
                        clear BK187
                        clear BK191
                        clear BK192
                        clear HB
                        have BK186 := n0_
                        have BK187 := n1_
                        have BK191 := n2_
                        have BK192 := n3_
                        have HB := n4_
                        clear n0_ n1_ n2_ n3_ n4_
                        (try clear hb)
                        (try clear hb2)
                        (try clear hk)
                        (try clear hi)
                        refine hK.out _ _ ⟨(blk_cell BK192.out 0).trans rfl, (blk_cell BK192.out 1).trans rfl, (blk_cell BK192.out 2).trans rfl, ((HB.out.cell (World.block_lt_of_cell? w _ hw198_0)).trans hw198_0), ((HB.out.cell (World.block_lt_of_cell? w _ hw198_1)).trans hw198_1)⟩ (fun hHeld => ?_)
                        clear hK K
                        refine norm_ (a' := ?_) ?_ ?_
                        rotate_left
                        · show Act.put _ (some 76) _ = _
                          simp only [Act.put, List.setIfInBounds_toArray, List.set_cons_zero, List.set_cons_succ, i64_w, i32_w]
                          rfl
                        refine last_ (i := 9) (N := none) #[true, true, true, true, true, true, true, true, true, true] rfl rfl (one_of HT_.out (by kernel_rfl)) (by decide) (fun K hK => ?_)
                        have hs75 : w74.cell? ⟨gb192, 0, none⟩ = some (.int .i64 x193000_2) := (blk_cell BK192.out 0).trans rfl
                        have hfs75 := blk_frozen BK192.out 0
                        have hns75_0 := NB186_192.out
                        have hns75_1 := NB187_192.out
                        have hns75_2 := NB191_192.out
                        have hms75_0 := NB192_186.out
                        have hms75_1 := NB192_187.out
                        have hms75_2 := NB192_191.out
                        have hs76 : w74.cell? ⟨gb192, 1, none⟩ = some (.int .i64 x193001_2) := (blk_cell BK192.out 1).trans rfl
                        have hfs76 := blk_frozen BK192.out 1
                        have hns76_0 := NB186_192.out
                        have hns76_1 := NB187_192.out
                        have hns76_2 := NB191_192.out
                        have hms76_0 := NB192_186.out
                        have hms76_1 := NB192_187.out
                        have hms76_2 := NB192_191.out
                        have hs77 : w74.cell? ⟨gb192, 2, none⟩ = some (.int .i64 x193002_2) := (blk_cell BK192.out 2).trans rfl
                        have hfs77 := blk_frozen BK192.out 2
                        have hns77_0 := NB186_192.out
                        have hns77_1 := NB187_192.out
                        have hns77_2 := NB191_192.out
                        have hms77_0 := NB192_186.out
                        have hms77_1 := NB192_187.out
                        have hms77_2 := NB192_191.out
                        refine skip_ (w1 := ?_) (by rfl) rfl ?_ ?_
                        rotate_left
                        · go_simp
                          rfl
                        refine hK.out _ _ ?_
                        clear hK K
                        refine done_ (done_of HT_.out (by kernel_rfl)) ?_
                        have p202 : 0 ≤ (x14_2 : Int) := of_decide_eq_true (by first | (with_reducible assumption) | assumption)
                        have q202 : x14_2 < (l2.length : Int) := of_decide_eq_true (by first | (with_reducible assumption) | assumption)
                        obtain ⟨ad202, e202, hx202_0, hx202_1⟩ := at_T35 HR2.out x14_2 p202 q202
                        obtain rfl : ad193 = ad202 := (by injection e202)
                        have hn202_0 : ad193.block ≠ gb192 := Nat.ne_of_lt (Nat.lt_of_lt_of_le (by have := World.block_lt_of_cell? _ _ hx202_0; first | rwa [add_block] at this | exact this) GW192.out)
                        have hn202_1 : ad193.block ≠ gb192 := Nat.ne_of_lt (Nat.lt_of_lt_of_le (by have := World.block_lt_of_cell? _ _ hx202_0; first | rwa [add_block] at this | exact this) GW192.out)
                        have hn202_2 : ad193.block ≠ gb192 := Nat.ne_of_lt (Nat.lt_of_lt_of_le (by have := World.block_lt_of_cell? _ _ hx202_0; first | rwa [add_block] at this | exact this) GW192.out)
                        replace hx202_0 := (HB.out.cell (World.block_lt_of_cell? w _ hx202_0)).trans hx202_0
                        replace hx202_1 := (HB.out.cell (World.block_lt_of_cell? w _ hx202_1)).trans hx202_1
                        replace hx202_0 := (cell_far (p := ⟨gb192, 0, none⟩) (by first | (rw [add_block]; exact hn202_0) | (show (Addr.add _ _).block ≠ _; rw [add_block]; exact hn202_0) | exact hn202_0) (.int .i64 t199)).trans hx202_0
                        replace hx202_1 := (cell_far (p := ⟨gb192, 0, none⟩) (by first | (rw [add_block]; exact hn202_0) | (show (Addr.add _ _).block ≠ _; rw [add_block]; exact hn202_0) | exact hn202_0) (.int .i64 t199)).trans hx202_1
                        replace hx202_0 := (cell_far (p := ⟨gb192, 1, none⟩) (by first | (rw [add_block]; exact hn202_1) | (show (Addr.add _ _).block ≠ _; rw [add_block]; exact hn202_1) | exact hn202_1) (.int .i64 t200)).trans hx202_0
                        replace hx202_1 := (cell_far (p := ⟨gb192, 1, none⟩) (by first | (rw [add_block]; exact hn202_1) | (show (Addr.add _ _).block ≠ _; rw [add_block]; exact hn202_1) | exact hn202_1) (.int .i64 t200)).trans hx202_1
                        replace hx202_0 := (cell_far (p := ⟨gb192, 2, none⟩) (by first | (rw [add_block]; exact hn202_2) | (show (Addr.add _ _).block ≠ _; rw [add_block]; exact hn202_2) | exact hn202_2) (.int .i64 t201)).trans hx202_0
                        replace hx202_1 := (cell_far (p := ⟨gb192, 2, none⟩) (by first | (rw [add_block]; exact hn202_2) | (show (Addr.add _ _).block ≠ _; rw [add_block]; exact hn202_2) | exact hn202_2) (.int .i64 t201)).trans hx202_1
                        clear hn202_0
                        clear hn202_1
                        clear hn202_2
                        replace p202 := eq_true p202
                        replace q202 := eq_true q202
                        have hnb78 := NB191_186.out
                        have hnc78 := NB186_191.out
                        have hnb79 := NB191_187.out
                        have hnc79 := NB187_191.out
                        have hnb80 := NB191_192.out
                        have hnc80 := NB192_191.out
                        have hcz81_0 : w74.cell? ⟨gb191, 0, none⟩ = some (.int .i64 t195) := (blk_cell BK191.out 0).trans rfl
                        have hcz81_1 : w74.cell? ⟨gb191, 1, none⟩ = some (.int .i64 t196) := (blk_cell BK191.out 1).trans rfl
                        have hcz81_2 : w74.cell? ⟨gb191, 2, none⟩ = some (.int .i64 t197) := (blk_cell BK191.out 2).trans rfl
                        have hfz81_0 := blk_frozen BK191.out 0
                        have hfz81_1 := blk_frozen BK191.out 1
                        have hfz81_2 := blk_frozen BK191.out 2
                        have hnb82 := NB192_186.out
                        have hnc82 := NB186_192.out
                        have hnb83 := NB192_187.out
                        have hnc83 := NB187_192.out
                        have hcz84_0 : w74.cell? ⟨gb192, 0, none⟩ = some (.int .i64 x193000_2) := (blk_cell BK192.out 0).trans rfl
                        have hcz84_1 : w74.cell? ⟨gb192, 1, none⟩ = some (.int .i64 x193001_2) := (blk_cell BK192.out 1).trans rfl
                        have hcz84_2 : w74.cell? ⟨gb192, 2, none⟩ = some (.int .i64 x193002_2) := (blk_cell BK192.out 2).trans rfl
                        have hfz84_0 := blk_frozen BK192.out 0
                        have hfz84_1 := blk_frozen BK192.out 1
                        have hfz84_2 := blk_frozen BK192.out 2
                        try go_wp2
                        go_roundg k2
                        case measure => have := HJ6.out; have := HK2.out; omega
                        case rel => exact ⟨(wrap64 (x12_2 + 1)), (true), (wrap64 (x14_2 + 1)), (t195), (t196), (t197), (t199), (t200), (t201), (by first | rfl | (simp; done) | (simp [*]; done)), (by first | rfl | (simp; done) | (simp [*]; done)), (by first | rfl | (simp; done) | (simp [*]; done)), H', ⟨by have := HJ6.out; have := HK2.out; omega⟩, ⟨by (with_reducible repeat (first | refine blk_drewN ?_ _ | refine blk_drew ?_ | refine blk_alloc ?_ _)); refine blk_far ?_ NB186_192.out _; (with_reducible repeat (first | refine blk_drewN ?_ _ | refine blk_drew ?_ | refine blk_alloc ?_ _)); refine blk_far ?_ NB186_192.out _; (with_reducible repeat (first | refine blk_drewN ?_ _ | refine blk_drew ?_ | refine blk_alloc ?_ _)); refine blk_far ?_ NB186_192.out _; (with_reducible repeat (first | refine blk_drewN ?_ _ | refine blk_drew ?_ | refine blk_alloc ?_ _)); exact BK186.out⟩, ⟨by (with_reducible repeat (first | refine blk_drewN ?_ _ | refine blk_drew ?_ | refine blk_alloc ?_ _)); refine blk_far ?_ NB187_192.out _; (with_reducible repeat (first | refine blk_drewN ?_ _ | refine blk_drew ?_ | refine blk_alloc ?_ _)); refine blk_far ?_ NB187_192.out _; (with_reducible repeat (first | refine blk_drewN ?_ _ | refine blk_drew ?_ | refine blk_alloc ?_ _)); refine blk_far ?_ NB187_192.out _; (with_reducible repeat (first | refine blk_drewN ?_ _ | refine blk_drew ?_ | refine blk_alloc ?_ _)); exact BK187.out⟩, ⟨by (with_reducible repeat (first | refine blk_drewN ?_ _ | refine blk_drew ?_ | refine blk_alloc ?_ _)); refine blk_far ?_ NB191_192.out _; (with_reducible repeat (first | refine blk_drewN ?_ _ | refine blk_drew ?_ | refine blk_alloc ?_ _)); refine blk_far ?_ NB191_192.out _; (with_reducible repeat (first | refine blk_drewN ?_ _ | refine blk_drew ?_ | refine blk_alloc ?_ _)); refine blk_far ?_ NB191_192.out _; (with_reducible repeat (first | refine blk_drewN ?_ _ | refine blk_drew ?_ | refine blk_alloc ?_ _)); exact BK191.out⟩, ⟨by (with_reducible repeat (first | refine blk_drewN ?_ _ | refine blk_drew ?_ | refine blk_alloc ?_ _)); refine blk_put (cs := #[.int .i64 t199, .int .i64 t200, .int .i64 x193002_2]) ?_ 2 _ rfl; (with_reducible repeat (first | refine blk_drewN ?_ _ | refine blk_drew ?_ | refine blk_alloc ?_ _)); refine blk_put (cs := #[.int .i64 t199, .int .i64 x193001_2, .int .i64 x193002_2]) ?_ 1 _ rfl; (with_reducible repeat (first | refine blk_drewN ?_ _ | refine blk_drew ?_ | refine blk_alloc ?_ _)); refine blk_put (cs := #[.int .i64 x193000_2, .int .i64 x193001_2, .int .i64 x193002_2]) ?_ 0 _ rfl; (with_reducible repeat (first | refine blk_drewN ?_ _ | refine blk_drew ?_ | refine blk_alloc ?_ _)); exact BK192.out⟩, ⟨by repeat (first | (with_reducible first | exact HB.out | apply below_alloc | apply pw_below_drewN | apply below_drew1 | refine below_set ?_ GE186.out | refine below_set ?_ GE187.out | refine below_set ?_ GE191.out | refine below_set ?_ GE192.out) | exact HB.out)⟩⟩
                    · replace c65 := Bool.eq_false_iff.mpr c65
                      subst c65
                      have H1 : (ambidexterlaw24_EncoderAgeCounts.l0 k2 l2 true (wrap64 (x12_2 + 1)) false (wrap64 (x14_2 + 1)) a0_0 a0_1 a0_2 t195 t196 t197 t199 t200 t201) = some r := by rw [if_neg (show ¬ (false = true) by decide)] at H; exact H
                      clear H
                      have H := H1
                      clear H1
                      have H' := Aside0.mk H
                      clear H
                      have p193 : 0 ≤ (x14_2 : Int) := of_decide_eq_true (by first | (with_reducible assumption) | assumption)
                      have q193 : x14_2 < (l2.length : Int) := of_decide_eq_true (by first | (with_reducible assumption) | assumption)
                      obtain ⟨ad193, e193, hx193_0, hx193_1⟩ := at_T35 HR2.out x14_2 p193 q193
                      cases e193
                      replace hx193_0 := (HB.out.cell (World.block_lt_of_cell? w _ hx193_0)).trans hx193_0
                      replace hx193_1 := (HB.out.cell (World.block_lt_of_cell? w _ hx193_1)).trans hx193_1
                      replace p193 := eq_true p193
                      replace q193 := eq_true q193
                      try go_wp2
                      have n0_ := Aside0.mk (blk_drew BK186.out)
                      have n1_ := Aside0.mk (blk_drew BK187.out)
                      have n2_ := Aside0.mk (blk_drew BK191.out)
                      have n3_ := Aside0.mk (blk_drew BK192.out)
                      have n4_ := Aside0.mk (below_drew1 HB.out)
                      clear BK186
                      clear BK187
                      clear BK191
                      clear BK192
                      clear HB
                      have BK186 := n0_
                      have BK187 := n1_
                      have BK191 := n2_
                      have BK192 := n3_
                      have HB := n4_
                      clear n0_ n1_ n2_ n3_ n4_
                      have p194 : 0 ≤ (x14_2 : Int) := of_decide_eq_true (by first | (with_reducible assumption) | assumption)
                      have q194 : x14_2 < (l2.length : Int) := of_decide_eq_true (by first | (with_reducible assumption) | assumption)
                      obtain ⟨ad194, e194, hx194_0, hx194_1⟩ := at_T35 HR2.out x14_2 p194 q194
                      have hw194_1 := hx194_1
                      have hw194_0 := hx194_0
                      obtain rfl : ad193 = ad194 := (by injection e194)
                      replace hx194_0 := (HB.out.cell (World.block_lt_of_cell? w _ hx194_0)).trans hx194_0
                      replace hx194_1 := (HB.out.cell (World.block_lt_of_cell? w _ hx194_1)).trans hx194_1
                      replace p194 := eq_true p194
                      replace q194 := eq_true q194
                      refine start_ (n := 10) (S := fun w' => w'.cell? ⟨gb191, 0, none⟩ = some (.int .i64 x192000_2) ∧ w'.cell? ⟨gb191, 1, none⟩ = some (.int .i64 x192001_2) ∧ w'.cell? ⟨gb191, 2, none⟩ = some (.int .i64 x192002_2) ∧ w'.cell? (ad193.add ((x14_2).toNat * 2)) = some (.int .i16 ((rd_T35 l2 x14_2).f0)) ∧ w'.cell? ⟨(ad193.add ((x14_2).toNat * 2)).block, (ad193.add ((x14_2).toNat * 2)).off + 1, none⟩ = some (.int .u8 ((rd_T35 l2 x14_2).f1))) (ds := [9]) #[false, false, false, false, false, false, false, false, false, false] (by kernel_rfl) rfl rfl ⟨(blk_cell BK191.out 0).trans rfl, (blk_cell BK191.out 1).trans rfl, (blk_cell BK191.out 2).trans rfl, ((HB.out.cell (World.block_lt_of_cell? w _ hw194_0)).trans hw194_0), ((HB.out.cell (World.block_lt_of_cell? w _ hw194_1)).trans hw194_1)⟩ (fun hHeld => ?_); refine with_tabW ambidexterlaw24_EncoderAgeCounts.tab14 ambidexterlaw24_EncoderAgeCounts.bits14 (fun HT_ HW_ => ?_)
                      generalize wr.drew = w85 at BK186 BK187 BK191 BK192 HB hx194_0 hx194_1 hHeld ⊢
                      refine pure_ (i := 1) (N := some 60) (v := ?_) (a' := ?_) #[false, true, false, false, false, false, false, false, false, false] rfl rfl (any_of HT_.out (by kernel_rfl)) (fun _ _ _ h => h) (Or.inl ⟨by rfl, ?_⟩) ?_ ?_
                      rotate_left
                      · intro w'
                        go_simp
                        with_reducible rfl
                      rotate_left
                      · simp only [Act.put, List.setIfInBounds_toArray, List.set_cons_zero, List.set_cons_succ, i64_w, i32_w]
                        rfl
                      refine pure_ (i := 2) (N := some 61) (v := ?_) (a' := ?_) #[false, true, true, false, false, false, false, false, false, false] rfl rfl (any_of HT_.out (by kernel_rfl)) (fun _ _ _ h => h) (Or.inl ⟨by rfl, ?_⟩) ?_ ?_
                      rotate_left
                      · intro w'
                        go_simp
                        with_reducible rfl
                      rotate_left
                      · simp only [Act.put, List.setIfInBounds_toArray, List.set_cons_zero, List.set_cons_succ, i64_w, i32_w]
                        rfl
                      refine pure_ (i := 3) (N := some 62) (v := ?_) (a' := ?_) #[false, true, true, true, false, false, false, false, false, false] rfl rfl (any_of HT_.out (by kernel_rfl)) (fun _ _ _ h => h) (Or.inl ⟨by rfl, ?_⟩) ?_ ?_
                      rotate_left
                      · intro w'
                        go_simp
                        with_reducible rfl
                      rotate_left
                      · simp only [Act.put, List.setIfInBounds_toArray, List.set_cons_zero, List.set_cons_succ, i64_w, i32_w]
                        rfl
                      refine pure_ (i := 4) (N := some 63) (v := ?_) (a' := ?_) #[false, true, true, true, true, false, false, false, false, false] rfl rfl (any_of HT_.out (by kernel_rfl)) (fun _ _ _ h => h) (Or.inl ⟨by rfl, ?_⟩) ?_ ?_
                      rotate_left
                      · intro w'
                        go_simp
                        with_reducible rfl
                      rotate_left
                      · simp only [Act.put, List.setIfInBounds_toArray, List.set_cons_zero, List.set_cons_succ, i64_w, i32_w]
                        rfl
                      refine pure_ (i := 7) (N := some 66) (v := ?_) (a' := ?_) #[false, true, true, true, true, false, false, true, false, false] rfl rfl (any_of HT_.out (by kernel_rfl)) (fun _ _ _ h => h) (Or.inl ⟨by rfl, ?_⟩) ?_ ?_
                      rotate_left
                      · intro w'
                        go_simp
                        with_reducible rfl
                      rotate_left
                      · simp only [Act.put, List.setIfInBounds_toArray, List.set_cons_zero, List.set_cons_succ, i64_w, i32_w]
                        rfl
                      refine take_ (i := 0) (N := some 59) (v := ?_) (a' := ?_) #[true, true, true, true, true, false, false, true, false, false] rfl rfl (take_ofW HT_.out HW_.out (by kernel_rfl)) (fun _ _ _ h => h) (Or.inl ⟨by rfl, ?_⟩) hHeld ?_ ?_
                      rotate_left
                      · rintro w' ⟨s0, s1, s2, s3, s4⟩
                        go_simp
                        with_reducible rfl
                      rotate_left
                      · simp only [Act.put, List.setIfInBounds_toArray, List.set_cons_zero, List.set_cons_succ, i64_w, i32_w]
                        rfl
                      refine take_ (i := 5) (N := some 64) (v := ?_) (a' := ?_) #[true, true, true, true, true, true, false, true, false, false] rfl rfl (take_ofW HT_.out HW_.out (by kernel_rfl)) (fun _ _ _ h => h) (Or.inl ⟨by rfl, ?_⟩) hHeld ?_ ?_
                      rotate_left
                      · rintro w' ⟨s0, s1, s2, s3, s4⟩
                        go_simp
                        with_reducible rfl
                      rotate_left
                      · simp only [Act.put, List.setIfInBounds_toArray, List.set_cons_zero, List.set_cons_succ, i64_w, i32_w]
                        rfl
                      refine pure_ (i := 6) (N := some 65) (v := ?_) (a' := ?_) #[true, true, true, true, true, true, true, true, false, false] rfl rfl (any_of HT_.out (by kernel_rfl)) (fun _ _ _ h => h) (Or.inl ⟨by rfl, ?_⟩) ?_ ?_
                      rotate_left
                      · intro w'
                        go_simp
                        with_reducible rfl
                      rotate_left
                      · simp only [Act.put, List.setIfInBounds_toArray, List.set_cons_zero, List.set_cons_succ, i64_w, i32_w]
                        rfl
                      refine one_ (i := 8) (N := some 67) #[true, true, true, true, true, true, true, true, true, false] rfl rfl (one_of HT_.out (by kernel_rfl)) (by decide) (fun K hK => ?_)
                      refine goes_ Try.func21 (by kernel_rfl) rfl #[.agg #[.int .i64 x192000_2, .int .i64 x192001_2, .int .i64 x192002_2], .int .i64 (wrap64 ((rd_T35 l2 x14_2).f1)), .int .i64 (wrap64 ((rd_T35 l2 x14_2).f0))] (by rfl) rfl rfl (by (try simp only [List.map_toArray, List.map_cons, List.map_nil]); first | done | rfl | (simp only [List.length_drop, List.length_take]; rfl)) ?_
                      with_reducible refine (encoder_Observe.calls x192000_2 x192001_2 x192002_2 (wrap64 ((rd_T35 l2 x14_2).f1)) (wrap64 ((rd_T35 l2 x14_2).f0)) t195 t196 t197 _ A41.out).mono ?_
                      rintro e w86 ⟨rfl, hb⟩
                      refine ⟨_, rfl, ?_⟩
                      have n0_ := Aside0.mk (blk_below (g := gb186) (o := .cells #[.int .i64 a0_0, .int .i64 a0_1, .int .i64 a0_2] 23 (0, 0)) (by (with_reducible repeat (first | refine blk_drewN ?_ _ | refine blk_drew ?_ | refine blk_alloc ?_ _)); exact BK186.out) hb)
                      have n1_ := Aside0.mk (blk_below (g := gb187) (o := .cells #[.int .i64 a1_0, .int .i64 a1_1, .int .i64 a1_2] 23 (0, 0)) (by (with_reducible repeat (first | refine blk_drewN ?_ _ | refine blk_drew ?_ | refine blk_alloc ?_ _)); exact BK187.out) hb)
                      have n2_ := Aside0.mk (blk_below (g := gb191) (o := .cells #[.int .i64 x192000_2, .int .i64 x192001_2, .int .i64 x192002_2] 23 (0, 0)) (by (with_reducible repeat (first | refine blk_drewN ?_ _ | refine blk_drew ?_ | refine blk_alloc ?_ _)); exact BK191.out) hb)
                      have n3_ := Aside0.mk (blk_below (g := gb192) (o := .cells #[.int .i64 x193000_2, .int .i64 x193001_2, .int .i64 x193002_2] 23 (0, 0)) (by (with_reducible repeat (first | refine blk_drewN ?_ _ | refine blk_drew ?_ | refine blk_alloc ?_ _)); exact BK192.out) hb)
                      have n4_ := Aside0.mk (below_step (by repeat (first | (with_reducible first | exact HB.out | apply below_alloc | apply pw_below_drewN | apply below_drew1 | refine below_set ?_ GE186.out | refine below_set ?_ GE187.out | refine below_set ?_ GE191.out | refine below_set ?_ GE192.out) | exact HB.out)) hb)
                      clear BK186
                      clear BK187
                      clear BK191
                      clear BK192
                      clear HB
                      have BK186 := n0_
                      have BK187 := n1_
                      have BK191 := n2_
                      have BK192 := n3_
                      have HB := n4_
                      clear n0_ n1_ n2_ n3_ n4_
                      (try clear hb)
                      (try clear hb2)
                      (try clear hk)
                      (try clear hi)
                      refine hK.out _ _ ⟨(blk_cell BK191.out 0).trans rfl, (blk_cell BK191.out 1).trans rfl, (blk_cell BK191.out 2).trans rfl, ((HB.out.cell (World.block_lt_of_cell? w _ hw194_0)).trans hw194_0), ((HB.out.cell (World.block_lt_of_cell? w _ hw194_1)).trans hw194_1)⟩ (fun hHeld => ?_)
                      clear hK K
                      refine norm_ (a' := ?_) ?_ ?_
                      rotate_left
                      · show Act.put _ (some 67) _ = _
                        simp only [Act.put, List.setIfInBounds_toArray, List.set_cons_zero, List.set_cons_succ, i64_w, i32_w]
                        rfl
                      refine last_ (i := 9) (N := none) #[true, true, true, true, true, true, true, true, true, true] rfl rfl (one_of HT_.out (by kernel_rfl)) (by decide) (fun K hK => ?_)
                      have hs87 : w86.cell? ⟨gb191, 0, none⟩ = some (.int .i64 x192000_2) := (blk_cell BK191.out 0).trans rfl
                      have hfs87 := blk_frozen BK191.out 0
                      have hns87_0 := NB186_191.out
                      have hns87_1 := NB187_191.out
                      have hns87_3 := NB192_191.out
                      have hms87_0 := NB191_186.out
                      have hms87_1 := NB191_187.out
                      have hms87_3 := NB191_192.out
                      have hs88 : w86.cell? ⟨gb191, 1, none⟩ = some (.int .i64 x192001_2) := (blk_cell BK191.out 1).trans rfl
                      have hfs88 := blk_frozen BK191.out 1
                      have hns88_0 := NB186_191.out
                      have hns88_1 := NB187_191.out
                      have hns88_3 := NB192_191.out
                      have hms88_0 := NB191_186.out
                      have hms88_1 := NB191_187.out
                      have hms88_3 := NB191_192.out
                      have hs89 : w86.cell? ⟨gb191, 2, none⟩ = some (.int .i64 x192002_2) := (blk_cell BK191.out 2).trans rfl
                      have hfs89 := blk_frozen BK191.out 2
                      have hns89_0 := NB186_191.out
                      have hns89_1 := NB187_191.out
                      have hns89_3 := NB192_191.out
                      have hms89_0 := NB191_186.out
                      have hms89_1 := NB191_187.out
                      have hms89_3 := NB191_192.out
                      refine skip_ (w1 := ?_) (by rfl) rfl ?_ ?_
                      rotate_left
                      · go_simp
                        rfl
                      refine hK.out _ _ ?_
                      clear hK K
                      refine done_ (done_of HT_.out (by kernel_rfl)) ?_
                      try go_wp2
                      have n0_ : Aside0 ((((w86.setCell ⟨gb191, 0, none⟩ (.int .i64 t195)).setCell ⟨gb191, 1, none⟩ (.int .i64 t196)).setCell ⟨gb191, 2, none⟩ (.int .i64 t197)).heap[gb186]? = some (.cells #[.int .i64 a0_0, .int .i64 a0_1, .int .i64 a0_2] 23 (0, 0))) := ⟨by (with_reducible repeat (first | refine blk_drewN ?_ _ | refine blk_drew ?_ | refine blk_alloc ?_ _)); refine blk_far ?_ NB186_191.out _; (with_reducible repeat (first | refine blk_drewN ?_ _ | refine blk_drew ?_ | refine blk_alloc ?_ _)); refine blk_far ?_ NB186_191.out _; (with_reducible repeat (first | refine blk_drewN ?_ _ | refine blk_drew ?_ | refine blk_alloc ?_ _)); refine blk_far ?_ NB186_191.out _; (with_reducible repeat (first | refine blk_drewN ?_ _ | refine blk_drew ?_ | refine blk_alloc ?_ _)); exact BK186.out⟩
                      have n1_ : Aside0 ((((w86.setCell ⟨gb191, 0, none⟩ (.int .i64 t195)).setCell ⟨gb191, 1, none⟩ (.int .i64 t196)).setCell ⟨gb191, 2, none⟩ (.int .i64 t197)).heap[gb187]? = some (.cells #[.int .i64 a1_0, .int .i64 a1_1, .int .i64 a1_2] 23 (0, 0))) := ⟨by (with_reducible repeat (first | refine blk_drewN ?_ _ | refine blk_drew ?_ | refine blk_alloc ?_ _)); refine blk_far ?_ NB187_191.out _; (with_reducible repeat (first | refine blk_drewN ?_ _ | refine blk_drew ?_ | refine blk_alloc ?_ _)); refine blk_far ?_ NB187_191.out _; (with_reducible repeat (first | refine blk_drewN ?_ _ | refine blk_drew ?_ | refine blk_alloc ?_ _)); refine blk_far ?_ NB187_191.out _; (with_reducible repeat (first | refine blk_drewN ?_ _ | refine blk_drew ?_ | refine blk_alloc ?_ _)); exact BK187.out⟩
                      have n2_ : Aside0 ((((w86.setCell ⟨gb191, 0, none⟩ (.int .i64 t195)).setCell ⟨gb191, 1, none⟩ (.int .i64 t196)).setCell ⟨gb191, 2, none⟩ (.int .i64 t197)).heap[gb191]? = some (.cells #[.int .i64 t195, .int .i64 t196, .int .i64 t197] 23 (0, 0))) := ⟨by (with_reducible repeat (first | refine blk_drewN ?_ _ | refine blk_drew ?_ | refine blk_alloc ?_ _)); refine blk_put (cs := #[.int .i64 t195, .int .i64 t196, .int .i64 x192002_2]) ?_ 2 _ rfl; (with_reducible repeat (first | refine blk_drewN ?_ _ | refine blk_drew ?_ | refine blk_alloc ?_ _)); refine blk_put (cs := #[.int .i64 t195, .int .i64 x192001_2, .int .i64 x192002_2]) ?_ 1 _ rfl; (with_reducible repeat (first | refine blk_drewN ?_ _ | refine blk_drew ?_ | refine blk_alloc ?_ _)); refine blk_put (cs := #[.int .i64 x192000_2, .int .i64 x192001_2, .int .i64 x192002_2]) ?_ 0 _ rfl; (with_reducible repeat (first | refine blk_drewN ?_ _ | refine blk_drew ?_ | refine blk_alloc ?_ _)); exact BK191.out⟩
                      have n3_ : Aside0 ((((w86.setCell ⟨gb191, 0, none⟩ (.int .i64 t195)).setCell ⟨gb191, 1, none⟩ (.int .i64 t196)).setCell ⟨gb191, 2, none⟩ (.int .i64 t197)).heap[gb192]? = some (.cells #[.int .i64 x193000_2, .int .i64 x193001_2, .int .i64 x193002_2] 23 (0, 0))) := ⟨by (with_reducible repeat (first | refine blk_drewN ?_ _ | refine blk_drew ?_ | refine blk_alloc ?_ _)); refine blk_far ?_ NB192_191.out _; (with_reducible repeat (first | refine blk_drewN ?_ _ | refine blk_drew ?_ | refine blk_alloc ?_ _)); refine blk_far ?_ NB192_191.out _; (with_reducible repeat (first | refine blk_drewN ?_ _ | refine blk_drew ?_ | refine blk_alloc ?_ _)); refine blk_far ?_ NB192_191.out _; (with_reducible repeat (first | refine blk_drewN ?_ _ | refine blk_drew ?_ | refine blk_alloc ?_ _)); exact BK192.out⟩
                      have n4_ : Aside0 (Below w.heap.size w (((w86.setCell ⟨gb191, 0, none⟩ (.int .i64 t195)).setCell ⟨gb191, 1, none⟩ (.int .i64 t196)).setCell ⟨gb191, 2, none⟩ (.int .i64 t197))) := ⟨by repeat (first | (with_reducible first | exact HB.out | apply below_alloc | apply pw_below_drewN | apply below_drew1 | refine below_set ?_ GE186.out | refine below_set ?_ GE187.out | refine below_set ?_ GE191.out | refine below_set ?_ GE192.out) | exact HB.out)⟩
                      (try clear BK186)
                      (try clear BK187)
                      (try clear BK191)
                      (try clear BK192)
                      (try clear HB)
                      generalize (((w86.setCell ⟨gb191, 0, none⟩ (.int .i64 t195)).setCell ⟨gb191, 1, none⟩ (.int .i64 t196)).setCell ⟨gb191, 2, none⟩ (.int .i64 t197)) = w90 at n0_ n1_ n2_ n3_ n4_ ⊢
                      have BK186 := n0_
                      have BK187 := n1_
                      have BK191 := n2_
                      have BK192 := n3_
                      have HB := n4_
                      clear n0_ n1_ n2_ n3_ n4_
                      have n0_ := Aside0.mk (blk_drew BK186.out)
                      have n1_ := Aside0.mk (blk_drew BK187.out)
                      have n2_ := Aside0.mk (blk_drew BK191.out)
                      have n3_ := Aside0.mk (blk_drew BK192.out)
                      have n4_ := Aside0.mk (below_drew1 HB.out)
                      clear BK186
                      clear BK187
                      clear BK191
                      clear BK192
                      clear HB
                      have BK186 := n0_
                      have BK187 := n1_
                      have BK191 := n2_
                      have BK192 := n3_
                      have HB := n4_
                      clear n0_ n1_ n2_ n3_ n4_
                      have p198 : 0 ≤ (x14_2 : Int) := of_decide_eq_true (by first | (with_reducible assumption) | assumption)
                      have q198 : x14_2 < (l2.length : Int) := of_decide_eq_true (by first | (with_reducible assumption) | assumption)
                      obtain ⟨ad198, e198, hx198_0, hx198_1⟩ := at_T35 HR2.out x14_2 p198 q198
                      have hw198_1 := hx198_1
                      have hw198_0 := hx198_0
                      obtain rfl : ad193 = ad198 := (by injection e198)
                      replace hx198_0 := (HB.out.cell (World.block_lt_of_cell? w _ hx198_0)).trans hx198_0
                      replace hx198_1 := (HB.out.cell (World.block_lt_of_cell? w _ hx198_1)).trans hx198_1
                      replace p198 := eq_true p198
                      replace q198 := eq_true q198
                      refine start_ (n := 10) (S := fun w' => w'.cell? ⟨gb192, 0, none⟩ = some (.int .i64 x193000_2) ∧ w'.cell? ⟨gb192, 1, none⟩ = some (.int .i64 x193001_2) ∧ w'.cell? ⟨gb192, 2, none⟩ = some (.int .i64 x193002_2) ∧ w'.cell? (ad193.add ((x14_2).toNat * 2)) = some (.int .i16 ((rd_T35 l2 x14_2).f0)) ∧ w'.cell? ⟨(ad193.add ((x14_2).toNat * 2)).block, (ad193.add ((x14_2).toNat * 2)).off + 1, none⟩ = some (.int .u8 ((rd_T35 l2 x14_2).f1))) (ds := [9]) #[false, false, false, false, false, false, false, false, false, false] (by kernel_rfl) rfl rfl ⟨(blk_cell BK192.out 0).trans rfl, (blk_cell BK192.out 1).trans rfl, (blk_cell BK192.out 2).trans rfl, ((HB.out.cell (World.block_lt_of_cell? w _ hw198_0)).trans hw198_0), ((HB.out.cell (World.block_lt_of_cell? w _ hw198_1)).trans hw198_1)⟩ (fun hHeld => ?_); refine with_tabW ambidexterlaw24_EncoderAgeCounts.tab15 ambidexterlaw24_EncoderAgeCounts.bits15 (fun HT_ HW_ => ?_)
                      generalize w90.drew = w91 at BK186 BK187 BK191 BK192 HB hx198_0 hx198_1 hHeld ⊢
                      refine pure_ (i := 1) (N := some 69) (v := ?_) (a' := ?_) #[false, true, false, false, false, false, false, false, false, false] rfl rfl (any_of HT_.out (by kernel_rfl)) (fun _ _ _ h => h) (Or.inl ⟨by rfl, ?_⟩) ?_ ?_
                      rotate_left
                      · intro w'
                        go_simp
                        with_reducible rfl
                      rotate_left
                      · simp only [Act.put, List.setIfInBounds_toArray, List.set_cons_zero, List.set_cons_succ, i64_w, i32_w]
                        rfl
                      refine pure_ (i := 2) (N := some 70) (v := ?_) (a' := ?_) #[false, true, true, false, false, false, false, false, false, false] rfl rfl (any_of HT_.out (by kernel_rfl)) (fun _ _ _ h => h) (Or.inl ⟨by rfl, ?_⟩) ?_ ?_
                      rotate_left
                      · intro w'
                        go_simp
                        with_reducible rfl
                      rotate_left
                      · simp only [Act.put, List.setIfInBounds_toArray, List.set_cons_zero, List.set_cons_succ, i64_w, i32_w]
                        rfl
                      refine pure_ (i := 3) (N := some 71) (v := ?_) (a' := ?_) #[false, true, true, true, false, false, false, false, false, false] rfl rfl (any_of HT_.out (by kernel_rfl)) (fun _ _ _ h => h) (Or.inl ⟨by rfl, ?_⟩) ?_ ?_
                      rotate_left
                      · intro w'
                        go_simp
                        with_reducible rfl
                      rotate_left
                      · simp only [Act.put, List.setIfInBounds_toArray, List.set_cons_zero, List.set_cons_succ, i64_w, i32_w]
                        rfl
                      refine pure_ (i := 4) (N := some 72) (v := ?_) (a' := ?_) #[false, true, true, true, true, false, false, false, false, false] rfl rfl (any_of HT_.out (by kernel_rfl)) (fun _ _ _ h => h) (Or.inl ⟨by rfl, ?_⟩) ?_ ?_
                      rotate_left
                      · intro w'
                        go_simp
                        with_reducible rfl
                      rotate_left
                      · simp only [Act.put, List.setIfInBounds_toArray, List.set_cons_zero, List.set_cons_succ, i64_w, i32_w]
                        rfl
                      refine pure_ (i := 7) (N := some 75) (v := ?_) (a' := ?_) #[false, true, true, true, true, false, false, true, false, false] rfl rfl (any_of HT_.out (by kernel_rfl)) (fun _ _ _ h => h) (Or.inl ⟨by rfl, ?_⟩) ?_ ?_
                      rotate_left
                      · intro w'
                        go_simp
                        with_reducible rfl
                      rotate_left
                      · simp only [Act.put, List.setIfInBounds_toArray, List.set_cons_zero, List.set_cons_succ, i64_w, i32_w]
                        rfl
                      refine take_ (i := 0) (N := some 68) (v := ?_) (a' := ?_) #[true, true, true, true, true, false, false, true, false, false] rfl rfl (take_ofW HT_.out HW_.out (by kernel_rfl)) (fun _ _ _ h => h) (Or.inl ⟨by rfl, ?_⟩) hHeld ?_ ?_
                      rotate_left
                      · rintro w' ⟨s0, s1, s2, s3, s4⟩
                        go_simp
                        with_reducible rfl
                      rotate_left
                      · simp only [Act.put, List.setIfInBounds_toArray, List.set_cons_zero, List.set_cons_succ, i64_w, i32_w]
                        rfl
                      refine take_ (i := 5) (N := some 73) (v := ?_) (a' := ?_) #[true, true, true, true, true, true, false, true, false, false] rfl rfl (take_ofW HT_.out HW_.out (by kernel_rfl)) (fun _ _ _ h => h) (Or.inl ⟨by rfl, ?_⟩) hHeld ?_ ?_
                      rotate_left
                      · rintro w' ⟨s0, s1, s2, s3, s4⟩
                        go_simp
                        with_reducible rfl
                      rotate_left
                      · simp only [Act.put, List.setIfInBounds_toArray, List.set_cons_zero, List.set_cons_succ, i64_w, i32_w]
                        rfl
                      refine pure_ (i := 6) (N := some 74) (v := ?_) (a' := ?_) #[true, true, true, true, true, true, true, true, false, false] rfl rfl (any_of HT_.out (by kernel_rfl)) (fun _ _ _ h => h) (Or.inl ⟨by rfl, ?_⟩) ?_ ?_
                      rotate_left
                      · intro w'
                        go_simp
                        with_reducible rfl
                      rotate_left
                      · simp only [Act.put, List.setIfInBounds_toArray, List.set_cons_zero, List.set_cons_succ, i64_w, i32_w]
                        rfl
                      refine one_ (i := 8) (N := some 76) #[true, true, true, true, true, true, true, true, true, false] rfl rfl (one_of HT_.out (by kernel_rfl)) (by decide) (fun K hK => ?_)
                      refine goes_ Try.func21 (by kernel_rfl) rfl #[.agg #[.int .i64 x193000_2, .int .i64 x193001_2, .int .i64 x193002_2], .int .i64 (wrap64 ((rd_T35 l2 x14_2).f1)), .int .i64 (wrap64 ((rd_T35 l2 x14_2).f0))] (by rfl) rfl rfl (by (try simp only [List.map_toArray, List.map_cons, List.map_nil]); first | done | rfl | (simp only [List.length_drop, List.length_take]; rfl)) ?_
                      with_reducible refine (encoder_Observe.calls x193000_2 x193001_2 x193002_2 (wrap64 ((rd_T35 l2 x14_2).f1)) (wrap64 ((rd_T35 l2 x14_2).f0)) t199 t200 t201 _ A42.out).mono ?_
                      rintro e w92 ⟨rfl, hb⟩
                      refine ⟨_, rfl, ?_⟩
                      have n0_ := Aside0.mk (blk_below (g := gb186) (o := .cells #[.int .i64 a0_0, .int .i64 a0_1, .int .i64 a0_2] 23 (0, 0)) (by (with_reducible repeat (first | refine blk_drewN ?_ _ | refine blk_drew ?_ | refine blk_alloc ?_ _)); exact BK186.out) hb)
                      have n1_ := Aside0.mk (blk_below (g := gb187) (o := .cells #[.int .i64 a1_0, .int .i64 a1_1, .int .i64 a1_2] 23 (0, 0)) (by (with_reducible repeat (first | refine blk_drewN ?_ _ | refine blk_drew ?_ | refine blk_alloc ?_ _)); exact BK187.out) hb)
                      have n2_ := Aside0.mk (blk_below (g := gb191) (o := .cells #[.int .i64 t195, .int .i64 t196, .int .i64 t197] 23 (0, 0)) (by (with_reducible repeat (first | refine blk_drewN ?_ _ | refine blk_drew ?_ | refine blk_alloc ?_ _)); exact BK191.out) hb)
                      have n3_ := Aside0.mk (blk_below (g := gb192) (o := .cells #[.int .i64 x193000_2, .int .i64 x193001_2, .int .i64 x193002_2] 23 (0, 0)) (by (with_reducible repeat (first | refine blk_drewN ?_ _ | refine blk_drew ?_ | refine blk_alloc ?_ _)); exact BK192.out) hb)
                      have n4_ := Aside0.mk (below_step (by repeat (first | (with_reducible first | exact HB.out | apply below_alloc | apply pw_below_drewN | apply below_drew1 | refine below_set ?_ GE186.out | refine below_set ?_ GE187.out | refine below_set ?_ GE191.out | refine below_set ?_ GE192.out) | exact HB.out)) hb)
                      clear BK186
                      clear BK187
                      clear BK191
                      clear BK192
                      clear HB
                      have BK186 := n0_
                      have BK187 := n1_
                      have BK191 := n2_
                      have BK192 := n3_
                      have HB := n4_
                      clear n0_ n1_ n2_ n3_ n4_
                      (try clear hb)
                      (try clear hb2)
                      (try clear hk)
                      (try clear hi)
                      refine hK.out _ _ ⟨(blk_cell BK192.out 0).trans rfl, (blk_cell BK192.out 1).trans rfl, (blk_cell BK192.out 2).trans rfl, ((HB.out.cell (World.block_lt_of_cell? w _ hw198_0)).trans hw198_0), ((HB.out.cell (World.block_lt_of_cell? w _ hw198_1)).trans hw198_1)⟩ (fun hHeld => ?_)
                      clear hK K
                      refine norm_ (a' := ?_) ?_ ?_
                      rotate_left
                      · show Act.put _ (some 76) _ = _
                        simp only [Act.put, List.setIfInBounds_toArray, List.set_cons_zero, List.set_cons_succ, i64_w, i32_w]
                        rfl
                      refine last_ (i := 9) (N := none) #[true, true, true, true, true, true, true, true, true, true] rfl rfl (one_of HT_.out (by kernel_rfl)) (by decide) (fun K hK => ?_)
                      have hs93 : w92.cell? ⟨gb192, 0, none⟩ = some (.int .i64 x193000_2) := (blk_cell BK192.out 0).trans rfl
                      have hfs93 := blk_frozen BK192.out 0
                      have hns93_0 := NB186_192.out
                      have hns93_1 := NB187_192.out
                      have hns93_2 := NB191_192.out
                      have hms93_0 := NB192_186.out
                      have hms93_1 := NB192_187.out
                      have hms93_2 := NB192_191.out
                      have hs94 : w92.cell? ⟨gb192, 1, none⟩ = some (.int .i64 x193001_2) := (blk_cell BK192.out 1).trans rfl
                      have hfs94 := blk_frozen BK192.out 1
                      have hns94_0 := NB186_192.out
                      have hns94_1 := NB187_192.out
                      have hns94_2 := NB191_192.out
                      have hms94_0 := NB192_186.out
                      have hms94_1 := NB192_187.out
                      have hms94_2 := NB192_191.out
                      have hs95 : w92.cell? ⟨gb192, 2, none⟩ = some (.int .i64 x193002_2) := (blk_cell BK192.out 2).trans rfl
                      have hfs95 := blk_frozen BK192.out 2
                      have hns95_0 := NB186_192.out
                      have hns95_1 := NB187_192.out
                      have hns95_2 := NB191_192.out
                      have hms95_0 := NB192_186.out
                      have hms95_1 := NB192_187.out
                      have hms95_2 := NB192_191.out
                      refine skip_ (w1 := ?_) (by rfl) rfl ?_ ?_
                      rotate_left
                      · go_simp
                        rfl
                      refine hK.out _ _ ?_
                      clear hK K
                      refine done_ (done_of HT_.out (by kernel_rfl)) ?_
                      have p202 : 0 ≤ (x14_2 : Int) := of_decide_eq_true (by first | (with_reducible assumption) | assumption)
                      have q202 : x14_2 < (l2.length : Int) := of_decide_eq_true (by first | (with_reducible assumption) | assumption)
                      obtain ⟨ad202, e202, hx202_0, hx202_1⟩ := at_T35 HR2.out x14_2 p202 q202
                      obtain rfl : ad193 = ad202 := (by injection e202)
                      have hn202_0 : ad193.block ≠ gb192 := Nat.ne_of_lt (Nat.lt_of_lt_of_le (by have := World.block_lt_of_cell? _ _ hx202_0; first | rwa [add_block] at this | exact this) GW192.out)
                      have hn202_1 : ad193.block ≠ gb192 := Nat.ne_of_lt (Nat.lt_of_lt_of_le (by have := World.block_lt_of_cell? _ _ hx202_0; first | rwa [add_block] at this | exact this) GW192.out)
                      have hn202_2 : ad193.block ≠ gb192 := Nat.ne_of_lt (Nat.lt_of_lt_of_le (by have := World.block_lt_of_cell? _ _ hx202_0; first | rwa [add_block] at this | exact this) GW192.out)
                      replace hx202_0 := (HB.out.cell (World.block_lt_of_cell? w _ hx202_0)).trans hx202_0
                      replace hx202_1 := (HB.out.cell (World.block_lt_of_cell? w _ hx202_1)).trans hx202_1
                      replace hx202_0 := (cell_far (p := ⟨gb192, 0, none⟩) (by first | (rw [add_block]; exact hn202_0) | (show (Addr.add _ _).block ≠ _; rw [add_block]; exact hn202_0) | exact hn202_0) (.int .i64 t199)).trans hx202_0
                      replace hx202_1 := (cell_far (p := ⟨gb192, 0, none⟩) (by first | (rw [add_block]; exact hn202_0) | (show (Addr.add _ _).block ≠ _; rw [add_block]; exact hn202_0) | exact hn202_0) (.int .i64 t199)).trans hx202_1
                      replace hx202_0 := (cell_far (p := ⟨gb192, 1, none⟩) (by first | (rw [add_block]; exact hn202_1) | (show (Addr.add _ _).block ≠ _; rw [add_block]; exact hn202_1) | exact hn202_1) (.int .i64 t200)).trans hx202_0
                      replace hx202_1 := (cell_far (p := ⟨gb192, 1, none⟩) (by first | (rw [add_block]; exact hn202_1) | (show (Addr.add _ _).block ≠ _; rw [add_block]; exact hn202_1) | exact hn202_1) (.int .i64 t200)).trans hx202_1
                      replace hx202_0 := (cell_far (p := ⟨gb192, 2, none⟩) (by first | (rw [add_block]; exact hn202_2) | (show (Addr.add _ _).block ≠ _; rw [add_block]; exact hn202_2) | exact hn202_2) (.int .i64 t201)).trans hx202_0
                      replace hx202_1 := (cell_far (p := ⟨gb192, 2, none⟩) (by first | (rw [add_block]; exact hn202_2) | (show (Addr.add _ _).block ≠ _; rw [add_block]; exact hn202_2) | exact hn202_2) (.int .i64 t201)).trans hx202_1
                      clear hn202_0
                      clear hn202_1
                      clear hn202_2
                      replace p202 := eq_true p202
                      replace q202 := eq_true q202
                      have hnb96 := NB191_186.out
                      have hnc96 := NB186_191.out
                      have hnb97 := NB191_187.out
                      have hnc97 := NB187_191.out
                      have hnb98 := NB191_192.out
                      have hnc98 := NB192_191.out
                      have hcz99_0 : w92.cell? ⟨gb191, 0, none⟩ = some (.int .i64 t195) := (blk_cell BK191.out 0).trans rfl
                      have hcz99_1 : w92.cell? ⟨gb191, 1, none⟩ = some (.int .i64 t196) := (blk_cell BK191.out 1).trans rfl
                      have hcz99_2 : w92.cell? ⟨gb191, 2, none⟩ = some (.int .i64 t197) := (blk_cell BK191.out 2).trans rfl
                      have hfz99_0 := blk_frozen BK191.out 0
                      have hfz99_1 := blk_frozen BK191.out 1
                      have hfz99_2 := blk_frozen BK191.out 2
                      try go_wp2
                      go_roundg k2
                      case measure => have := HJ6.out; have := HK2.out; omega
                      case rel => exact ⟨(wrap64 (x12_2 + 1)), (false), (wrap64 (x14_2 + 1)), (t195), (t196), (t197), (t199), (t200), (t201), (by first | rfl | (simp; done) | (simp [*]; done)), (by first | rfl | (simp; done) | (simp [*]; done)), (by first | rfl | (simp; done) | (simp [*]; done)), H', ⟨by have := HJ6.out; have := HK2.out; omega⟩, ⟨by (with_reducible repeat (first | refine blk_drewN ?_ _ | refine blk_drew ?_ | refine blk_alloc ?_ _)); refine blk_far ?_ NB186_192.out _; (with_reducible repeat (first | refine blk_drewN ?_ _ | refine blk_drew ?_ | refine blk_alloc ?_ _)); refine blk_far ?_ NB186_192.out _; (with_reducible repeat (first | refine blk_drewN ?_ _ | refine blk_drew ?_ | refine blk_alloc ?_ _)); refine blk_far ?_ NB186_192.out _; (with_reducible repeat (first | refine blk_drewN ?_ _ | refine blk_drew ?_ | refine blk_alloc ?_ _)); exact BK186.out⟩, ⟨by (with_reducible repeat (first | refine blk_drewN ?_ _ | refine blk_drew ?_ | refine blk_alloc ?_ _)); refine blk_far ?_ NB187_192.out _; (with_reducible repeat (first | refine blk_drewN ?_ _ | refine blk_drew ?_ | refine blk_alloc ?_ _)); refine blk_far ?_ NB187_192.out _; (with_reducible repeat (first | refine blk_drewN ?_ _ | refine blk_drew ?_ | refine blk_alloc ?_ _)); refine blk_far ?_ NB187_192.out _; (with_reducible repeat (first | refine blk_drewN ?_ _ | refine blk_drew ?_ | refine blk_alloc ?_ _)); exact BK187.out⟩, ⟨by (with_reducible repeat (first | refine blk_drewN ?_ _ | refine blk_drew ?_ | refine blk_alloc ?_ _)); refine blk_far ?_ NB191_192.out _; (with_reducible repeat (first | refine blk_drewN ?_ _ | refine blk_drew ?_ | refine blk_alloc ?_ _)); refine blk_far ?_ NB191_192.out _; (with_reducible repeat (first | refine blk_drewN ?_ _ | refine blk_drew ?_ | refine blk_alloc ?_ _)); refine blk_far ?_ NB191_192.out _; (with_reducible repeat (first | refine blk_drewN ?_ _ | refine blk_drew ?_ | refine blk_alloc ?_ _)); exact BK191.out⟩, ⟨by (with_reducible repeat (first | refine blk_drewN ?_ _ | refine blk_drew ?_ | refine blk_alloc ?_ _)); refine blk_put (cs := #[.int .i64 t199, .int .i64 t200, .int .i64 x193002_2]) ?_ 2 _ rfl; (with_reducible repeat (first | refine blk_drewN ?_ _ | refine blk_drew ?_ | refine blk_alloc ?_ _)); refine blk_put (cs := #[.int .i64 t199, .int .i64 x193001_2, .int .i64 x193002_2]) ?_ 1 _ rfl; (with_reducible repeat (first | refine blk_drewN ?_ _ | refine blk_drew ?_ | refine blk_alloc ?_ _)); refine blk_put (cs := #[.int .i64 x193000_2, .int .i64 x193001_2, .int .i64 x193002_2]) ?_ 0 _ rfl; (with_reducible repeat (first | refine blk_drewN ?_ _ | refine blk_drew ?_ | refine blk_alloc ?_ _)); exact BK192.out⟩, ⟨by repeat (first | (with_reducible first | exact HB.out | apply below_alloc | apply pw_below_drewN | apply below_drew1 | refine below_set ?_ GE186.out | refine below_set ?_ GE187.out | refine below_set ?_ GE191.out | refine below_set ?_ GE192.out) | exact HB.out)⟩⟩
                  · rw [if_neg c64] at H
                    have c64b0 : (t197 == (wrap64 (x12_2 + 1))) = false := beq_eq_false_iff_ne.mpr c64
                    have c64b1 : (t197 != (wrap64 (x12_2 + 1))) = true := bne_iff_ne.mpr c64
                    exact absurd HT.out (by rw [← Option.some.inj H]; decide)
              · rw [if_neg c40] at H
                exact absurd H (by simp)
            · rw [if_neg c39] at H
              have c39b0 : decide (x14_2 < (l2.length : Int)) = false := decide_eq_false c39
              clear c39
              have H1 : (if x13_2 = true then (some true) else (if x192000_2 = a0_0 then (some (x192001_2 == a0_1)) else (some false))) = some r := by first | (rw [if_pos rfl] at H; exact H) | (rw [if_pos True.intro] at H; exact H)
              clear H
              have H := H1
              clear H1
              by_cases c100 : x13_2 = true
              · subst c100
                have H1 : (some true) = some r := by rw [if_pos rfl] at H; exact H
                clear H
                have H := H1
                clear H1
                obtain rfl := Option.some.inj H
                go_wp2
                go_ret
                exact ⟨by first | rfl | (simp [errW_none, errW_some] <;> rfl) | (simp [*, errW_none, errW_some] <;> rfl), by repeat (first | (with_reducible first | exact HB.out | apply below_alloc | apply pw_below_drewN | apply below_drew1 | refine below_set ?_ GE186.out | refine below_set ?_ GE187.out | refine below_set ?_ GE191.out | refine below_set ?_ GE192.out) | exact HB.out)⟩
              · replace c100 := Bool.eq_false_iff.mpr c100
                subst c100
                have H1 : (if x192000_2 = a0_0 then (some (x192001_2 == a0_1)) else (some false)) = some r := by rw [if_neg (show ¬ (false = true) by decide)] at H; exact H
                clear H
                have H := H1
                clear H1
                by_cases c101 : x192000_2 = a0_0
                · rw [if_pos c101] at H
                  have c101b0 : (x192000_2 == a0_0) = true := beq_iff_eq.mpr c101
                  have c101b1 : (x192000_2 != a0_0) = false := bne_eq_false_iff_eq.mpr c101
                  clear c101
                  obtain rfl := Option.some.inj H
                  have hnb102 := NB191_186.out
                  have hnc102 := NB186_191.out
                  have hnb103 := NB191_187.out
                  have hnc103 := NB187_191.out
                  have hnb104 := NB191_192.out
                  have hnc104 := NB192_191.out
                  have hcz105_0 : wr.cell? ⟨gb191, 0, none⟩ = some (.int .i64 x192000_2) := (blk_cell BK191.out 0).trans rfl
                  have hcz105_1 : wr.cell? ⟨gb191, 1, none⟩ = some (.int .i64 x192001_2) := (blk_cell BK191.out 1).trans rfl
                  have hcz105_2 : wr.cell? ⟨gb191, 2, none⟩ = some (.int .i64 x192002_2) := (blk_cell BK191.out 2).trans rfl
                  have hfz105_0 := blk_frozen BK191.out 0
                  have hfz105_1 := blk_frozen BK191.out 1
                  have hfz105_2 := blk_frozen BK191.out 2
                  have hnb106 := NB186_187.out
                  have hnc106 := NB187_186.out
                  have hnb107 := NB186_192.out
                  have hnc107 := NB192_186.out
                  have hcz108_0 : wr.cell? ⟨gb186, 0, none⟩ = some (.int .i64 a0_0) := (blk_cell BK186.out 0).trans rfl
                  have hcz108_1 : wr.cell? ⟨gb186, 1, none⟩ = some (.int .i64 a0_1) := (blk_cell BK186.out 1).trans rfl
                  have hcz108_2 : wr.cell? ⟨gb186, 2, none⟩ = some (.int .i64 a0_2) := (blk_cell BK186.out 2).trans rfl
                  have hfz108_0 := blk_frozen BK186.out 0
                  have hfz108_1 := blk_frozen BK186.out 1
                  have hfz108_2 := blk_frozen BK186.out 2
                  go_wp2
                  go_ret
                  exact ⟨by first | rfl | (simp [errW_none, errW_some] <;> rfl) | (simp [*, errW_none, errW_some] <;> rfl), by repeat (first | (with_reducible first | exact HB.out | apply below_alloc | apply pw_below_drewN | apply below_drew1 | refine below_set ?_ GE186.out | refine below_set ?_ GE187.out | refine below_set ?_ GE191.out | refine below_set ?_ GE192.out) | exact HB.out)⟩
                · rw [if_neg c101] at H
                  have c101b0 : (x192000_2 == a0_0) = false := beq_eq_false_iff_ne.mpr c101
                  have c101b1 : (x192000_2 != a0_0) = true := bne_iff_ne.mpr c101
                  exact absurd HT.out (by rw [← Option.some.inj H]; decide)

end Go.Proofs.Ythnbcedpdjingaa.P
