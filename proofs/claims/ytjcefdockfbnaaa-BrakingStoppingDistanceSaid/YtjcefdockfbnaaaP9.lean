-- Written by this session's own program, for this seat. Lean checks it.
import Derived.Test.YtjcefdockfbnaaaP0
import Derived.Test.YtjcefdockfbnaaaP1
import Derived.Test.YtjcefdockfbnaaaP2
namespace Go.Proofs.Ytjcefdockfbnaaa.P
open Go.RowKit Go.Proofs.YtjcefdockfbnaaaW.PrintWords Go.Proofs.YtjcefdockfbnaaaW.PrintLast Go.Proofs.YtjcefdockfbnaaaW.PrintMore
attribute [local go_sem] max2_int min2_int max_two min_two max_three min_three max_four min_four   -- for this text's walks alone
set_option linter.unusedVariables false
set_option linter.unusedSimpArgs false

/-! ### ambidexterlaw28_BrakingStoppingDistance: function 11 -/
mutual
def ambidexterlaw28_BrakingStoppingDistance.j0 : Nat → Int → Int → Bool → Bool → Int → Int → Int → Int → Int → Int → Option (Bool)
  | 0, _, _, _, _, _, _, _, _, _, _ => none
  | k + 1, x2, x3, x9, x36, x291000, x291001, x291002, x292000, x292001, x292002 => if x36 = true then (some x9) else ((braking_StopMotion.f k x291000 x291001 x291002 x292000 x292001 x292002 (Int.tmod (wrap64 (x2)) 3)).bind fun t294 => ((braking_Distance.f k x291000 x291001 x291002 x292000 x292001 x292002 (Int.tmod (wrap64 (x2)) 3)).bind fun t297 => (ambidexterlaw28_BrakingStoppingDistance.l0 k x3 x9 (Int.tmod (wrap64 (x2)) 3) t294 t297 (t297 == 0) 0 x291000 x291001 x291002 x292000 x292001 x292002)))
def ambidexterlaw28_BrakingStoppingDistance.l0 : Nat → Int → Bool → Int → List (S37) → Int → Bool → Int → Int → Int → Int → Int → Int → Int → Option (Bool)
  | 0, _, _, _, _, _, _, _, _, _, _, _, _, _ => none
  | k + 1, x3, x9, x11, x12, x13, x14, x15, x291000, x291001, x291002, x292000, x292001, x292002 => if x15 < (x12.length : Int) then (if 0 ≤ x15 then (if (mx (wrap64 (((rd_T37 x12 x15).f0) - x292000)) (wrap64 (x292000 - ((rd_T37 x12 x15).f0)))) > x13 then (some false) else (if x14 = true then (ambidexterlaw28_BrakingStoppingDistance.l0 k x3 x9 x11 x12 x13 true (wrap64 (x15 + 1)) x291000 x291001 x291002 x292000 x292001 x292002) else (ambidexterlaw28_BrakingStoppingDistance.l0 k x3 x9 x11 x12 x13 ((mx (wrap64 (((rd_T37 x12 x15).f0) - x292000)) (wrap64 (x292000 - ((rd_T37 x12 x15).f0)))) == x13) (wrap64 (x15 + 1)) x291000 x291001 x291002 x292000 x292001 x292002))) else (none)) else ((braking_StopMotion.f k x291000 x291001 x291002 (wrap64 (x292000 + (wrap64 (x3)))) x292001 x292002 x11).bind fun t302 => (if x14 = true then (if x13 < 0 then (ambidexterlaw28_BrakingStoppingDistance.j2 k x3 x9 x11 x12 x13 t302 true x291000 x291001 x291002 (wrap64 (-x292000)) (wrap64 (-x292001)) (wrap64 (-x292002))) else ((braking_Duration.f k x291000 x291001 x291002 (wrap64 (-x292000)) (wrap64 (-x292001)) (wrap64 (-x292002)) x11).bind fun t305 => (if t305 = (x12.length : Int) then (if (t302.length : Int) = (x12.length : Int) then ((braking_Distance.f k x291000 x291001 x291002 (wrap64 (x292000 + (wrap64 (x3)))) x292001 x292002 x11).bind fun t306 => (ambidexterlaw28_BrakingStoppingDistance.j2 k x3 x9 x11 x12 x13 t302 (t306 != x13) x291000 x291001 x291002 (wrap64 (-x292000)) (wrap64 (-x292001)) (wrap64 (-x292002)))) else (ambidexterlaw28_BrakingStoppingDistance.j2 k x3 x9 x11 x12 x13 t302 true x291000 x291001 x291002 (wrap64 (-x292000)) (wrap64 (-x292001)) (wrap64 (-x292002)))) else (ambidexterlaw28_BrakingStoppingDistance.j2 k x3 x9 x11 x12 x13 t302 true x291000 x291001 x291002 (wrap64 (-x292000)) (wrap64 (-x292001)) (wrap64 (-x292002)))))) else (ambidexterlaw28_BrakingStoppingDistance.j2 k x3 x9 x11 x12 x13 t302 true x291000 x291001 x291002 (wrap64 (-x292000)) (wrap64 (-x292001)) (wrap64 (-x292002)))))
def ambidexterlaw28_BrakingStoppingDistance.j2 : Nat → Int → Bool → Int → List (S37) → Int → List (S37) → Bool → Int → Int → Int → Int → Int → Int → Option (Bool)
  | 0, _, _, _, _, _, _, _, _, _, _, _, _, _ => none
  | k + 1, x3, x9, x11, x12, x13, x19, x136, x291000, x291001, x291002, x301000, x301001, x301002 => if x136 = true then (some false) else (ambidexterlaw28_BrakingStoppingDistance.l1 k x3 x9 x11 x12 x13 x19 0 x291000 x291001 x291002 x301000 x301001 x301002)
def ambidexterlaw28_BrakingStoppingDistance.l1 : Nat → Int → Bool → Int → List (S37) → Int → List (S37) → Int → Int → Int → Int → Int → Int → Int → Option (Bool)
  | 0, _, _, _, _, _, _, _, _, _, _, _, _, _ => none
  | k + 1, x3, x9, x11, x12, x13, x19, x20, x291000, x291001, x291002, x301000, x301001, x301002 => if x20 < (x12.length : Int) then (if 0 ≤ x20 then (if x20 < (x19.length : Int) then (if ((rd_T37 x19 x20).f0) = (wrap64 (((rd_T37 x12 x20).f0) + (wrap64 (x3)))) then (if ((rd_T37 x19 x20).f1) = ((rd_T37 x12 x20).f1) then (if ((rd_T37 x19 x20).f2) = ((rd_T37 x12 x20).f2) then (ambidexterlaw28_BrakingStoppingDistance.l1 k x3 x9 x11 x12 x13 x19 (wrap64 (x20 + 1)) x291000 x291001 x291002 x301000 x301001 x301002) else (some false)) else (some false)) else (some false)) else (none)) else (none)) else (if x9 = true then (if x11 > 0 then (some true) else ((braking_Distance.f k x291000 x291001 x291002 x301000 x301001 x301002 x11).bind fun t313 => (some (t313 == x13)))) else (some false))
end
def ambidexterlaw28_BrakingStoppingDistance.f (k : Nat) (a0_0 : Int) (a0_1 : Int) (a0_2 : Int) (a1_0 : Int) (a1_1 : Int) (a1_2 : Int) (a2 : Int) (a3 : Int) : Option (Bool) := (ambidexterlaw28_head.f k).bind fun t292 => ((ambidexterref28_May.f a0_0 a0_1 a0_2 a1_0 a1_1 a1_2).bind fun t293 => (if t293 = true then (if a1_0 > 549755813888 then (ambidexterlaw28_BrakingStoppingDistance.j0 k a2 a3 t292 true a0_0 a0_1 a0_2 a1_0 a1_1 a1_2) else (ambidexterlaw28_BrakingStoppingDistance.j0 k a2 a3 t292 (decide (a1_0 < (-549755813888))) a0_0 a0_1 a0_2 a1_0 a1_1 a1_2)) else (ambidexterlaw28_BrakingStoppingDistance.j0 k a2 a3 t292 true a0_0 a0_1 a0_2 a1_0 a1_1 a1_2)))
theorem ambidexterlaw28_BrakingStoppingDistance.mono_l : ∀ k, (∀ y0 y1 y2 y3 y4 y5 y6 y7 y8 y9, LeO (ambidexterlaw28_BrakingStoppingDistance.j0 k y0 y1 y2 y3 y4 y5 y6 y7 y8 y9) (ambidexterlaw28_BrakingStoppingDistance.j0 (k + 1) y0 y1 y2 y3 y4 y5 y6 y7 y8 y9)) ∧ (∀ y0 y1 y2 y3 y4 y5 y6 y7 y8 y9 y10 y11 y12, LeO (ambidexterlaw28_BrakingStoppingDistance.l0 k y0 y1 y2 y3 y4 y5 y6 y7 y8 y9 y10 y11 y12) (ambidexterlaw28_BrakingStoppingDistance.l0 (k + 1) y0 y1 y2 y3 y4 y5 y6 y7 y8 y9 y10 y11 y12)) ∧ (∀ y0 y1 y2 y3 y4 y5 y6 y7 y8 y9 y10 y11 y12, LeO (ambidexterlaw28_BrakingStoppingDistance.j2 k y0 y1 y2 y3 y4 y5 y6 y7 y8 y9 y10 y11 y12) (ambidexterlaw28_BrakingStoppingDistance.j2 (k + 1) y0 y1 y2 y3 y4 y5 y6 y7 y8 y9 y10 y11 y12)) ∧ (∀ y0 y1 y2 y3 y4 y5 y6 y7 y8 y9 y10 y11 y12, LeO (ambidexterlaw28_BrakingStoppingDistance.l1 k y0 y1 y2 y3 y4 y5 y6 y7 y8 y9 y10 y11 y12) (ambidexterlaw28_BrakingStoppingDistance.l1 (k + 1) y0 y1 y2 y3 y4 y5 y6 y7 y8 y9 y10 y11 y12))
  | 0 => ⟨fun _ _ _ _ _ _ _ _ _ _ r h => by simp [ambidexterlaw28_BrakingStoppingDistance.j0] at h, fun _ _ _ _ _ _ _ _ _ _ _ _ _ r h => by simp [ambidexterlaw28_BrakingStoppingDistance.l0] at h, fun _ _ _ _ _ _ _ _ _ _ _ _ _ r h => by simp [ambidexterlaw28_BrakingStoppingDistance.j2] at h, fun _ _ _ _ _ _ _ _ _ _ _ _ _ r h => by simp [ambidexterlaw28_BrakingStoppingDistance.l1] at h⟩
  | k + 1 => by
    obtain ⟨ih0, ih1, ih2, ih3⟩ := ambidexterlaw28_BrakingStoppingDistance.mono_l k
    refine ⟨?_, ?_, ?_, ?_⟩
    · intro y0 y1 y2 y3 y4 y5 y6 y7 y8 y9
      unfold ambidexterlaw28_BrakingStoppingDistance.j0
      repeat' first
      | (with_reducible exact ih0 _ _ _ _ _ _ _ _ _ _)
      | (with_reducible exact ih1 _ _ _ _ _ _ _ _ _ _ _ _ _)
      | (with_reducible exact ih2 _ _ _ _ _ _ _ _ _ _ _ _ _)
      | (with_reducible exact ih3 _ _ _ _ _ _ _ _ _ _ _ _ _)
      | (with_reducible exact ambidexterlaw28_head.mono _)
      | (with_reducible exact braking_Distance.mono _ _ _ _ _ _ _ _)
      | (with_reducible exact braking_Duration.mono _ _ _ _ _ _ _ _)
      | (with_reducible exact braking_StopMotion.mono _ _ _ _ _ _ _ _)
      | (with_reducible exact LeO.refl _)
      | (with_reducible exact LeO.none _)
      | (with_reducible refine LeO.ite ?_ ?_)
      | (with_reducible refine LeO.bind ?_ (fun _ => ?_))
      | exact ih0 _ _ _ _ _ _ _ _ _ _
      | exact ih1 _ _ _ _ _ _ _ _ _ _ _ _ _
      | exact ih2 _ _ _ _ _ _ _ _ _ _ _ _ _
      | exact ih3 _ _ _ _ _ _ _ _ _ _ _ _ _
      | exact ambidexterlaw28_head.mono _
      | exact braking_Distance.mono _ _ _ _ _ _ _ _
      | exact braking_Duration.mono _ _ _ _ _ _ _ _
      | exact braking_StopMotion.mono _ _ _ _ _ _ _ _
      | exact LeO.none _
      | refine LeO.ite ?_ ?_
      | refine LeO.bind ?_ (fun _ => ?_)
    · intro y0 y1 y2 y3 y4 y5 y6 y7 y8 y9 y10 y11 y12
      unfold ambidexterlaw28_BrakingStoppingDistance.l0
      repeat' first
      | (with_reducible exact ih0 _ _ _ _ _ _ _ _ _ _)
      | (with_reducible exact ih1 _ _ _ _ _ _ _ _ _ _ _ _ _)
      | (with_reducible exact ih2 _ _ _ _ _ _ _ _ _ _ _ _ _)
      | (with_reducible exact ih3 _ _ _ _ _ _ _ _ _ _ _ _ _)
      | (with_reducible exact ambidexterlaw28_head.mono _)
      | (with_reducible exact braking_Distance.mono _ _ _ _ _ _ _ _)
      | (with_reducible exact braking_Duration.mono _ _ _ _ _ _ _ _)
      | (with_reducible exact braking_StopMotion.mono _ _ _ _ _ _ _ _)
      | (with_reducible exact LeO.refl _)
      | (with_reducible exact LeO.none _)
      | (with_reducible refine LeO.ite ?_ ?_)
      | (with_reducible refine LeO.bind ?_ (fun _ => ?_))
      | exact ih0 _ _ _ _ _ _ _ _ _ _
      | exact ih1 _ _ _ _ _ _ _ _ _ _ _ _ _
      | exact ih2 _ _ _ _ _ _ _ _ _ _ _ _ _
      | exact ih3 _ _ _ _ _ _ _ _ _ _ _ _ _
      | exact ambidexterlaw28_head.mono _
      | exact braking_Distance.mono _ _ _ _ _ _ _ _
      | exact braking_Duration.mono _ _ _ _ _ _ _ _
      | exact braking_StopMotion.mono _ _ _ _ _ _ _ _
      | exact LeO.none _
      | refine LeO.ite ?_ ?_
      | refine LeO.bind ?_ (fun _ => ?_)
    · intro y0 y1 y2 y3 y4 y5 y6 y7 y8 y9 y10 y11 y12
      unfold ambidexterlaw28_BrakingStoppingDistance.j2
      repeat' first
      | (with_reducible exact ih0 _ _ _ _ _ _ _ _ _ _)
      | (with_reducible exact ih1 _ _ _ _ _ _ _ _ _ _ _ _ _)
      | (with_reducible exact ih2 _ _ _ _ _ _ _ _ _ _ _ _ _)
      | (with_reducible exact ih3 _ _ _ _ _ _ _ _ _ _ _ _ _)
      | (with_reducible exact ambidexterlaw28_head.mono _)
      | (with_reducible exact braking_Distance.mono _ _ _ _ _ _ _ _)
      | (with_reducible exact braking_Duration.mono _ _ _ _ _ _ _ _)
      | (with_reducible exact braking_StopMotion.mono _ _ _ _ _ _ _ _)
      | (with_reducible exact LeO.refl _)
      | (with_reducible exact LeO.none _)
      | (with_reducible refine LeO.ite ?_ ?_)
      | (with_reducible refine LeO.bind ?_ (fun _ => ?_))
      | exact ih0 _ _ _ _ _ _ _ _ _ _
      | exact ih1 _ _ _ _ _ _ _ _ _ _ _ _ _
      | exact ih2 _ _ _ _ _ _ _ _ _ _ _ _ _
      | exact ih3 _ _ _ _ _ _ _ _ _ _ _ _ _
      | exact ambidexterlaw28_head.mono _
      | exact braking_Distance.mono _ _ _ _ _ _ _ _
      | exact braking_Duration.mono _ _ _ _ _ _ _ _
      | exact braking_StopMotion.mono _ _ _ _ _ _ _ _
      | exact LeO.none _
      | refine LeO.ite ?_ ?_
      | refine LeO.bind ?_ (fun _ => ?_)
    · intro y0 y1 y2 y3 y4 y5 y6 y7 y8 y9 y10 y11 y12
      unfold ambidexterlaw28_BrakingStoppingDistance.l1
      repeat' first
      | (with_reducible exact ih0 _ _ _ _ _ _ _ _ _ _)
      | (with_reducible exact ih1 _ _ _ _ _ _ _ _ _ _ _ _ _)
      | (with_reducible exact ih2 _ _ _ _ _ _ _ _ _ _ _ _ _)
      | (with_reducible exact ih3 _ _ _ _ _ _ _ _ _ _ _ _ _)
      | (with_reducible exact ambidexterlaw28_head.mono _)
      | (with_reducible exact braking_Distance.mono _ _ _ _ _ _ _ _)
      | (with_reducible exact braking_Duration.mono _ _ _ _ _ _ _ _)
      | (with_reducible exact braking_StopMotion.mono _ _ _ _ _ _ _ _)
      | (with_reducible exact LeO.refl _)
      | (with_reducible exact LeO.none _)
      | (with_reducible refine LeO.ite ?_ ?_)
      | (with_reducible refine LeO.bind ?_ (fun _ => ?_))
      | exact ih0 _ _ _ _ _ _ _ _ _ _
      | exact ih1 _ _ _ _ _ _ _ _ _ _ _ _ _
      | exact ih2 _ _ _ _ _ _ _ _ _ _ _ _ _
      | exact ih3 _ _ _ _ _ _ _ _ _ _ _ _ _
      | exact ambidexterlaw28_head.mono _
      | exact braking_Distance.mono _ _ _ _ _ _ _ _
      | exact braking_Duration.mono _ _ _ _ _ _ _ _
      | exact braking_StopMotion.mono _ _ _ _ _ _ _ _
      | exact LeO.none _
      | refine LeO.ite ?_ ?_
      | refine LeO.bind ?_ (fun _ => ?_)
theorem ambidexterlaw28_BrakingStoppingDistance.mono : ∀ a0 a1 a2 a3 a4 a5 a6 a7 k, LeO (ambidexterlaw28_BrakingStoppingDistance.f k a0 a1 a2 a3 a4 a5 a6 a7) (ambidexterlaw28_BrakingStoppingDistance.f (k + 1) a0 a1 a2 a3 a4 a5 a6 a7) := by
  intro a0 a1 a2 a3 a4 a5 a6 a7 k
  obtain ⟨ih0, ih1, ih2, ih3⟩ := ambidexterlaw28_BrakingStoppingDistance.mono_l k
  unfold ambidexterlaw28_BrakingStoppingDistance.f
  repeat' first
      | (with_reducible exact ih0 _ _ _ _ _ _ _ _ _ _)
      | (with_reducible exact ih1 _ _ _ _ _ _ _ _ _ _ _ _ _)
      | (with_reducible exact ih2 _ _ _ _ _ _ _ _ _ _ _ _ _)
      | (with_reducible exact ih3 _ _ _ _ _ _ _ _ _ _ _ _ _)
      | (with_reducible exact ambidexterlaw28_head.mono _)
      | (with_reducible exact braking_Distance.mono _ _ _ _ _ _ _ _)
      | (with_reducible exact braking_Duration.mono _ _ _ _ _ _ _ _)
      | (with_reducible exact braking_StopMotion.mono _ _ _ _ _ _ _ _)
      | (with_reducible exact LeO.refl _)
      | (with_reducible exact LeO.none _)
      | (with_reducible refine LeO.ite ?_ ?_)
      | (with_reducible refine LeO.bind ?_ (fun _ => ?_))
      | exact ih0 _ _ _ _ _ _ _ _ _ _
      | exact ih1 _ _ _ _ _ _ _ _ _ _ _ _ _
      | exact ih2 _ _ _ _ _ _ _ _ _ _ _ _ _
      | exact ih3 _ _ _ _ _ _ _ _ _ _ _ _ _
      | exact ambidexterlaw28_head.mono _
      | exact braking_Distance.mono _ _ _ _ _ _ _ _
      | exact braking_Duration.mono _ _ _ _ _ _ _ _
      | exact braking_StopMotion.mono _ _ _ _ _ _ _ _
      | exact LeO.none _
      | refine LeO.ite ?_ ?_
      | refine LeO.bind ?_ (fun _ => ?_)
set_option maxHeartbeats 8000000 in
set_option maxRecDepth 100000 in
theorem ambidexterlaw28_BrakingStoppingDistance.calls0 (k : Nat) (a0_0 : Int) (a0_1 : Int) (a0_2 : Int) (a1_0 : Int) (a1_1 : Int) (a1_2 : Int) (a2 : Int) (a3 : Int) (r : Bool) (w : World) (h : ambidexterlaw28_BrakingStoppingDistance.f k a0_0 a0_1 a0_2 a1_0 a1_1 a1_2 a2 a3 = some r) (hT : r = true) :
    Calls Try.prog 11 #[.agg #[.int .i64 a0_0, .int .i64 a0_1, .int .i64 a0_2], .agg #[.int .i64 a1_0, .int .i64 a1_1, .int .i64 a1_2], .int .u8 a2, .int .i32 a3] w fun e w' => e = .returned (.bool r) ∧ Below w.heap.size w w' := by
  have hu23 := Try.underlying23
  have hu37 := Try.underlying37
  have HB := Aside0.mk (Below.refl w.heap.size w)
  have H : ((ambidexterlaw28_head.f k).bind fun t292 => ((ambidexterref28_May.f a0_0 a0_1 a0_2 a1_0 a1_1 a1_2).bind fun t293 => (if t293 = true then (if a1_0 > 549755813888 then (ambidexterlaw28_BrakingStoppingDistance.j0 k a2 a3 t292 true a0_0 a0_1 a0_2 a1_0 a1_1 a1_2) else (ambidexterlaw28_BrakingStoppingDistance.j0 k a2 a3 t292 (decide (a1_0 < (-549755813888))) a0_0 a0_1 a0_2 a1_0 a1_1 a1_2)) else (ambidexterlaw28_BrakingStoppingDistance.j0 k a2 a3 t292 true a0_0 a0_1 a0_2 a1_0 a1_1 a1_2)))) = some r := h
  clear h
  have HT := Aside0.mk hT
  clear hT
  replace H := Option.bind_eq_some_iff.mp H
  obtain ⟨t292, A50, H⟩ := H
  obtain rfl := ambidexterlaw28_head.is_true k A50
  replace H : ((ambidexterref28_May.f a0_0 a0_1 a0_2 a1_0 a1_1 a1_2).bind fun t293 => (if t293 = true then (if a1_0 > 549755813888 then (ambidexterlaw28_BrakingStoppingDistance.j0 k a2 a3 true true a0_0 a0_1 a0_2 a1_0 a1_1 a1_2) else (ambidexterlaw28_BrakingStoppingDistance.j0 k a2 a3 true (decide (a1_0 < (-549755813888))) a0_0 a0_1 a0_2 a1_0 a1_1 a1_2)) else (ambidexterlaw28_BrakingStoppingDistance.j0 k a2 a3 true true a0_0 a0_1 a0_2 a1_0 a1_1 a1_2))) = some r := H
  have A5 := Aside0.mk A50
  clear A50
  replace H := Option.bind_eq_some_iff.mp H
  obtain ⟨t293, A60, H⟩ := H
  replace H : (if t293 = true then (if a1_0 > 549755813888 then (ambidexterlaw28_BrakingStoppingDistance.j0 k a2 a3 true true a0_0 a0_1 a0_2 a1_0 a1_1 a1_2) else (ambidexterlaw28_BrakingStoppingDistance.j0 k a2 a3 true (decide (a1_0 < (-549755813888))) a0_0 a0_1 a0_2 a1_0 a1_1 a1_2)) else (ambidexterlaw28_BrakingStoppingDistance.j0 k a2 a3 true true a0_0 a0_1 a0_2 a1_0 a1_1 a1_2)) = some r := H
  have A6 := Aside0.mk A60
  clear A60
  have HC7 := Aside0.mk H
  clear H
  go_enter Try.func11, Try.ntmps11
  go_upto_region 3 with (first | ((with_reducible refine gate_dst (N := 4) rfl ?_); (try (refine gate_guard (by rfl) ?_; dsimp only)); refine box_event ?hg (N := 4) ?hd (cs := #[.int .i64 a0_0, .int .i64 a0_1, .int .i64 a0_2]) (t := 23) ?hr ?_; (case hd => rfl); (case hg => rfl); (case hr => first | (go_simp; done) | (go_simp; rfl)); intro gb290 hg w8 hbox hb; have n0_ := Aside0.mk (below_step (by repeat (first | (with_reducible first | exact HB.out | apply below_alloc | apply pw_below_drewN | apply below_drew1) | exact HB.out)) hb); have n1_ := Aside0.mk (hbox); have n2_ := Aside0.mk ((by rw [hg]; exact (below_size (by repeat (first | (with_reducible first | exact HB.out | apply below_alloc | apply pw_below_drewN | apply below_drew1) | exact HB.out))) : w.heap.size ≤ gb290)); have n3_ := Aside0.mk ((by rw [hg]; exact (below_size (by repeat (first | (with_reducible first | exact HB.out | apply below_alloc | apply pw_below_drewN | apply below_drew1) | exact HB.out))) : w.heap.size ≤ gb290)); clear HB; have HB := n0_; have BK290 := n1_; have GW290 := n2_; have GE290 := n3_; clear n0_ n1_ n2_ n3_; clear hb hbox hg) | ((with_reducible refine gate_dst (N := 5) rfl ?_); (try (refine gate_guard (by rfl) ?_; dsimp only)); refine box_event ?hg (N := 5) ?hd (cs := #[.int .i64 a1_0, .int .i64 a1_1, .int .i64 a1_2]) (t := 37) ?hr ?_; (case hd => rfl); (case hg => rfl); (case hr => first | (go_simp; done) | (go_simp; rfl)); intro gb291 hg w9 hbox hb; have n0_ := Aside0.mk (blk_below (g := gb290) (o := .cells #[.int .i64 a0_0, .int .i64 a0_1, .int .i64 a0_2] 23 (0, 0)) (by (with_reducible repeat (first | refine blk_drewN ?_ _ | refine blk_drew ?_ | refine blk_alloc ?_ _)); exact BK290.out) hb); have n1_ := Aside0.mk (below_step (by repeat (first | (with_reducible first | exact HB.out | apply below_alloc | apply pw_below_drewN | apply below_drew1 | refine below_set ?_ GE290.out) | exact HB.out)) hb); have n2_ := Aside0.mk (hbox); have n3_ := Aside0.mk ((by rw [hg]; exact (below_size (by repeat (first | (with_reducible first | exact HB.out | apply below_alloc | apply pw_below_drewN | apply below_drew1 | refine below_set ?_ GE290.out) | exact HB.out))) : w.heap.size ≤ gb291)); have n4_ := Aside0.mk ((by rw [hg]; exact (below_size (by repeat (first | (with_reducible first | exact HB.out | apply below_alloc | apply pw_below_drewN | apply below_drew1 | refine below_set ?_ GE290.out) | exact HB.out))) : w.heap.size ≤ gb291)); have n5_ := Aside0.mk ((by rw [hg]; exact Nat.ne_of_lt (blk_lt (g := gb290) (o := .cells #[.int .i64 a0_0, .int .i64 a0_1, .int .i64 a0_2] 23 (0, 0)) (by (with_reducible repeat (first | refine blk_drewN ?_ _ | refine blk_drew ?_ | refine blk_alloc ?_ _)); exact BK290.out)) : gb290 ≠ gb291)); have n6_ := Aside0.mk ((by rw [hg]; exact Nat.ne_of_gt (blk_lt (g := gb290) (o := .cells #[.int .i64 a0_0, .int .i64 a0_1, .int .i64 a0_2] 23 (0, 0)) (by (with_reducible repeat (first | refine blk_drewN ?_ _ | refine blk_drew ?_ | refine blk_alloc ?_ _)); exact BK290.out)) : gb291 ≠ gb290)); clear BK290; clear HB; have BK290 := n0_; have HB := n1_; have BK291 := n2_; have GW291 := n3_; have GE291 := n4_; have NB290_291 := n5_; have NB291_290 := n6_; clear n0_ n1_ n2_ n3_ n4_ n5_ n6_; clear hb hbox hg) | (go_at_call 25; (with_reducible refine (ambidexterlaw28_head.calls k  true _ A5.out).mono ?_); rintro e w10 ⟨rfl, hb⟩; have n0_ := Aside0.mk (blk_below (g := gb290) (o := .cells #[.int .i64 a0_0, .int .i64 a0_1, .int .i64 a0_2] 23 (0, 0)) (by (with_reducible repeat (first | refine blk_drewN ?_ _ | refine blk_drew ?_ | refine blk_alloc ?_ _)); exact BK290.out) hb); have n1_ := Aside0.mk (blk_below (g := gb291) (o := .cells #[.int .i64 a1_0, .int .i64 a1_1, .int .i64 a1_2] 37 (0, 0)) (by (with_reducible repeat (first | refine blk_drewN ?_ _ | refine blk_drew ?_ | refine blk_alloc ?_ _)); exact BK291.out) hb); have n2_ := Aside0.mk (below_step (by repeat (first | (with_reducible first | exact HB.out | apply below_alloc | apply pw_below_drewN | apply below_drew1 | refine below_set ?_ GE290.out | refine below_set ?_ GE291.out) | exact HB.out)) hb); clear BK290; clear BK291; clear HB; have BK290 := n0_; have BK291 := n1_; have HB := n2_; clear n0_ n1_ n2_; (try clear hb); (try clear hb2); (try clear hk); (try clear hi); have hnb11 := NB290_291.out; have hnc11 := NB291_290.out; have hcz12_0 : w10.cell? ⟨gb290, 0, none⟩ = some (.int .i64 a0_0) := (blk_cell BK290.out 0).trans rfl; have hcz12_1 : w10.cell? ⟨gb290, 1, none⟩ = some (.int .i64 a0_1) := (blk_cell BK290.out 1).trans rfl; have hcz12_2 : w10.cell? ⟨gb290, 2, none⟩ = some (.int .i64 a0_2) := (blk_cell BK290.out 2).trans rfl; have hfz12_0 := blk_frozen BK290.out 0; have hfz12_1 := blk_frozen BK290.out 1; have hfz12_2 := blk_frozen BK290.out 2; have hcz13_0 : w10.cell? ⟨gb291, 0, none⟩ = some (.int .i64 a1_0) := (blk_cell BK291.out 0).trans rfl; have hcz13_1 : w10.cell? ⟨gb291, 1, none⟩ = some (.int .i64 a1_1) := (blk_cell BK291.out 1).trans rfl; have hcz13_2 : w10.cell? ⟨gb291, 2, none⟩ = some (.int .i64 a1_2) := (blk_cell BK291.out 2).trans rfl; have hfz13_0 := blk_frozen BK291.out 0; have hfz13_1 := blk_frozen BK291.out 1; have hfz13_2 := blk_frozen BK291.out 2) | (go_at_call 26; (with_reducible refine (ambidexterref28_May.calls a0_0 a0_1 a0_2 a1_0 a1_1 a1_2 t293 _ A6.out).mono ?_); rintro e w14 ⟨rfl, hb⟩; have n0_ := Aside0.mk (blk_below (g := gb290) (o := .cells #[.int .i64 a0_0, .int .i64 a0_1, .int .i64 a0_2] 23 (0, 0)) (by (with_reducible repeat (first | refine blk_drewN ?_ _ | refine blk_drew ?_ | refine blk_alloc ?_ _)); exact BK290.out) hb); have n1_ := Aside0.mk (blk_below (g := gb291) (o := .cells #[.int .i64 a1_0, .int .i64 a1_1, .int .i64 a1_2] 37 (0, 0)) (by (with_reducible repeat (first | refine blk_drewN ?_ _ | refine blk_drew ?_ | refine blk_alloc ?_ _)); exact BK291.out) hb); have n2_ := Aside0.mk (below_step (by repeat (first | (with_reducible first | exact HB.out | apply below_alloc | apply pw_below_drewN | apply below_drew1 | refine below_set ?_ GE290.out | refine below_set ?_ GE291.out) | exact HB.out)) hb); clear BK290; clear BK291; clear HB; have BK290 := n0_; have BK291 := n1_; have HB := n2_; clear n0_ n1_ n2_; (try clear hb); (try clear hb2); (try clear hk); (try clear hi)))
  repeat (go_quiet (first | ((with_reducible refine gate_dst (N := 4) rfl ?_); (try (refine gate_guard (by rfl) ?_; dsimp only)); refine box_event ?hg (N := 4) ?hd (cs := #[.int .i64 a0_0, .int .i64 a0_1, .int .i64 a0_2]) (t := 23) ?hr ?_; (case hd => rfl); (case hg => rfl); (case hr => first | (go_simp; done) | (go_simp; rfl)); intro gb290 hg w8 hbox hb; have n0_ := Aside0.mk (below_step (by repeat (first | (with_reducible first | exact HB.out | apply below_alloc | apply pw_below_drewN | apply below_drew1) | exact HB.out)) hb); have n1_ := Aside0.mk (hbox); have n2_ := Aside0.mk ((by rw [hg]; exact (below_size (by repeat (first | (with_reducible first | exact HB.out | apply below_alloc | apply pw_below_drewN | apply below_drew1) | exact HB.out))) : w.heap.size ≤ gb290)); have n3_ := Aside0.mk ((by rw [hg]; exact (below_size (by repeat (first | (with_reducible first | exact HB.out | apply below_alloc | apply pw_below_drewN | apply below_drew1) | exact HB.out))) : w.heap.size ≤ gb290)); clear HB; have HB := n0_; have BK290 := n1_; have GW290 := n2_; have GE290 := n3_; clear n0_ n1_ n2_ n3_; clear hb hbox hg) | ((with_reducible refine gate_dst (N := 5) rfl ?_); (try (refine gate_guard (by rfl) ?_; dsimp only)); refine box_event ?hg (N := 5) ?hd (cs := #[.int .i64 a1_0, .int .i64 a1_1, .int .i64 a1_2]) (t := 37) ?hr ?_; (case hd => rfl); (case hg => rfl); (case hr => first | (go_simp; done) | (go_simp; rfl)); intro gb291 hg w9 hbox hb; have n0_ := Aside0.mk (blk_below (g := gb290) (o := .cells #[.int .i64 a0_0, .int .i64 a0_1, .int .i64 a0_2] 23 (0, 0)) (by (with_reducible repeat (first | refine blk_drewN ?_ _ | refine blk_drew ?_ | refine blk_alloc ?_ _)); exact BK290.out) hb); have n1_ := Aside0.mk (below_step (by repeat (first | (with_reducible first | exact HB.out | apply below_alloc | apply pw_below_drewN | apply below_drew1 | refine below_set ?_ GE290.out) | exact HB.out)) hb); have n2_ := Aside0.mk (hbox); have n3_ := Aside0.mk ((by rw [hg]; exact (below_size (by repeat (first | (with_reducible first | exact HB.out | apply below_alloc | apply pw_below_drewN | apply below_drew1 | refine below_set ?_ GE290.out) | exact HB.out))) : w.heap.size ≤ gb291)); have n4_ := Aside0.mk ((by rw [hg]; exact (below_size (by repeat (first | (with_reducible first | exact HB.out | apply below_alloc | apply pw_below_drewN | apply below_drew1 | refine below_set ?_ GE290.out) | exact HB.out))) : w.heap.size ≤ gb291)); have n5_ := Aside0.mk ((by rw [hg]; exact Nat.ne_of_lt (blk_lt (g := gb290) (o := .cells #[.int .i64 a0_0, .int .i64 a0_1, .int .i64 a0_2] 23 (0, 0)) (by (with_reducible repeat (first | refine blk_drewN ?_ _ | refine blk_drew ?_ | refine blk_alloc ?_ _)); exact BK290.out)) : gb290 ≠ gb291)); have n6_ := Aside0.mk ((by rw [hg]; exact Nat.ne_of_gt (blk_lt (g := gb290) (o := .cells #[.int .i64 a0_0, .int .i64 a0_1, .int .i64 a0_2] 23 (0, 0)) (by (with_reducible repeat (first | refine blk_drewN ?_ _ | refine blk_drew ?_ | refine blk_alloc ?_ _)); exact BK290.out)) : gb291 ≠ gb290)); clear BK290; clear HB; have BK290 := n0_; have HB := n1_; have BK291 := n2_; have GW291 := n3_; have GE291 := n4_; have NB290_291 := n5_; have NB291_290 := n6_; clear n0_ n1_ n2_ n3_ n4_ n5_ n6_; clear hb hbox hg) | (go_at_call 25; (with_reducible refine (ambidexterlaw28_head.calls k  true _ A5.out).mono ?_); rintro e w10 ⟨rfl, hb⟩; have n0_ := Aside0.mk (blk_below (g := gb290) (o := .cells #[.int .i64 a0_0, .int .i64 a0_1, .int .i64 a0_2] 23 (0, 0)) (by (with_reducible repeat (first | refine blk_drewN ?_ _ | refine blk_drew ?_ | refine blk_alloc ?_ _)); exact BK290.out) hb); have n1_ := Aside0.mk (blk_below (g := gb291) (o := .cells #[.int .i64 a1_0, .int .i64 a1_1, .int .i64 a1_2] 37 (0, 0)) (by (with_reducible repeat (first | refine blk_drewN ?_ _ | refine blk_drew ?_ | refine blk_alloc ?_ _)); exact BK291.out) hb); have n2_ := Aside0.mk (below_step (by repeat (first | (with_reducible first | exact HB.out | apply below_alloc | apply pw_below_drewN | apply below_drew1 | refine below_set ?_ GE290.out | refine below_set ?_ GE291.out) | exact HB.out)) hb); clear BK290; clear BK291; clear HB; have BK290 := n0_; have BK291 := n1_; have HB := n2_; clear n0_ n1_ n2_; (try clear hb); (try clear hb2); (try clear hk); (try clear hi); have hnb11 := NB290_291.out; have hnc11 := NB291_290.out; have hcz12_0 : w10.cell? ⟨gb290, 0, none⟩ = some (.int .i64 a0_0) := (blk_cell BK290.out 0).trans rfl; have hcz12_1 : w10.cell? ⟨gb290, 1, none⟩ = some (.int .i64 a0_1) := (blk_cell BK290.out 1).trans rfl; have hcz12_2 : w10.cell? ⟨gb290, 2, none⟩ = some (.int .i64 a0_2) := (blk_cell BK290.out 2).trans rfl; have hfz12_0 := blk_frozen BK290.out 0; have hfz12_1 := blk_frozen BK290.out 1; have hfz12_2 := blk_frozen BK290.out 2; have hcz13_0 : w10.cell? ⟨gb291, 0, none⟩ = some (.int .i64 a1_0) := (blk_cell BK291.out 0).trans rfl; have hcz13_1 : w10.cell? ⟨gb291, 1, none⟩ = some (.int .i64 a1_1) := (blk_cell BK291.out 1).trans rfl; have hcz13_2 : w10.cell? ⟨gb291, 2, none⟩ = some (.int .i64 a1_2) := (blk_cell BK291.out 2).trans rfl; have hfz13_0 := blk_frozen BK291.out 0; have hfz13_1 := blk_frozen BK291.out 1; have hfz13_2 := blk_frozen BK291.out 2) | (go_at_call 26; (with_reducible refine (ambidexterref28_May.calls a0_0 a0_1 a0_2 a1_0 a1_1 a1_2 t293 _ A6.out).mono ?_); rintro e w14 ⟨rfl, hb⟩; have n0_ := Aside0.mk (blk_below (g := gb290) (o := .cells #[.int .i64 a0_0, .int .i64 a0_1, .int .i64 a0_2] 23 (0, 0)) (by (with_reducible repeat (first | refine blk_drewN ?_ _ | refine blk_drew ?_ | refine blk_alloc ?_ _)); exact BK290.out) hb); have n1_ := Aside0.mk (blk_below (g := gb291) (o := .cells #[.int .i64 a1_0, .int .i64 a1_1, .int .i64 a1_2] 37 (0, 0)) (by (with_reducible repeat (first | refine blk_drewN ?_ _ | refine blk_drew ?_ | refine blk_alloc ?_ _)); exact BK291.out) hb); have n2_ := Aside0.mk (below_step (by repeat (first | (with_reducible first | exact HB.out | apply below_alloc | apply pw_below_drewN | apply below_drew1 | refine below_set ?_ GE290.out | refine below_set ?_ GE291.out) | exact HB.out)) hb); clear BK290; clear BK291; clear HB; have BK290 := n0_; have BK291 := n1_; have HB := n2_; clear n0_ n1_ n2_; (try clear hb); (try clear hb2); (try clear hk); (try clear hi))); go_upto_region 3 with (first | ((with_reducible refine gate_dst (N := 4) rfl ?_); (try (refine gate_guard (by rfl) ?_; dsimp only)); refine box_event ?hg (N := 4) ?hd (cs := #[.int .i64 a0_0, .int .i64 a0_1, .int .i64 a0_2]) (t := 23) ?hr ?_; (case hd => rfl); (case hg => rfl); (case hr => first | (go_simp; done) | (go_simp; rfl)); intro gb290 hg w8 hbox hb; have n0_ := Aside0.mk (below_step (by repeat (first | (with_reducible first | exact HB.out | apply below_alloc | apply pw_below_drewN | apply below_drew1) | exact HB.out)) hb); have n1_ := Aside0.mk (hbox); have n2_ := Aside0.mk ((by rw [hg]; exact (below_size (by repeat (first | (with_reducible first | exact HB.out | apply below_alloc | apply pw_below_drewN | apply below_drew1) | exact HB.out))) : w.heap.size ≤ gb290)); have n3_ := Aside0.mk ((by rw [hg]; exact (below_size (by repeat (first | (with_reducible first | exact HB.out | apply below_alloc | apply pw_below_drewN | apply below_drew1) | exact HB.out))) : w.heap.size ≤ gb290)); clear HB; have HB := n0_; have BK290 := n1_; have GW290 := n2_; have GE290 := n3_; clear n0_ n1_ n2_ n3_; clear hb hbox hg) | ((with_reducible refine gate_dst (N := 5) rfl ?_); (try (refine gate_guard (by rfl) ?_; dsimp only)); refine box_event ?hg (N := 5) ?hd (cs := #[.int .i64 a1_0, .int .i64 a1_1, .int .i64 a1_2]) (t := 37) ?hr ?_; (case hd => rfl); (case hg => rfl); (case hr => first | (go_simp; done) | (go_simp; rfl)); intro gb291 hg w9 hbox hb; have n0_ := Aside0.mk (blk_below (g := gb290) (o := .cells #[.int .i64 a0_0, .int .i64 a0_1, .int .i64 a0_2] 23 (0, 0)) (by (with_reducible repeat (first | refine blk_drewN ?_ _ | refine blk_drew ?_ | refine blk_alloc ?_ _)); exact BK290.out) hb); have n1_ := Aside0.mk (below_step (by repeat (first | (with_reducible first | exact HB.out | apply below_alloc | apply pw_below_drewN | apply below_drew1 | refine below_set ?_ GE290.out) | exact HB.out)) hb); have n2_ := Aside0.mk (hbox); have n3_ := Aside0.mk ((by rw [hg]; exact (below_size (by repeat (first | (with_reducible first | exact HB.out | apply below_alloc | apply pw_below_drewN | apply below_drew1 | refine below_set ?_ GE290.out) | exact HB.out))) : w.heap.size ≤ gb291)); have n4_ := Aside0.mk ((by rw [hg]; exact (below_size (by repeat (first | (with_reducible first | exact HB.out | apply below_alloc | apply pw_below_drewN | apply below_drew1 | refine below_set ?_ GE290.out) | exact HB.out))) : w.heap.size ≤ gb291)); have n5_ := Aside0.mk ((by rw [hg]; exact Nat.ne_of_lt (blk_lt (g := gb290) (o := .cells #[.int .i64 a0_0, .int .i64 a0_1, .int .i64 a0_2] 23 (0, 0)) (by (with_reducible repeat (first | refine blk_drewN ?_ _ | refine blk_drew ?_ | refine blk_alloc ?_ _)); exact BK290.out)) : gb290 ≠ gb291)); have n6_ := Aside0.mk ((by rw [hg]; exact Nat.ne_of_gt (blk_lt (g := gb290) (o := .cells #[.int .i64 a0_0, .int .i64 a0_1, .int .i64 a0_2] 23 (0, 0)) (by (with_reducible repeat (first | refine blk_drewN ?_ _ | refine blk_drew ?_ | refine blk_alloc ?_ _)); exact BK290.out)) : gb291 ≠ gb290)); clear BK290; clear HB; have BK290 := n0_; have HB := n1_; have BK291 := n2_; have GW291 := n3_; have GE291 := n4_; have NB290_291 := n5_; have NB291_290 := n6_; clear n0_ n1_ n2_ n3_ n4_ n5_ n6_; clear hb hbox hg) | (go_at_call 25; (with_reducible refine (ambidexterlaw28_head.calls k  true _ A5.out).mono ?_); rintro e w10 ⟨rfl, hb⟩; have n0_ := Aside0.mk (blk_below (g := gb290) (o := .cells #[.int .i64 a0_0, .int .i64 a0_1, .int .i64 a0_2] 23 (0, 0)) (by (with_reducible repeat (first | refine blk_drewN ?_ _ | refine blk_drew ?_ | refine blk_alloc ?_ _)); exact BK290.out) hb); have n1_ := Aside0.mk (blk_below (g := gb291) (o := .cells #[.int .i64 a1_0, .int .i64 a1_1, .int .i64 a1_2] 37 (0, 0)) (by (with_reducible repeat (first | refine blk_drewN ?_ _ | refine blk_drew ?_ | refine blk_alloc ?_ _)); exact BK291.out) hb); have n2_ := Aside0.mk (below_step (by repeat (first | (with_reducible first | exact HB.out | apply below_alloc | apply pw_below_drewN | apply below_drew1 | refine below_set ?_ GE290.out | refine below_set ?_ GE291.out) | exact HB.out)) hb); clear BK290; clear BK291; clear HB; have BK290 := n0_; have BK291 := n1_; have HB := n2_; clear n0_ n1_ n2_; (try clear hb); (try clear hb2); (try clear hk); (try clear hi); have hnb11 := NB290_291.out; have hnc11 := NB291_290.out; have hcz12_0 : w10.cell? ⟨gb290, 0, none⟩ = some (.int .i64 a0_0) := (blk_cell BK290.out 0).trans rfl; have hcz12_1 : w10.cell? ⟨gb290, 1, none⟩ = some (.int .i64 a0_1) := (blk_cell BK290.out 1).trans rfl; have hcz12_2 : w10.cell? ⟨gb290, 2, none⟩ = some (.int .i64 a0_2) := (blk_cell BK290.out 2).trans rfl; have hfz12_0 := blk_frozen BK290.out 0; have hfz12_1 := blk_frozen BK290.out 1; have hfz12_2 := blk_frozen BK290.out 2; have hcz13_0 : w10.cell? ⟨gb291, 0, none⟩ = some (.int .i64 a1_0) := (blk_cell BK291.out 0).trans rfl; have hcz13_1 : w10.cell? ⟨gb291, 1, none⟩ = some (.int .i64 a1_1) := (blk_cell BK291.out 1).trans rfl; have hcz13_2 : w10.cell? ⟨gb291, 2, none⟩ = some (.int .i64 a1_2) := (blk_cell BK291.out 2).trans rfl; have hfz13_0 := blk_frozen BK291.out 0; have hfz13_1 := blk_frozen BK291.out 1; have hfz13_2 := blk_frozen BK291.out 2) | (go_at_call 26; (with_reducible refine (ambidexterref28_May.calls a0_0 a0_1 a0_2 a1_0 a1_1 a1_2 t293 _ A6.out).mono ?_); rintro e w14 ⟨rfl, hb⟩; have n0_ := Aside0.mk (blk_below (g := gb290) (o := .cells #[.int .i64 a0_0, .int .i64 a0_1, .int .i64 a0_2] 23 (0, 0)) (by (with_reducible repeat (first | refine blk_drewN ?_ _ | refine blk_drew ?_ | refine blk_alloc ?_ _)); exact BK290.out) hb); have n1_ := Aside0.mk (blk_below (g := gb291) (o := .cells #[.int .i64 a1_0, .int .i64 a1_1, .int .i64 a1_2] 37 (0, 0)) (by (with_reducible repeat (first | refine blk_drewN ?_ _ | refine blk_drew ?_ | refine blk_alloc ?_ _)); exact BK291.out) hb); have n2_ := Aside0.mk (below_step (by repeat (first | (with_reducible first | exact HB.out | apply below_alloc | apply pw_below_drewN | apply below_drew1 | refine below_set ?_ GE290.out | refine below_set ?_ GE291.out) | exact HB.out)) hb); clear BK290; clear BK291; clear HB; have BK290 := n0_; have BK291 := n1_; have HB := n2_; clear n0_ n1_ n2_; (try clear hb); (try clear hb2); (try clear hk); (try clear hi))))
  (try simp only [Act.put, List.setIfInBounds_toArray, List.set_cons_zero, List.set_cons_succ])
  go_cut [36] (fun v36 wc => ∃ (kq : Nat) (x36_6 : Bool), v36 = .bool x36_6 ∧ Aside0 (ambidexterlaw28_BrakingStoppingDistance.j0 kq a2 a3 true x36_6 a0_0 a0_1 a0_2 a1_0 a1_1 a1_2 = some r) ∧ Aside0 (kq ≤ k) ∧ Aside0 (wc.heap[gb290]? = some (.cells #[.int .i64 a0_0, .int .i64 a0_1, .int .i64 a0_2] 23 (0, 0))) ∧ Aside0 (wc.heap[gb291]? = some (.cells #[.int .i64 a1_0, .int .i64 a1_1, .int .i64 a1_2] 37 (0, 0))) ∧ Aside0 (Below w.heap.size w wc))
  case first =>
    have H := HC7.out
    clear HC7
    by_cases c15 : t293 = true
    · subst c15
      have H1 : (if a1_0 > 549755813888 then (ambidexterlaw28_BrakingStoppingDistance.j0 k a2 a3 true true a0_0 a0_1 a0_2 a1_0 a1_1 a1_2) else (ambidexterlaw28_BrakingStoppingDistance.j0 k a2 a3 true (decide (a1_0 < (-549755813888))) a0_0 a0_1 a0_2 a1_0 a1_1 a1_2)) = some r := by rw [if_pos rfl] at H; exact H
      clear H
      have H := H1
      clear H1
      by_cases c16 : a1_0 > 549755813888
      · rw [if_pos c16] at H
        have c16b0 : decide (549755813888 < a1_0) = true := decide_eq_true c16
        clear c16
        (first | rw [c16b0] | (simp only [i64_w, i32_w]; rw [c16b0]) | skip)
        have H' := Aside0.mk H
        clear H
        have hnb17 := NB291_290.out
        have hnc17 := NB290_291.out
        have hcz18_0 : w14.cell? ⟨gb291, 0, none⟩ = some (.int .i64 a1_0) := (blk_cell BK291.out 0).trans rfl
        have hcz18_1 : w14.cell? ⟨gb291, 1, none⟩ = some (.int .i64 a1_1) := (blk_cell BK291.out 1).trans rfl
        have hcz18_2 : w14.cell? ⟨gb291, 2, none⟩ = some (.int .i64 a1_2) := (blk_cell BK291.out 2).trans rfl
        have hfz18_0 := blk_frozen BK291.out 0
        have hfz18_1 := blk_frozen BK291.out 1
        have hfz18_2 := blk_frozen BK291.out 2
        go_wp2
        repeat (go_quiet (fail); try go_wp2)
        go_meet
        case rel => exact ⟨_, (true), (by first | rfl | (simp; done) | (simp [*]; done)), H', ⟨by first | omega | exact Nat.le_refl _⟩, ⟨by (with_reducible repeat (first | refine blk_drewN ?_ _ | refine blk_drew ?_ | refine blk_alloc ?_ _)); exact BK290.out⟩, ⟨by (with_reducible repeat (first | refine blk_drewN ?_ _ | refine blk_drew ?_ | refine blk_alloc ?_ _)); exact BK291.out⟩, ⟨by repeat (first | (with_reducible first | exact HB.out | apply below_alloc | apply pw_below_drewN | apply below_drew1 | refine below_set ?_ GE290.out | refine below_set ?_ GE291.out) | exact HB.out)⟩⟩
      · rw [if_neg c16] at H
        have c16b0 : decide (549755813888 < a1_0) = false := decide_eq_false c16
        clear c16
        (first | rw [c16b0] | (simp only [i64_w, i32_w]; rw [c16b0]) | skip)
        have H' := Aside0.mk H
        clear H
        have hnb19 := NB291_290.out
        have hnc19 := NB290_291.out
        have hcz20_0 : w14.cell? ⟨gb291, 0, none⟩ = some (.int .i64 a1_0) := (blk_cell BK291.out 0).trans rfl
        have hcz20_1 : w14.cell? ⟨gb291, 1, none⟩ = some (.int .i64 a1_1) := (blk_cell BK291.out 1).trans rfl
        have hcz20_2 : w14.cell? ⟨gb291, 2, none⟩ = some (.int .i64 a1_2) := (blk_cell BK291.out 2).trans rfl
        have hfz20_0 := blk_frozen BK291.out 0
        have hfz20_1 := blk_frozen BK291.out 1
        have hfz20_2 := blk_frozen BK291.out 2
        go_wp2
        repeat (go_quiet (fail); try go_wp2)
        go_meet
        case rel => exact ⟨_, (decide (a1_0 < (-549755813888))), (by first | rfl | (simp; done) | (simp [*]; done)), H', ⟨by first | omega | exact Nat.le_refl _⟩, ⟨by (with_reducible repeat (first | refine blk_drewN ?_ _ | refine blk_drew ?_ | refine blk_alloc ?_ _)); exact BK290.out⟩, ⟨by (with_reducible repeat (first | refine blk_drewN ?_ _ | refine blk_drew ?_ | refine blk_alloc ?_ _)); exact BK291.out⟩, ⟨by repeat (first | (with_reducible first | exact HB.out | apply below_alloc | apply pw_below_drewN | apply below_drew1 | refine below_set ?_ GE290.out | refine below_set ?_ GE291.out) | exact HB.out)⟩⟩
    · replace c15 := Bool.eq_false_iff.mpr c15
      subst c15
      have H1 : (ambidexterlaw28_BrakingStoppingDistance.j0 k a2 a3 true true a0_0 a0_1 a0_2 a1_0 a1_1 a1_2) = some r := by rw [if_neg (show ¬ (false = true) by decide)] at H; exact H
      clear H
      have H := H1
      clear H1
      have H' := Aside0.mk H
      clear H
      go_wp2
      repeat (go_quiet (fail); try go_wp2)
      go_meet
      case rel => exact ⟨_, (true), (by first | rfl | (simp; done) | (simp [*]; done)), H', ⟨by first | omega | exact Nat.le_refl _⟩, ⟨by (with_reducible repeat (first | refine blk_drewN ?_ _ | refine blk_drew ?_ | refine blk_alloc ?_ _)); exact BK290.out⟩, ⟨by (with_reducible repeat (first | refine blk_drewN ?_ _ | refine blk_drew ?_ | refine blk_alloc ?_ _)); exact BK291.out⟩, ⟨by repeat (first | (with_reducible first | exact HB.out | apply below_alloc | apply pw_below_drewN | apply below_drew1 | refine below_set ?_ GE290.out | refine below_set ?_ GE291.out) | exact HB.out)⟩⟩
  case rest =>
    clear HC7
    try clear c1
    try clear p2
    try clear c11
    try clear c15
    try clear c16
    try clear c16b0
    try clear c17
    try clear c19
    try clear hcz12_0
    try clear hcz12_1
    try clear hcz12_2
    try clear hcz13_0
    try clear hcz13_1
    try clear hcz13_2
    try clear hcz18_0
    try clear hcz18_1
    try clear hcz18_2
    try clear hcz20_0
    try clear hcz20_1
    try clear hcz20_2
    try clear hfz12_0
    try clear hfz12_1
    try clear hfz12_2
    try clear hfz13_0
    try clear hfz13_1
    try clear hfz13_2
    try clear hfz18_0
    try clear hfz18_1
    try clear hfz18_2
    try clear hfz20_0
    try clear hfz20_1
    try clear hfz20_2
    obtain ⟨kq, x36_6, rfl, HA, HJ6, BK290, BK291, HB⟩ := hcut
    cases kq with
    | zero => exact absurd HA.out (by simp [ambidexterlaw28_BrakingStoppingDistance.j0])
    | succ kj6 =>
      have H := HA.out
      clear HA
      simp only [ambidexterlaw28_BrakingStoppingDistance.j0] at H
      by_cases c21 : x36_6 = true
      · subst c21
        have H1 : (some true) = some r := by rw [if_pos rfl] at H; exact H
        clear H
        have H := H1
        clear H1
        obtain rfl := Option.some.inj H
        go_wp2
        repeat (go_quiet (fail); try go_wp2)
        go_ret
        exact ⟨by first | rfl | (simp [errW_none, errW_some] <;> rfl) | (simp [*, errW_none, errW_some] <;> rfl), by repeat (first | (with_reducible first | exact HB.out | apply below_alloc | apply pw_below_drewN | apply below_drew1 | refine below_set ?_ GE290.out | refine below_set ?_ GE291.out) | exact HB.out)⟩
      · replace c21 := Bool.eq_false_iff.mpr c21
        subst c21
        have H1 : ((braking_StopMotion.f kj6 a0_0 a0_1 a0_2 a1_0 a1_1 a1_2 (Int.tmod (wrap64 (a2)) 3)).bind fun t294 => ((braking_Distance.f kj6 a0_0 a0_1 a0_2 a1_0 a1_1 a1_2 (Int.tmod (wrap64 (a2)) 3)).bind fun t297 => (ambidexterlaw28_BrakingStoppingDistance.l0 kj6 a3 true (Int.tmod (wrap64 (a2)) 3) t294 t297 (t297 == 0) 0 a0_0 a0_1 a0_2 a1_0 a1_1 a1_2))) = some r := by rw [if_neg (show ¬ (false = true) by decide)] at H; exact H
        clear H
        have H := H1
        clear H1
        replace H := Option.bind_eq_some_iff.mp H
        obtain ⟨t294, A220, H⟩ := H
        replace H : ((braking_Distance.f kj6 a0_0 a0_1 a0_2 a1_0 a1_1 a1_2 (Int.tmod (wrap64 (a2)) 3)).bind fun t297 => (ambidexterlaw28_BrakingStoppingDistance.l0 kj6 a3 true (Int.tmod (wrap64 (a2)) 3) t294 t297 (t297 == 0) 0 a0_0 a0_1 a0_2 a1_0 a1_1 a1_2)) = some r := H
        have A22 := Aside0.mk A220
        clear A220
        replace H := Option.bind_eq_some_iff.mp H
        obtain ⟨t297, A230, H⟩ := H
        replace H : (ambidexterlaw28_BrakingStoppingDistance.l0 kj6 a3 true (Int.tmod (wrap64 (a2)) 3) t294 t297 (t297 == 0) 0 a0_0 a0_1 a0_2 a1_0 a1_1 a1_2) = some r := H
        have A23 := Aside0.mk A230
        clear A230
        have H' := Aside0.mk H
        clear H
        have hnb24 := NB290_291.out
        have hnc24 := NB291_290.out
        have hcz25_0 : wc.cell? ⟨gb290, 0, none⟩ = some (.int .i64 a0_0) := (blk_cell BK290.out 0).trans rfl
        have hcz25_1 : wc.cell? ⟨gb290, 1, none⟩ = some (.int .i64 a0_1) := (blk_cell BK290.out 1).trans rfl
        have hcz25_2 : wc.cell? ⟨gb290, 2, none⟩ = some (.int .i64 a0_2) := (blk_cell BK290.out 2).trans rfl
        have hfz25_0 := blk_frozen BK290.out 0
        have hfz25_1 := blk_frozen BK290.out 1
        have hfz25_2 := blk_frozen BK290.out 2
        have hcz26_0 : wc.cell? ⟨gb291, 0, none⟩ = some (.int .i64 a1_0) := (blk_cell BK291.out 0).trans rfl
        have hcz26_1 : wc.cell? ⟨gb291, 1, none⟩ = some (.int .i64 a1_1) := (blk_cell BK291.out 1).trans rfl
        have hcz26_2 : wc.cell? ⟨gb291, 2, none⟩ = some (.int .i64 a1_2) := (blk_cell BK291.out 2).trans rfl
        have hfz26_0 := blk_frozen BK291.out 0
        have hfz26_1 := blk_frozen BK291.out 1
        have hfz26_2 := blk_frozen BK291.out 2
        go_wp2_with (first | (go_at_call 29; (with_reducible refine (braking_StopMotion.calls kj6 a0_0 a0_1 a0_2 a1_0 a1_1 a1_2 (Int.tmod (wrap64 (a2)) 3) t294 _ A22.out).mono ?_); rintro e w27 ⟨v295, rfl, ho0, hb⟩; have n0_ := Aside0.mk (Kd.R_lower (Kd.R_newB ho0 (g := gb291) (o := .cells #[.int .i64 a1_0, .int .i64 a1_1, .int .i64 a1_2] 37 (0, 0)) (by (with_reducible repeat (first | refine blk_drewN ?_ _ | refine blk_drew ?_ | refine blk_alloc ?_ _)); exact BK291.out)) (below_size (by repeat (first | (with_reducible first | exact HB.out | apply below_alloc | apply pw_below_drewN | apply below_drew1 | refine below_set ?_ GE290.out | refine below_set ?_ GE291.out) | exact HB.out)))); have n1_ := Aside0.mk (blk_below (g := gb290) (o := .cells #[.int .i64 a0_0, .int .i64 a0_1, .int .i64 a0_2] 23 (0, 0)) (by (with_reducible repeat (first | refine blk_drewN ?_ _ | refine blk_drew ?_ | refine blk_alloc ?_ _)); exact BK290.out) hb); have n2_ := Aside0.mk (blk_below (g := gb291) (o := .cells #[.int .i64 a1_0, .int .i64 a1_1, .int .i64 a1_2] 37 (0, 0)) (by (with_reducible repeat (first | refine blk_drewN ?_ _ | refine blk_drew ?_ | refine blk_alloc ?_ _)); exact BK291.out) hb); have n3_ := Aside0.mk (below_step (by repeat (first | (with_reducible first | exact HB.out | apply below_alloc | apply pw_below_drewN | apply below_drew1 | refine below_set ?_ GE290.out | refine below_set ?_ GE291.out) | exact HB.out)) hb); clear BK290; clear BK291; clear HB; have HO296 := n0_; have BK290 := n1_; have BK291 := n2_; have HB := n3_; clear n0_ n1_ n2_ n3_; (try clear hb); (try clear hb2); (try clear hk); (try clear hi); (try clear ho0); have hcz28_0 : w27.cell? ⟨gb290, 0, none⟩ = some (.int .i64 a0_0) := (blk_cell BK290.out 0).trans rfl; have hcz28_1 : w27.cell? ⟨gb290, 1, none⟩ = some (.int .i64 a0_1) := (blk_cell BK290.out 1).trans rfl; have hcz28_2 : w27.cell? ⟨gb290, 2, none⟩ = some (.int .i64 a0_2) := (blk_cell BK290.out 2).trans rfl; have hfz28_0 := blk_frozen BK290.out 0; have hfz28_1 := blk_frozen BK290.out 1; have hfz28_2 := blk_frozen BK290.out 2; have hcz29_0 : w27.cell? ⟨gb291, 0, none⟩ = some (.int .i64 a1_0) := (blk_cell BK291.out 0).trans rfl; have hcz29_1 : w27.cell? ⟨gb291, 1, none⟩ = some (.int .i64 a1_1) := (blk_cell BK291.out 1).trans rfl; have hcz29_2 : w27.cell? ⟨gb291, 2, none⟩ = some (.int .i64 a1_2) := (blk_cell BK291.out 2).trans rfl; have hfz29_0 := blk_frozen BK291.out 0; have hfz29_1 := blk_frozen BK291.out 1; have hfz29_2 := blk_frozen BK291.out 2) | (go_at_call 31; (with_reducible refine (braking_Distance.calls kj6 a0_0 a0_1 a0_2 a1_0 a1_1 a1_2 (Int.tmod (wrap64 (a2)) 3) t297 _ A23.out).mono ?_); rintro e w30 ⟨rfl, hb⟩; have n0_ := Aside0.mk (Kd.R_below (by (with_reducible repeat (first | apply Kd.R_alloc | apply Kd.R_drewN | apply Kd.R_drew)); exact HO296.out) hb); have n1_ := Aside0.mk (blk_below (g := gb290) (o := .cells #[.int .i64 a0_0, .int .i64 a0_1, .int .i64 a0_2] 23 (0, 0)) (by (with_reducible repeat (first | refine blk_drewN ?_ _ | refine blk_drew ?_ | refine blk_alloc ?_ _)); exact BK290.out) hb); have n2_ := Aside0.mk (blk_below (g := gb291) (o := .cells #[.int .i64 a1_0, .int .i64 a1_1, .int .i64 a1_2] 37 (0, 0)) (by (with_reducible repeat (first | refine blk_drewN ?_ _ | refine blk_drew ?_ | refine blk_alloc ?_ _)); exact BK291.out) hb); have n3_ := Aside0.mk (below_step (by repeat (first | (with_reducible first | exact HB.out | apply below_alloc | apply pw_below_drewN | apply below_drew1 | refine below_set ?_ GE290.out | refine below_set ?_ GE291.out) | exact HB.out)) hb); clear HO296; clear BK290; clear BK291; clear HB; have HO296 := n0_; have BK290 := n1_; have BK291 := n2_; have HB := n3_; clear n0_ n1_ n2_ n3_; (try clear hb); (try clear hb2); (try clear hk); (try clear hi)))
        repeat (go_quiet (first | (go_at_call 29; (with_reducible refine (braking_StopMotion.calls kj6 a0_0 a0_1 a0_2 a1_0 a1_1 a1_2 (Int.tmod (wrap64 (a2)) 3) t294 _ A22.out).mono ?_); rintro e w27 ⟨v295, rfl, ho0, hb⟩; have n0_ := Aside0.mk (Kd.R_lower (Kd.R_newB ho0 (g := gb291) (o := .cells #[.int .i64 a1_0, .int .i64 a1_1, .int .i64 a1_2] 37 (0, 0)) (by (with_reducible repeat (first | refine blk_drewN ?_ _ | refine blk_drew ?_ | refine blk_alloc ?_ _)); exact BK291.out)) (below_size (by repeat (first | (with_reducible first | exact HB.out | apply below_alloc | apply pw_below_drewN | apply below_drew1 | refine below_set ?_ GE290.out | refine below_set ?_ GE291.out) | exact HB.out)))); have n1_ := Aside0.mk (blk_below (g := gb290) (o := .cells #[.int .i64 a0_0, .int .i64 a0_1, .int .i64 a0_2] 23 (0, 0)) (by (with_reducible repeat (first | refine blk_drewN ?_ _ | refine blk_drew ?_ | refine blk_alloc ?_ _)); exact BK290.out) hb); have n2_ := Aside0.mk (blk_below (g := gb291) (o := .cells #[.int .i64 a1_0, .int .i64 a1_1, .int .i64 a1_2] 37 (0, 0)) (by (with_reducible repeat (first | refine blk_drewN ?_ _ | refine blk_drew ?_ | refine blk_alloc ?_ _)); exact BK291.out) hb); have n3_ := Aside0.mk (below_step (by repeat (first | (with_reducible first | exact HB.out | apply below_alloc | apply pw_below_drewN | apply below_drew1 | refine below_set ?_ GE290.out | refine below_set ?_ GE291.out) | exact HB.out)) hb); clear BK290; clear BK291; clear HB; have HO296 := n0_; have BK290 := n1_; have BK291 := n2_; have HB := n3_; clear n0_ n1_ n2_ n3_; (try clear hb); (try clear hb2); (try clear hk); (try clear hi); (try clear ho0); have hcz28_0 : w27.cell? ⟨gb290, 0, none⟩ = some (.int .i64 a0_0) := (blk_cell BK290.out 0).trans rfl; have hcz28_1 : w27.cell? ⟨gb290, 1, none⟩ = some (.int .i64 a0_1) := (blk_cell BK290.out 1).trans rfl; have hcz28_2 : w27.cell? ⟨gb290, 2, none⟩ = some (.int .i64 a0_2) := (blk_cell BK290.out 2).trans rfl; have hfz28_0 := blk_frozen BK290.out 0; have hfz28_1 := blk_frozen BK290.out 1; have hfz28_2 := blk_frozen BK290.out 2; have hcz29_0 : w27.cell? ⟨gb291, 0, none⟩ = some (.int .i64 a1_0) := (blk_cell BK291.out 0).trans rfl; have hcz29_1 : w27.cell? ⟨gb291, 1, none⟩ = some (.int .i64 a1_1) := (blk_cell BK291.out 1).trans rfl; have hcz29_2 : w27.cell? ⟨gb291, 2, none⟩ = some (.int .i64 a1_2) := (blk_cell BK291.out 2).trans rfl; have hfz29_0 := blk_frozen BK291.out 0; have hfz29_1 := blk_frozen BK291.out 1; have hfz29_2 := blk_frozen BK291.out 2) | (go_at_call 31; (with_reducible refine (braking_Distance.calls kj6 a0_0 a0_1 a0_2 a1_0 a1_1 a1_2 (Int.tmod (wrap64 (a2)) 3) t297 _ A23.out).mono ?_); rintro e w30 ⟨rfl, hb⟩; have n0_ := Aside0.mk (Kd.R_below (by (with_reducible repeat (first | apply Kd.R_alloc | apply Kd.R_drewN | apply Kd.R_drew)); exact HO296.out) hb); have n1_ := Aside0.mk (blk_below (g := gb290) (o := .cells #[.int .i64 a0_0, .int .i64 a0_1, .int .i64 a0_2] 23 (0, 0)) (by (with_reducible repeat (first | refine blk_drewN ?_ _ | refine blk_drew ?_ | refine blk_alloc ?_ _)); exact BK290.out) hb); have n2_ := Aside0.mk (blk_below (g := gb291) (o := .cells #[.int .i64 a1_0, .int .i64 a1_1, .int .i64 a1_2] 37 (0, 0)) (by (with_reducible repeat (first | refine blk_drewN ?_ _ | refine blk_drew ?_ | refine blk_alloc ?_ _)); exact BK291.out) hb); have n3_ := Aside0.mk (below_step (by repeat (first | (with_reducible first | exact HB.out | apply below_alloc | apply pw_below_drewN | apply below_drew1 | refine below_set ?_ GE290.out | refine below_set ?_ GE291.out) | exact HB.out)) hb); clear HO296; clear BK290; clear BK291; clear HB; have HO296 := n0_; have BK290 := n1_; have BK291 := n2_; have HB := n3_; clear n0_ n1_ n2_ n3_; (try clear hb); (try clear hb2); (try clear hk); (try clear hi))); try go_wp2_with (first | (go_at_call 29; (with_reducible refine (braking_StopMotion.calls kj6 a0_0 a0_1 a0_2 a1_0 a1_1 a1_2 (Int.tmod (wrap64 (a2)) 3) t294 _ A22.out).mono ?_); rintro e w27 ⟨v295, rfl, ho0, hb⟩; have n0_ := Aside0.mk (Kd.R_lower (Kd.R_newB ho0 (g := gb291) (o := .cells #[.int .i64 a1_0, .int .i64 a1_1, .int .i64 a1_2] 37 (0, 0)) (by (with_reducible repeat (first | refine blk_drewN ?_ _ | refine blk_drew ?_ | refine blk_alloc ?_ _)); exact BK291.out)) (below_size (by repeat (first | (with_reducible first | exact HB.out | apply below_alloc | apply pw_below_drewN | apply below_drew1 | refine below_set ?_ GE290.out | refine below_set ?_ GE291.out) | exact HB.out)))); have n1_ := Aside0.mk (blk_below (g := gb290) (o := .cells #[.int .i64 a0_0, .int .i64 a0_1, .int .i64 a0_2] 23 (0, 0)) (by (with_reducible repeat (first | refine blk_drewN ?_ _ | refine blk_drew ?_ | refine blk_alloc ?_ _)); exact BK290.out) hb); have n2_ := Aside0.mk (blk_below (g := gb291) (o := .cells #[.int .i64 a1_0, .int .i64 a1_1, .int .i64 a1_2] 37 (0, 0)) (by (with_reducible repeat (first | refine blk_drewN ?_ _ | refine blk_drew ?_ | refine blk_alloc ?_ _)); exact BK291.out) hb); have n3_ := Aside0.mk (below_step (by repeat (first | (with_reducible first | exact HB.out | apply below_alloc | apply pw_below_drewN | apply below_drew1 | refine below_set ?_ GE290.out | refine below_set ?_ GE291.out) | exact HB.out)) hb); clear BK290; clear BK291; clear HB; have HO296 := n0_; have BK290 := n1_; have BK291 := n2_; have HB := n3_; clear n0_ n1_ n2_ n3_; (try clear hb); (try clear hb2); (try clear hk); (try clear hi); (try clear ho0); have hcz28_0 : w27.cell? ⟨gb290, 0, none⟩ = some (.int .i64 a0_0) := (blk_cell BK290.out 0).trans rfl; have hcz28_1 : w27.cell? ⟨gb290, 1, none⟩ = some (.int .i64 a0_1) := (blk_cell BK290.out 1).trans rfl; have hcz28_2 : w27.cell? ⟨gb290, 2, none⟩ = some (.int .i64 a0_2) := (blk_cell BK290.out 2).trans rfl; have hfz28_0 := blk_frozen BK290.out 0; have hfz28_1 := blk_frozen BK290.out 1; have hfz28_2 := blk_frozen BK290.out 2; have hcz29_0 : w27.cell? ⟨gb291, 0, none⟩ = some (.int .i64 a1_0) := (blk_cell BK291.out 0).trans rfl; have hcz29_1 : w27.cell? ⟨gb291, 1, none⟩ = some (.int .i64 a1_1) := (blk_cell BK291.out 1).trans rfl; have hcz29_2 : w27.cell? ⟨gb291, 2, none⟩ = some (.int .i64 a1_2) := (blk_cell BK291.out 2).trans rfl; have hfz29_0 := blk_frozen BK291.out 0; have hfz29_1 := blk_frozen BK291.out 1; have hfz29_2 := blk_frozen BK291.out 2) | (go_at_call 31; (with_reducible refine (braking_Distance.calls kj6 a0_0 a0_1 a0_2 a1_0 a1_1 a1_2 (Int.tmod (wrap64 (a2)) 3) t297 _ A23.out).mono ?_); rintro e w30 ⟨rfl, hb⟩; have n0_ := Aside0.mk (Kd.R_below (by (with_reducible repeat (first | apply Kd.R_alloc | apply Kd.R_drewN | apply Kd.R_drew)); exact HO296.out) hb); have n1_ := Aside0.mk (blk_below (g := gb290) (o := .cells #[.int .i64 a0_0, .int .i64 a0_1, .int .i64 a0_2] 23 (0, 0)) (by (with_reducible repeat (first | refine blk_drewN ?_ _ | refine blk_drew ?_ | refine blk_alloc ?_ _)); exact BK290.out) hb); have n2_ := Aside0.mk (blk_below (g := gb291) (o := .cells #[.int .i64 a1_0, .int .i64 a1_1, .int .i64 a1_2] 37 (0, 0)) (by (with_reducible repeat (first | refine blk_drewN ?_ _ | refine blk_drew ?_ | refine blk_alloc ?_ _)); exact BK291.out) hb); have n3_ := Aside0.mk (below_step (by repeat (first | (with_reducible first | exact HB.out | apply below_alloc | apply pw_below_drewN | apply below_drew1 | refine below_set ?_ GE290.out | refine below_set ?_ GE291.out) | exact HB.out)) hb); clear HO296; clear BK290; clear BK291; clear HB; have HO296 := n0_; have BK290 := n1_; have BK291 := n2_; have HB := n3_; clear n0_ n1_ n2_ n3_; (try clear hb); (try clear hb2); (try clear hk); (try clear hi))))
        go_loopg [14, 15] kj6 (fun kq v14 v15 w' => ∃ (x14_2 : Bool) (x15_2 : Int), v14 = .bool x14_2 ∧ v15 = .int .i64 x15_2 ∧ Aside0 (ambidexterlaw28_BrakingStoppingDistance.l0 kq a3 true (Int.tmod (wrap64 (a2)) 3) t294 t297 x14_2 x15_2 a0_0 a0_1 a0_2 a1_0 a1_1 a1_2 = some r) ∧ Aside0 (kq ≤ kj6) ∧ Aside0 (Kd.R k37 37 w' w.heap.size (fun k_ => k_ ≠ gb291) v295 t294) ∧ Aside0 (w'.heap[gb290]? = some (.cells #[.int .i64 a0_0, .int .i64 a0_1, .int .i64 a0_2] 23 (0, 0))) ∧ Aside0 (w'.heap[gb291]? = some (.cells #[.int .i64 a1_0, .int .i64 a1_1, .int .i64 a1_2] 37 (0, 0))) ∧ Aside0 (Below w.heap.size w w'))
        case atStart => exact ⟨((t297 == 0)), (0), (by first | rfl | (simp; done) | (simp [*]; done)), (by first | rfl | (simp; done) | (simp [*]; done)), H', ⟨Nat.le_refl _⟩, ⟨by (with_reducible repeat (first | apply Kd.R_alloc | apply Kd.R_drewN | apply Kd.R_drew)); exact Kd.R_mono HO296.out (fun _ hk => hk.2)⟩, ⟨by (with_reducible repeat (first | refine blk_drewN ?_ _ | refine blk_drew ?_ | refine blk_alloc ?_ _)); exact BK290.out⟩, ⟨by (with_reducible repeat (first | refine blk_drewN ?_ _ | refine blk_drew ?_ | refine blk_alloc ?_ _)); exact BK291.out⟩, ⟨by repeat (first | (with_reducible first | exact HB.out | apply below_alloc | apply pw_below_drewN | apply below_drew1 | refine below_set ?_ GE290.out | refine below_set ?_ GE291.out) | exact HB.out)⟩⟩
        case round =>
          clear H'
          try clear c1
          try clear c2
          try clear p2
          try clear p6
          try clear c11
          try clear c15
          try clear c16
          try clear c16b0
          try clear c17
          try clear c19
          try clear c21
          try clear c24
          try clear hcz12_0
          try clear hcz12_1
          try clear hcz12_2
          try clear hcz13_0
          try clear hcz13_1
          try clear hcz13_2
          try clear hcz18_0
          try clear hcz18_1
          try clear hcz18_2
          try clear hcz20_0
          try clear hcz20_1
          try clear hcz20_2
          try clear hcz25_0
          try clear hcz25_1
          try clear hcz25_2
          try clear hcz26_0
          try clear hcz26_1
          try clear hcz26_2
          try clear hcz28_0
          try clear hcz28_1
          try clear hcz28_2
          try clear hcz29_0
          try clear hcz29_1
          try clear hcz29_2
          try clear hfz12_0
          try clear hfz12_1
          try clear hfz12_2
          try clear hfz13_0
          try clear hfz13_1
          try clear hfz13_2
          try clear hfz18_0
          try clear hfz18_1
          try clear hfz18_2
          try clear hfz20_0
          try clear hfz20_1
          try clear hfz20_2
          try clear hfz25_0
          try clear hfz25_1
          try clear hfz25_2
          try clear hfz26_0
          try clear hfz26_1
          try clear hfz26_2
          try clear hfz28_0
          try clear hfz28_1
          try clear hfz28_2
          try clear hfz29_0
          try clear hfz29_1
          try clear hfz29_2
          try clear p2
          obtain ⟨x14_2, x15_2, rfl, rfl, HA, HK2, HO_12, BK290, BK291, HB⟩ := hrel
          cases gk with
          | zero => exact absurd HA.out (by simp [ambidexterlaw28_BrakingStoppingDistance.l0])
          | succ k2 =>
            have H := HA.out
            clear HA
            simp only [ambidexterlaw28_BrakingStoppingDistance.l0] at H
            by_cases c31 : x15_2 < (t294.length : Int)
            · rw [if_pos c31] at H
              have c31b0 : decide (x15_2 < (t294.length : Int)) = true := decide_eq_true c31
              clear c31
              by_cases c32 : 0 ≤ x15_2
              · rw [if_pos c32] at H
                have c32b0 : decide (0 ≤ x15_2) = true := decide_eq_true c32
                clear c32
                obtain ⟨ji33, hji33⟩ : ∃ j_ : Int, (mx (wrap64 (((rd_T37 t294 x15_2).f0) - a1_0)) (wrap64 (a1_0 - ((rd_T37 t294 x15_2).f0)))) = j_ := ⟨_, rfl⟩
                replace H : (if (ji33) > t297 then (some false) else (if x14_2 = true then (ambidexterlaw28_BrakingStoppingDistance.l0 k2 a3 true (Int.tmod (wrap64 (a2)) 3) t294 t297 true (wrap64 (x15_2 + 1)) a0_0 a0_1 a0_2 a1_0 a1_1 a1_2) else (ambidexterlaw28_BrakingStoppingDistance.l0 k2 a3 true (Int.tmod (wrap64 (a2)) 3) t294 t297 ((ji33) == t297) (wrap64 (x15_2 + 1)) a0_0 a0_1 a0_2 a1_0 a1_1 a1_2))) = some r := by first | (rw [hji33] at H; exact H) | (simp only [hji33] at H ⊢; exact H)
                have hji33_ : (if (wrap64 (((rd_T37 t294 x15_2).f0) - a1_0)) < (wrap64 (a1_0 - ((rd_T37 t294 x15_2).f0))) then (wrap64 (a1_0 - ((rd_T37 t294 x15_2).f0))) else (wrap64 (((rd_T37 t294 x15_2).f0) - a1_0))) = ji33 := hji33
                by_cases c34 : (ji33) > t297
                · rw [if_pos c34] at H
                  have c34b0 : decide (t297 < (ji33)) = true := decide_eq_true c34
                  clear c34
                  exact absurd HT.out (by rw [← Option.some.inj H]; decide)
                · rw [if_neg c34] at H
                  have c34b0 : decide (t297 < (ji33)) = false := decide_eq_false c34
                  clear c34
                  by_cases c35 : x14_2 = true
                  · subst c35
                    have H1 : (ambidexterlaw28_BrakingStoppingDistance.l0 k2 a3 true (Int.tmod (wrap64 (a2)) 3) t294 t297 true (wrap64 (x15_2 + 1)) a0_0 a0_1 a0_2 a1_0 a1_1 a1_2) = some r := by rw [if_pos rfl] at H; exact H
                    clear H
                    have H := H1
                    clear H1
                    have H' := Aside0.mk H
                    clear H
                    obtain ⟨Ao36, co36, eo36⟩ := Kd.R_slice HO_12.out
                    subst eo36
                    have p298 : 0 ≤ (x15_2 : Int) := of_decide_eq_true (by first | (with_reducible assumption) | assumption)
                    have q298 : x15_2 < (t294.length : Int) := of_decide_eq_true (by first | (with_reducible assumption) | assumption)
                    obtain ⟨ad298, e298, hx298_0, hx298_1, hx298_2⟩ := at_T37 (Kd.R_reads' HO_12.out).2.2 x15_2 p298 q298
                    cases e298
                    replace p298 := eq_true p298
                    replace q298 := eq_true q298
                    have hnb37 := NB291_290.out
                    have hnc37 := NB290_291.out
                    have hcz38_0 : wr.cell? ⟨gb291, 0, none⟩ = some (.int .i64 a1_0) := (blk_cell BK291.out 0).trans rfl
                    have hcz38_1 : wr.cell? ⟨gb291, 1, none⟩ = some (.int .i64 a1_1) := (blk_cell BK291.out 1).trans rfl
                    have hcz38_2 : wr.cell? ⟨gb291, 2, none⟩ = some (.int .i64 a1_2) := (blk_cell BK291.out 2).trans rfl
                    have hfz38_0 := blk_frozen BK291.out 0
                    have hfz38_1 := blk_frozen BK291.out 1
                    have hfz38_2 := blk_frozen BK291.out 2
                    have p299 : 0 ≤ (x15_2 : Int) := of_decide_eq_true (by first | (with_reducible assumption) | assumption)
                    have q299 : x15_2 < (t294.length : Int) := of_decide_eq_true (by first | (with_reducible assumption) | assumption)
                    obtain ⟨ad299, e299, hx299_0, hx299_1, hx299_2⟩ := at_T37 (Kd.R_reads' HO_12.out).2.2 x15_2 p299 q299
                    obtain rfl : ad298 = ad299 := (by injection e299)
                    replace p299 := eq_true p299
                    replace q299 := eq_true q299
                    go_wp2
                    repeat (go_quiet (fail); try go_wp2)
                    go_roundg k2
                    case measure => have := HJ6.out; have := HK2.out; omega
                    case rel => exact ⟨(true), (wrap64 (x15_2 + 1)), (by first | rfl | (simp; done) | (simp [*]; done)), (by first | rfl | (simp; done) | (simp [*]; done)), H', ⟨by have := HJ6.out; have := HK2.out; omega⟩, ⟨by (with_reducible repeat (first | apply Kd.R_alloc | apply Kd.R_drewN | apply Kd.R_drew)); exact HO_12.out⟩, ⟨by (with_reducible repeat (first | refine blk_drewN ?_ _ | refine blk_drew ?_ | refine blk_alloc ?_ _)); exact BK290.out⟩, ⟨by (with_reducible repeat (first | refine blk_drewN ?_ _ | refine blk_drew ?_ | refine blk_alloc ?_ _)); exact BK291.out⟩, ⟨by repeat (first | (with_reducible first | exact HB.out | apply below_alloc | apply pw_below_drewN | apply below_drew1 | refine below_set ?_ GE290.out | refine below_set ?_ GE291.out) | exact HB.out)⟩⟩
                  · replace c35 := Bool.eq_false_iff.mpr c35
                    subst c35
                    have H1 : (ambidexterlaw28_BrakingStoppingDistance.l0 k2 a3 true (Int.tmod (wrap64 (a2)) 3) t294 t297 ((ji33) == t297) (wrap64 (x15_2 + 1)) a0_0 a0_1 a0_2 a1_0 a1_1 a1_2) = some r := by rw [if_neg (show ¬ (false = true) by decide)] at H; exact H
                    clear H
                    have H := H1
                    clear H1
                    have H' := Aside0.mk H
                    clear H
                    obtain ⟨Ao39, co39, eo39⟩ := Kd.R_slice HO_12.out
                    subst eo39
                    have p298 : 0 ≤ (x15_2 : Int) := of_decide_eq_true (by first | (with_reducible assumption) | assumption)
                    have q298 : x15_2 < (t294.length : Int) := of_decide_eq_true (by first | (with_reducible assumption) | assumption)
                    obtain ⟨ad298, e298, hx298_0, hx298_1, hx298_2⟩ := at_T37 (Kd.R_reads' HO_12.out).2.2 x15_2 p298 q298
                    cases e298
                    replace p298 := eq_true p298
                    replace q298 := eq_true q298
                    have hnb40 := NB291_290.out
                    have hnc40 := NB290_291.out
                    have hcz41_0 : wr.cell? ⟨gb291, 0, none⟩ = some (.int .i64 a1_0) := (blk_cell BK291.out 0).trans rfl
                    have hcz41_1 : wr.cell? ⟨gb291, 1, none⟩ = some (.int .i64 a1_1) := (blk_cell BK291.out 1).trans rfl
                    have hcz41_2 : wr.cell? ⟨gb291, 2, none⟩ = some (.int .i64 a1_2) := (blk_cell BK291.out 2).trans rfl
                    have hfz41_0 := blk_frozen BK291.out 0
                    have hfz41_1 := blk_frozen BK291.out 1
                    have hfz41_2 := blk_frozen BK291.out 2
                    have p299 : 0 ≤ (x15_2 : Int) := of_decide_eq_true (by first | (with_reducible assumption) | assumption)
                    have q299 : x15_2 < (t294.length : Int) := of_decide_eq_true (by first | (with_reducible assumption) | assumption)
                    obtain ⟨ad299, e299, hx299_0, hx299_1, hx299_2⟩ := at_T37 (Kd.R_reads' HO_12.out).2.2 x15_2 p299 q299
                    obtain rfl : ad298 = ad299 := (by injection e299)
                    replace p299 := eq_true p299
                    replace q299 := eq_true q299
                    go_wp2
                    repeat (go_quiet (fail); try go_wp2)
                    go_roundg k2
                    case measure => have := HJ6.out; have := HK2.out; omega
                    case rel => exact ⟨(((ji33) == t297)), (wrap64 (x15_2 + 1)), (by first | rfl | (simp; done) | (simp only [← hji33] <;> (first | rfl | simp)) | (simp [*]; done)), (by first | rfl | (simp; done) | (simp [*]; done)), H', ⟨by have := HJ6.out; have := HK2.out; omega⟩, ⟨by (with_reducible repeat (first | apply Kd.R_alloc | apply Kd.R_drewN | apply Kd.R_drew)); exact HO_12.out⟩, ⟨by (with_reducible repeat (first | refine blk_drewN ?_ _ | refine blk_drew ?_ | refine blk_alloc ?_ _)); exact BK290.out⟩, ⟨by (with_reducible repeat (first | refine blk_drewN ?_ _ | refine blk_drew ?_ | refine blk_alloc ?_ _)); exact BK291.out⟩, ⟨by repeat (first | (with_reducible first | exact HB.out | apply below_alloc | apply pw_below_drewN | apply below_drew1 | refine below_set ?_ GE290.out | refine below_set ?_ GE291.out) | exact HB.out)⟩⟩
              · rw [if_neg c32] at H
                exact absurd H (by simp)
            · rw [if_neg c31] at H
              have c31b0 : decide (x15_2 < (t294.length : Int)) = false := decide_eq_false c31
              clear c31
              replace H := Option.bind_eq_some_iff.mp H
              obtain ⟨t302, A420, H⟩ := H
              replace H : (if x14_2 = true then (if t297 < 0 then (ambidexterlaw28_BrakingStoppingDistance.j2 k2 a3 true (Int.tmod (wrap64 (a2)) 3) t294 t297 t302 true a0_0 a0_1 a0_2 (wrap64 (-a1_0)) (wrap64 (-a1_1)) (wrap64 (-a1_2))) else ((braking_Duration.f k2 a0_0 a0_1 a0_2 (wrap64 (-a1_0)) (wrap64 (-a1_1)) (wrap64 (-a1_2)) (Int.tmod (wrap64 (a2)) 3)).bind fun t305 => (if t305 = (t294.length : Int) then (if (t302.length : Int) = (t294.length : Int) then ((braking_Distance.f k2 a0_0 a0_1 a0_2 (wrap64 (a1_0 + (wrap64 (a3)))) a1_1 a1_2 (Int.tmod (wrap64 (a2)) 3)).bind fun t306 => (ambidexterlaw28_BrakingStoppingDistance.j2 k2 a3 true (Int.tmod (wrap64 (a2)) 3) t294 t297 t302 (t306 != t297) a0_0 a0_1 a0_2 (wrap64 (-a1_0)) (wrap64 (-a1_1)) (wrap64 (-a1_2)))) else (ambidexterlaw28_BrakingStoppingDistance.j2 k2 a3 true (Int.tmod (wrap64 (a2)) 3) t294 t297 t302 true a0_0 a0_1 a0_2 (wrap64 (-a1_0)) (wrap64 (-a1_1)) (wrap64 (-a1_2)))) else (ambidexterlaw28_BrakingStoppingDistance.j2 k2 a3 true (Int.tmod (wrap64 (a2)) 3) t294 t297 t302 true a0_0 a0_1 a0_2 (wrap64 (-a1_0)) (wrap64 (-a1_1)) (wrap64 (-a1_2)))))) else (ambidexterlaw28_BrakingStoppingDistance.j2 k2 a3 true (Int.tmod (wrap64 (a2)) 3) t294 t297 t302 true a0_0 a0_1 a0_2 (wrap64 (-a1_0)) (wrap64 (-a1_1)) (wrap64 (-a1_2)))) = some r := H
              have A42 := Aside0.mk A420
              clear A420
              have HC43 := Aside0.mk H
              clear H
              obtain ⟨Ao44, co44, eo44⟩ := Kd.R_slice HO_12.out
              subst eo44
              have hnb45 := NB291_290.out
              have hnc45 := NB290_291.out
              have hcz46_0 : wr.cell? ⟨gb291, 0, none⟩ = some (.int .i64 a1_0) := (blk_cell BK291.out 0).trans rfl
              have hcz46_1 : wr.cell? ⟨gb291, 1, none⟩ = some (.int .i64 a1_1) := (blk_cell BK291.out 1).trans rfl
              have hcz46_2 : wr.cell? ⟨gb291, 2, none⟩ = some (.int .i64 a1_2) := (blk_cell BK291.out 2).trans rfl
              have hfz46_0 := blk_frozen BK291.out 0
              have hfz46_1 := blk_frozen BK291.out 1
              have hfz46_2 := blk_frozen BK291.out 2
              go_upto_region 19 with (first | ((with_reducible refine gate_dst (N := 17) rfl ?_); (try (refine gate_guard (by rfl) ?_; dsimp only)); refine box_event ?hg (N := 17) ?hd (cs := #[.int .i64 0, .int .i64 0, .int .i64 0]) (t := 37) ?hr ?_; (case hd => rfl); (case hg => rfl); (case hr => first | (go_simp; done) | (go_simp; rfl)); intro gb300 hg w47 hbox hb; have n0_ := Aside0.mk (Kd.R_below (Kd.R_elderB (by (with_reducible repeat (first | apply Kd.R_alloc | apply Kd.R_drewN | apply Kd.R_drew)); exact HO_12.out) gb300 (Nat.le_of_eq hg.symm)) hb); have n1_ := Aside0.mk (blk_below (g := gb290) (o := .cells #[.int .i64 a0_0, .int .i64 a0_1, .int .i64 a0_2] 23 (0, 0)) (by (with_reducible repeat (first | refine blk_drewN ?_ _ | refine blk_drew ?_ | refine blk_alloc ?_ _)); exact BK290.out) hb); have n2_ := Aside0.mk (blk_below (g := gb291) (o := .cells #[.int .i64 a1_0, .int .i64 a1_1, .int .i64 a1_2] 37 (0, 0)) (by (with_reducible repeat (first | refine blk_drewN ?_ _ | refine blk_drew ?_ | refine blk_alloc ?_ _)); exact BK291.out) hb); have n3_ := Aside0.mk (below_step (by repeat (first | (with_reducible first | exact HB.out | apply below_alloc | apply pw_below_drewN | apply below_drew1 | refine below_set ?_ GE290.out | refine below_set ?_ GE291.out) | exact HB.out)) hb); have n4_ := Aside0.mk (hbox); have n5_ := Aside0.mk ((by rw [hg]; exact (below_size (by repeat (first | (with_reducible first | exact HB.out | apply below_alloc | apply pw_below_drewN | apply below_drew1 | refine below_set ?_ GE290.out | refine below_set ?_ GE291.out) | exact HB.out))) : w.heap.size ≤ gb300)); have n6_ := Aside0.mk ((by rw [hg]; exact (below_size (by repeat (first | (with_reducible first | exact HB.out | apply below_alloc | apply pw_below_drewN | apply below_drew1 | refine below_set ?_ GE290.out | refine below_set ?_ GE291.out) | exact HB.out))) : w.heap.size ≤ gb300)); have n7_ := Aside0.mk ((by rw [hg]; exact Nat.ne_of_lt (blk_lt (g := gb290) (o := .cells #[.int .i64 a0_0, .int .i64 a0_1, .int .i64 a0_2] 23 (0, 0)) (by (with_reducible repeat (first | refine blk_drewN ?_ _ | refine blk_drew ?_ | refine blk_alloc ?_ _)); exact BK290.out)) : gb290 ≠ gb300)); have n8_ := Aside0.mk ((by rw [hg]; exact Nat.ne_of_gt (blk_lt (g := gb290) (o := .cells #[.int .i64 a0_0, .int .i64 a0_1, .int .i64 a0_2] 23 (0, 0)) (by (with_reducible repeat (first | refine blk_drewN ?_ _ | refine blk_drew ?_ | refine blk_alloc ?_ _)); exact BK290.out)) : gb300 ≠ gb290)); have n9_ := Aside0.mk ((by rw [hg]; exact Nat.ne_of_lt (blk_lt (g := gb291) (o := .cells #[.int .i64 a1_0, .int .i64 a1_1, .int .i64 a1_2] 37 (0, 0)) (by (with_reducible repeat (first | refine blk_drewN ?_ _ | refine blk_drew ?_ | refine blk_alloc ?_ _)); exact BK291.out)) : gb291 ≠ gb300)); have n10_ := Aside0.mk ((by rw [hg]; exact Nat.ne_of_gt (blk_lt (g := gb291) (o := .cells #[.int .i64 a1_0, .int .i64 a1_1, .int .i64 a1_2] 37 (0, 0)) (by (with_reducible repeat (first | refine blk_drewN ?_ _ | refine blk_drew ?_ | refine blk_alloc ?_ _)); exact BK291.out)) : gb300 ≠ gb291)); clear HO_12; clear BK290; clear BK291; clear HB; have HO_12 := n0_; have BK290 := n1_; have BK291 := n2_; have HB := n3_; have BK300 := n4_; have GW300 := n5_; have GE300 := n6_; have NB290_300 := n7_; have NB300_290 := n8_; have NB291_300 := n9_; have NB300_291 := n10_; clear n0_ n1_ n2_ n3_ n4_ n5_ n6_ n7_ n8_ n9_ n10_; clear hb hbox hg; have hnb48 := NB300_290.out; have hnc48 := NB290_300.out; have hnb49 := NB300_291.out; have hnc49 := NB291_300.out; have hcz50_0 : w47.cell? ⟨gb300, 0, none⟩ = some (.int .i64 0) := (blk_cell BK300.out 0).trans rfl; have hcz50_1 : w47.cell? ⟨gb300, 1, none⟩ = some (.int .i64 0) := (blk_cell BK300.out 1).trans rfl; have hcz50_2 : w47.cell? ⟨gb300, 2, none⟩ = some (.int .i64 0) := (blk_cell BK300.out 2).trans rfl; have hfz50_0 := blk_frozen BK300.out 0; have hfz50_1 := blk_frozen BK300.out 1; have hfz50_2 := blk_frozen BK300.out 2; have hcz51_0 : w47.cell? ⟨gb291, 0, none⟩ = some (.int .i64 a1_0) := (blk_cell BK291.out 0).trans rfl; have hcz51_1 : w47.cell? ⟨gb291, 1, none⟩ = some (.int .i64 a1_1) := (blk_cell BK291.out 1).trans rfl; have hcz51_2 : w47.cell? ⟨gb291, 2, none⟩ = some (.int .i64 a1_2) := (blk_cell BK291.out 2).trans rfl; have hfz51_0 := blk_frozen BK291.out 0; have hfz51_1 := blk_frozen BK291.out 1; have hfz51_2 := blk_frozen BK291.out 2) | ((with_reducible refine gate_dst (N := 18) rfl ?_); (try (refine gate_guard (by rfl) ?_; dsimp only)); refine box_event ?hg (N := 18) ?hd (cs := #[.int .i64 0, .int .i64 0, .int .i64 0]) (t := 37) ?hr ?_; (case hd => rfl); (case hg => rfl); (case hr => first | (go_simp; done) | (go_simp; rfl)); intro gb301 hg w52 hbox hb; have n0_ := Aside0.mk (Kd.R_below (Kd.R_elderB (by (with_reducible repeat (first | apply Kd.R_alloc | apply Kd.R_drewN | apply Kd.R_drew)); exact (Kd.R_mono (Kd.R_far (p := ⟨gb300, 2, none⟩) (Kd.R_far (p := ⟨gb300, 1, none⟩) (Kd.R_far (p := ⟨gb300, 0, none⟩) (Kd.R_mono HO_12.out (fun k_ hk => (⟨hk, hk.2⟩ : _ ∧ k_ ≠ gb300))) (fun _ hk => hk.2) (.int .i64 (wrap64 (-a1_0)))) (fun _ hk => hk.2) (.int .i64 (wrap64 (-a1_1)))) (fun _ hk => hk.2) (.int .i64 (wrap64 (-a1_2)))) (fun _ h_ => h_.1))) gb301 (Nat.le_of_eq hg.symm)) hb); have n1_ := Aside0.mk (blk_below (g := gb290) (o := .cells #[.int .i64 a0_0, .int .i64 a0_1, .int .i64 a0_2] 23 (0, 0)) (by (with_reducible repeat (first | refine blk_drewN ?_ _ | refine blk_drew ?_ | refine blk_alloc ?_ _)); refine blk_far ?_ NB290_300.out _; (with_reducible repeat (first | refine blk_drewN ?_ _ | refine blk_drew ?_ | refine blk_alloc ?_ _)); refine blk_far ?_ NB290_300.out _; (with_reducible repeat (first | refine blk_drewN ?_ _ | refine blk_drew ?_ | refine blk_alloc ?_ _)); refine blk_far ?_ NB290_300.out _; (with_reducible repeat (first | refine blk_drewN ?_ _ | refine blk_drew ?_ | refine blk_alloc ?_ _)); exact BK290.out) hb); have n2_ := Aside0.mk (blk_below (g := gb291) (o := .cells #[.int .i64 a1_0, .int .i64 a1_1, .int .i64 a1_2] 37 (0, 0)) (by (with_reducible repeat (first | refine blk_drewN ?_ _ | refine blk_drew ?_ | refine blk_alloc ?_ _)); refine blk_far ?_ NB291_300.out _; (with_reducible repeat (first | refine blk_drewN ?_ _ | refine blk_drew ?_ | refine blk_alloc ?_ _)); refine blk_far ?_ NB291_300.out _; (with_reducible repeat (first | refine blk_drewN ?_ _ | refine blk_drew ?_ | refine blk_alloc ?_ _)); refine blk_far ?_ NB291_300.out _; (with_reducible repeat (first | refine blk_drewN ?_ _ | refine blk_drew ?_ | refine blk_alloc ?_ _)); exact BK291.out) hb); have n3_ := Aside0.mk (blk_below (g := gb300) (o := .cells #[.int .i64 (wrap64 (-a1_0)), .int .i64 (wrap64 (-a1_1)), .int .i64 (wrap64 (-a1_2))] 37 (0, 0)) (by (with_reducible repeat (first | refine blk_drewN ?_ _ | refine blk_drew ?_ | refine blk_alloc ?_ _)); refine blk_put (cs := #[.int .i64 (wrap64 (-a1_0)), .int .i64 (wrap64 (-a1_1)), .int .i64 0]) ?_ 2 _ rfl; (with_reducible repeat (first | refine blk_drewN ?_ _ | refine blk_drew ?_ | refine blk_alloc ?_ _)); refine blk_put (cs := #[.int .i64 (wrap64 (-a1_0)), .int .i64 0, .int .i64 0]) ?_ 1 _ rfl; (with_reducible repeat (first | refine blk_drewN ?_ _ | refine blk_drew ?_ | refine blk_alloc ?_ _)); refine blk_put (cs := #[.int .i64 0, .int .i64 0, .int .i64 0]) ?_ 0 _ rfl; (with_reducible repeat (first | refine blk_drewN ?_ _ | refine blk_drew ?_ | refine blk_alloc ?_ _)); exact BK300.out) hb); have n4_ := Aside0.mk (below_step (by repeat (first | (with_reducible first | exact HB.out | apply below_alloc | apply pw_below_drewN | apply below_drew1 | refine below_set ?_ GE290.out | refine below_set ?_ GE291.out | refine below_set ?_ GE300.out) | exact HB.out)) hb); have n5_ := Aside0.mk (hbox); have n6_ := Aside0.mk ((by rw [hg]; exact (below_size (by repeat (first | (with_reducible first | exact HB.out | apply below_alloc | apply pw_below_drewN | apply below_drew1 | refine below_set ?_ GE290.out | refine below_set ?_ GE291.out | refine below_set ?_ GE300.out) | exact HB.out))) : w.heap.size ≤ gb301)); have n7_ := Aside0.mk ((by rw [hg]; exact (below_size (by repeat (first | (with_reducible first | exact HB.out | apply below_alloc | apply pw_below_drewN | apply below_drew1 | refine below_set ?_ GE290.out | refine below_set ?_ GE291.out | refine below_set ?_ GE300.out) | exact HB.out))) : w.heap.size ≤ gb301)); have n8_ := Aside0.mk ((by rw [hg]; exact Nat.ne_of_lt (blk_lt (g := gb290) (o := .cells #[.int .i64 a0_0, .int .i64 a0_1, .int .i64 a0_2] 23 (0, 0)) (by (with_reducible repeat (first | refine blk_drewN ?_ _ | refine blk_drew ?_ | refine blk_alloc ?_ _)); refine blk_far ?_ NB290_300.out _; (with_reducible repeat (first | refine blk_drewN ?_ _ | refine blk_drew ?_ | refine blk_alloc ?_ _)); refine blk_far ?_ NB290_300.out _; (with_reducible repeat (first | refine blk_drewN ?_ _ | refine blk_drew ?_ | refine blk_alloc ?_ _)); refine blk_far ?_ NB290_300.out _; (with_reducible repeat (first | refine blk_drewN ?_ _ | refine blk_drew ?_ | refine blk_alloc ?_ _)); exact BK290.out)) : gb290 ≠ gb301)); have n9_ := Aside0.mk ((by rw [hg]; exact Nat.ne_of_gt (blk_lt (g := gb290) (o := .cells #[.int .i64 a0_0, .int .i64 a0_1, .int .i64 a0_2] 23 (0, 0)) (by (with_reducible repeat (first | refine blk_drewN ?_ _ | refine blk_drew ?_ | refine blk_alloc ?_ _)); refine blk_far ?_ NB290_300.out _; (with_reducible repeat (first | refine blk_drewN ?_ _ | refine blk_drew ?_ | refine blk_alloc ?_ _)); refine blk_far ?_ NB290_300.out _; (with_reducible repeat (first | refine blk_drewN ?_ _ | refine blk_drew ?_ | refine blk_alloc ?_ _)); refine blk_far ?_ NB290_300.out _; (with_reducible repeat (first | refine blk_drewN ?_ _ | refine blk_drew ?_ | refine blk_alloc ?_ _)); exact BK290.out)) : gb301 ≠ gb290)); have n10_ := Aside0.mk ((by rw [hg]; exact Nat.ne_of_lt (blk_lt (g := gb291) (o := .cells #[.int .i64 a1_0, .int .i64 a1_1, .int .i64 a1_2] 37 (0, 0)) (by (with_reducible repeat (first | refine blk_drewN ?_ _ | refine blk_drew ?_ | refine blk_alloc ?_ _)); refine blk_far ?_ NB291_300.out _; (with_reducible repeat (first | refine blk_drewN ?_ _ | refine blk_drew ?_ | refine blk_alloc ?_ _)); refine blk_far ?_ NB291_300.out _; (with_reducible repeat (first | refine blk_drewN ?_ _ | refine blk_drew ?_ | refine blk_alloc ?_ _)); refine blk_far ?_ NB291_300.out _; (with_reducible repeat (first | refine blk_drewN ?_ _ | refine blk_drew ?_ | refine blk_alloc ?_ _)); exact BK291.out)) : gb291 ≠ gb301)); have n11_ := Aside0.mk ((by rw [hg]; exact Nat.ne_of_gt (blk_lt (g := gb291) (o := .cells #[.int .i64 a1_0, .int .i64 a1_1, .int .i64 a1_2] 37 (0, 0)) (by (with_reducible repeat (first | refine blk_drewN ?_ _ | refine blk_drew ?_ | refine blk_alloc ?_ _)); refine blk_far ?_ NB291_300.out _; (with_reducible repeat (first | refine blk_drewN ?_ _ | refine blk_drew ?_ | refine blk_alloc ?_ _)); refine blk_far ?_ NB291_300.out _; (with_reducible repeat (first | refine blk_drewN ?_ _ | refine blk_drew ?_ | refine blk_alloc ?_ _)); refine blk_far ?_ NB291_300.out _; (with_reducible repeat (first | refine blk_drewN ?_ _ | refine blk_drew ?_ | refine blk_alloc ?_ _)); exact BK291.out)) : gb301 ≠ gb291)); have n12_ := Aside0.mk ((by rw [hg]; exact Nat.ne_of_lt (blk_lt (g := gb300) (o := .cells #[.int .i64 (wrap64 (-a1_0)), .int .i64 (wrap64 (-a1_1)), .int .i64 (wrap64 (-a1_2))] 37 (0, 0)) (by (with_reducible repeat (first | refine blk_drewN ?_ _ | refine blk_drew ?_ | refine blk_alloc ?_ _)); refine blk_put (cs := #[.int .i64 (wrap64 (-a1_0)), .int .i64 (wrap64 (-a1_1)), .int .i64 0]) ?_ 2 _ rfl; (with_reducible repeat (first | refine blk_drewN ?_ _ | refine blk_drew ?_ | refine blk_alloc ?_ _)); refine blk_put (cs := #[.int .i64 (wrap64 (-a1_0)), .int .i64 0, .int .i64 0]) ?_ 1 _ rfl; (with_reducible repeat (first | refine blk_drewN ?_ _ | refine blk_drew ?_ | refine blk_alloc ?_ _)); refine blk_put (cs := #[.int .i64 0, .int .i64 0, .int .i64 0]) ?_ 0 _ rfl; (with_reducible repeat (first | refine blk_drewN ?_ _ | refine blk_drew ?_ | refine blk_alloc ?_ _)); exact BK300.out)) : gb300 ≠ gb301)); have n13_ := Aside0.mk ((by rw [hg]; exact Nat.ne_of_gt (blk_lt (g := gb300) (o := .cells #[.int .i64 (wrap64 (-a1_0)), .int .i64 (wrap64 (-a1_1)), .int .i64 (wrap64 (-a1_2))] 37 (0, 0)) (by (with_reducible repeat (first | refine blk_drewN ?_ _ | refine blk_drew ?_ | refine blk_alloc ?_ _)); refine blk_put (cs := #[.int .i64 (wrap64 (-a1_0)), .int .i64 (wrap64 (-a1_1)), .int .i64 0]) ?_ 2 _ rfl; (with_reducible repeat (first | refine blk_drewN ?_ _ | refine blk_drew ?_ | refine blk_alloc ?_ _)); refine blk_put (cs := #[.int .i64 (wrap64 (-a1_0)), .int .i64 0, .int .i64 0]) ?_ 1 _ rfl; (with_reducible repeat (first | refine blk_drewN ?_ _ | refine blk_drew ?_ | refine blk_alloc ?_ _)); refine blk_put (cs := #[.int .i64 0, .int .i64 0, .int .i64 0]) ?_ 0 _ rfl; (with_reducible repeat (first | refine blk_drewN ?_ _ | refine blk_drew ?_ | refine blk_alloc ?_ _)); exact BK300.out)) : gb301 ≠ gb300)); clear HO_12; clear BK290; clear BK291; clear BK300; clear HB; have HO_12 := n0_; have BK290 := n1_; have BK291 := n2_; have BK300 := n3_; have HB := n4_; have BK301 := n5_; have GW301 := n6_; have GE301 := n7_; have NB290_301 := n8_; have NB301_290 := n9_; have NB291_301 := n10_; have NB301_291 := n11_; have NB300_301 := n12_; have NB301_300 := n13_; clear n0_ n1_ n2_ n3_ n4_ n5_ n6_ n7_ n8_ n9_ n10_ n11_ n12_ n13_; clear hb hbox hg; have hnb53 := NB301_290.out; have hnc53 := NB290_301.out; have hnb54 := NB301_291.out; have hnc54 := NB291_301.out; have hnb55 := NB301_300.out; have hnc55 := NB300_301.out; have hcz56_0 : w52.cell? ⟨gb301, 0, none⟩ = some (.int .i64 0) := (blk_cell BK301.out 0).trans rfl; have hcz56_1 : w52.cell? ⟨gb301, 1, none⟩ = some (.int .i64 0) := (blk_cell BK301.out 1).trans rfl; have hcz56_2 : w52.cell? ⟨gb301, 2, none⟩ = some (.int .i64 0) := (blk_cell BK301.out 2).trans rfl; have hfz56_0 := blk_frozen BK301.out 0; have hfz56_1 := blk_frozen BK301.out 1; have hfz56_2 := blk_frozen BK301.out 2; have hcz57_0 : w52.cell? ⟨gb290, 0, none⟩ = some (.int .i64 a0_0) := (blk_cell BK290.out 0).trans rfl; have hcz57_1 : w52.cell? ⟨gb290, 1, none⟩ = some (.int .i64 a0_1) := (blk_cell BK290.out 1).trans rfl; have hcz57_2 : w52.cell? ⟨gb290, 2, none⟩ = some (.int .i64 a0_2) := (blk_cell BK290.out 2).trans rfl; have hfz57_0 := blk_frozen BK290.out 0; have hfz57_1 := blk_frozen BK290.out 1; have hfz57_2 := blk_frozen BK290.out 2) | (go_at_call 29; (with_reducible refine (braking_StopMotion.calls k2 a0_0 a0_1 a0_2 (wrap64 (a1_0 + (wrap64 (a3)))) a1_1 a1_2 (Int.tmod (wrap64 (a2)) 3) t302 _ A42.out).mono ?_); rintro e w58 ⟨v303, rfl, ho0, hb⟩; have n0_ := Aside0.mk (Kd.R_elder' (by (with_reducible repeat (first | apply Kd.R_alloc | apply Kd.R_drewN | apply Kd.R_drew)); exact (Kd.R_mono (Kd.R_far (p := ⟨gb301, 2, none⟩) (Kd.R_far (p := ⟨gb301, 1, none⟩) (Kd.R_far (p := ⟨gb301, 0, none⟩) (Kd.R_mono HO_12.out (fun k_ hk => (⟨hk, hk.2⟩ : _ ∧ k_ ≠ gb301))) (fun _ hk => hk.2) (.int .i64 (wrap64 (a1_0 + (wrap64 (a3)))))) (fun _ hk => hk.2) (.int .i64 a1_1)) (fun _ hk => hk.2) (.int .i64 a1_2)) (fun _ h_ => h_.1))) (Kd.R_base ho0) hb); have n1_ := Aside0.mk (Kd.R_lower (Kd.R_newB (Kd.R_newB (Kd.R_newB (Kd.R_new' ho0 (Kd.R_lt (by (with_reducible repeat (first | apply Kd.R_alloc | apply Kd.R_drewN | apply Kd.R_drew)); exact (Kd.R_mono (Kd.R_far (p := ⟨gb301, 2, none⟩) (Kd.R_far (p := ⟨gb301, 1, none⟩) (Kd.R_far (p := ⟨gb301, 0, none⟩) (Kd.R_mono HO_12.out (fun k_ hk => (⟨hk, hk.2⟩ : _ ∧ k_ ≠ gb301))) (fun _ hk => hk.2) (.int .i64 (wrap64 (a1_0 + (wrap64 (a3)))))) (fun _ hk => hk.2) (.int .i64 a1_1)) (fun _ hk => hk.2) (.int .i64 a1_2)) (fun _ h_ => h_.1))))) (g := gb291) (o := .cells #[.int .i64 a1_0, .int .i64 a1_1, .int .i64 a1_2] 37 (0, 0)) (by (with_reducible repeat (first | refine blk_drewN ?_ _ | refine blk_drew ?_ | refine blk_alloc ?_ _)); refine blk_far ?_ NB291_301.out _; (with_reducible repeat (first | refine blk_drewN ?_ _ | refine blk_drew ?_ | refine blk_alloc ?_ _)); refine blk_far ?_ NB291_301.out _; (with_reducible repeat (first | refine blk_drewN ?_ _ | refine blk_drew ?_ | refine blk_alloc ?_ _)); refine blk_far ?_ NB291_301.out _; (with_reducible repeat (first | refine blk_drewN ?_ _ | refine blk_drew ?_ | refine blk_alloc ?_ _)); exact BK291.out)) (g := gb300) (o := .cells #[.int .i64 (wrap64 (-a1_0)), .int .i64 (wrap64 (-a1_1)), .int .i64 (wrap64 (-a1_2))] 37 (0, 0)) (by (with_reducible repeat (first | refine blk_drewN ?_ _ | refine blk_drew ?_ | refine blk_alloc ?_ _)); refine blk_far ?_ NB300_301.out _; (with_reducible repeat (first | refine blk_drewN ?_ _ | refine blk_drew ?_ | refine blk_alloc ?_ _)); refine blk_far ?_ NB300_301.out _; (with_reducible repeat (first | refine blk_drewN ?_ _ | refine blk_drew ?_ | refine blk_alloc ?_ _)); refine blk_far ?_ NB300_301.out _; (with_reducible repeat (first | refine blk_drewN ?_ _ | refine blk_drew ?_ | refine blk_alloc ?_ _)); exact BK300.out)) (g := gb301) (o := .cells #[.int .i64 (wrap64 (a1_0 + (wrap64 (a3)))), .int .i64 a1_1, .int .i64 a1_2] 37 (0, 0)) (by (with_reducible repeat (first | refine blk_drewN ?_ _ | refine blk_drew ?_ | refine blk_alloc ?_ _)); refine blk_put (cs := #[.int .i64 (wrap64 (a1_0 + (wrap64 (a3)))), .int .i64 a1_1, .int .i64 0]) ?_ 2 _ rfl; (with_reducible repeat (first | refine blk_drewN ?_ _ | refine blk_drew ?_ | refine blk_alloc ?_ _)); refine blk_put (cs := #[.int .i64 (wrap64 (a1_0 + (wrap64 (a3)))), .int .i64 0, .int .i64 0]) ?_ 1 _ rfl; (with_reducible repeat (first | refine blk_drewN ?_ _ | refine blk_drew ?_ | refine blk_alloc ?_ _)); refine blk_put (cs := #[.int .i64 0, .int .i64 0, .int .i64 0]) ?_ 0 _ rfl; (with_reducible repeat (first | refine blk_drewN ?_ _ | refine blk_drew ?_ | refine blk_alloc ?_ _)); exact BK301.out)) (below_size (by repeat (first | (with_reducible first | exact HB.out | apply below_alloc | apply pw_below_drewN | apply below_drew1 | refine below_set ?_ GE290.out | refine below_set ?_ GE291.out | refine below_set ?_ GE300.out | refine below_set ?_ GE301.out) | exact HB.out)))); have n2_ := Aside0.mk (blk_below (g := gb290) (o := .cells #[.int .i64 a0_0, .int .i64 a0_1, .int .i64 a0_2] 23 (0, 0)) (by (with_reducible repeat (first | refine blk_drewN ?_ _ | refine blk_drew ?_ | refine blk_alloc ?_ _)); refine blk_far ?_ NB290_301.out _; (with_reducible repeat (first | refine blk_drewN ?_ _ | refine blk_drew ?_ | refine blk_alloc ?_ _)); refine blk_far ?_ NB290_301.out _; (with_reducible repeat (first | refine blk_drewN ?_ _ | refine blk_drew ?_ | refine blk_alloc ?_ _)); refine blk_far ?_ NB290_301.out _; (with_reducible repeat (first | refine blk_drewN ?_ _ | refine blk_drew ?_ | refine blk_alloc ?_ _)); exact BK290.out) hb); have n3_ := Aside0.mk (blk_below (g := gb291) (o := .cells #[.int .i64 a1_0, .int .i64 a1_1, .int .i64 a1_2] 37 (0, 0)) (by (with_reducible repeat (first | refine blk_drewN ?_ _ | refine blk_drew ?_ | refine blk_alloc ?_ _)); refine blk_far ?_ NB291_301.out _; (with_reducible repeat (first | refine blk_drewN ?_ _ | refine blk_drew ?_ | refine blk_alloc ?_ _)); refine blk_far ?_ NB291_301.out _; (with_reducible repeat (first | refine blk_drewN ?_ _ | refine blk_drew ?_ | refine blk_alloc ?_ _)); refine blk_far ?_ NB291_301.out _; (with_reducible repeat (first | refine blk_drewN ?_ _ | refine blk_drew ?_ | refine blk_alloc ?_ _)); exact BK291.out) hb); have n4_ := Aside0.mk (blk_below (g := gb300) (o := .cells #[.int .i64 (wrap64 (-a1_0)), .int .i64 (wrap64 (-a1_1)), .int .i64 (wrap64 (-a1_2))] 37 (0, 0)) (by (with_reducible repeat (first | refine blk_drewN ?_ _ | refine blk_drew ?_ | refine blk_alloc ?_ _)); refine blk_far ?_ NB300_301.out _; (with_reducible repeat (first | refine blk_drewN ?_ _ | refine blk_drew ?_ | refine blk_alloc ?_ _)); refine blk_far ?_ NB300_301.out _; (with_reducible repeat (first | refine blk_drewN ?_ _ | refine blk_drew ?_ | refine blk_alloc ?_ _)); refine blk_far ?_ NB300_301.out _; (with_reducible repeat (first | refine blk_drewN ?_ _ | refine blk_drew ?_ | refine blk_alloc ?_ _)); exact BK300.out) hb); have n5_ := Aside0.mk (blk_below (g := gb301) (o := .cells #[.int .i64 (wrap64 (a1_0 + (wrap64 (a3)))), .int .i64 a1_1, .int .i64 a1_2] 37 (0, 0)) (by (with_reducible repeat (first | refine blk_drewN ?_ _ | refine blk_drew ?_ | refine blk_alloc ?_ _)); refine blk_put (cs := #[.int .i64 (wrap64 (a1_0 + (wrap64 (a3)))), .int .i64 a1_1, .int .i64 0]) ?_ 2 _ rfl; (with_reducible repeat (first | refine blk_drewN ?_ _ | refine blk_drew ?_ | refine blk_alloc ?_ _)); refine blk_put (cs := #[.int .i64 (wrap64 (a1_0 + (wrap64 (a3)))), .int .i64 0, .int .i64 0]) ?_ 1 _ rfl; (with_reducible repeat (first | refine blk_drewN ?_ _ | refine blk_drew ?_ | refine blk_alloc ?_ _)); refine blk_put (cs := #[.int .i64 0, .int .i64 0, .int .i64 0]) ?_ 0 _ rfl; (with_reducible repeat (first | refine blk_drewN ?_ _ | refine blk_drew ?_ | refine blk_alloc ?_ _)); exact BK301.out) hb); have n6_ := Aside0.mk (below_step (by repeat (first | (with_reducible first | exact HB.out | apply below_alloc | apply pw_below_drewN | apply below_drew1 | refine below_set ?_ GE290.out | refine below_set ?_ GE291.out | refine below_set ?_ GE300.out | refine below_set ?_ GE301.out) | exact HB.out)) hb); clear HO_12; clear BK290; clear BK291; clear BK300; clear BK301; clear HB; have HO_12 := n0_; have HO304 := n1_; have BK290 := n2_; have BK291 := n3_; have BK300 := n4_; have BK301 := n5_; have HB := n6_; clear n0_ n1_ n2_ n3_ n4_ n5_ n6_; (try clear hb); (try clear hb2); (try clear hk); (try clear hi); (try clear ho0)))
              repeat (go_quiet (first | ((with_reducible refine gate_dst (N := 17) rfl ?_); (try (refine gate_guard (by rfl) ?_; dsimp only)); refine box_event ?hg (N := 17) ?hd (cs := #[.int .i64 0, .int .i64 0, .int .i64 0]) (t := 37) ?hr ?_; (case hd => rfl); (case hg => rfl); (case hr => first | (go_simp; done) | (go_simp; rfl)); intro gb300 hg w47 hbox hb; have n0_ := Aside0.mk (Kd.R_below (Kd.R_elderB (by (with_reducible repeat (first | apply Kd.R_alloc | apply Kd.R_drewN | apply Kd.R_drew)); exact HO_12.out) gb300 (Nat.le_of_eq hg.symm)) hb); have n1_ := Aside0.mk (blk_below (g := gb290) (o := .cells #[.int .i64 a0_0, .int .i64 a0_1, .int .i64 a0_2] 23 (0, 0)) (by (with_reducible repeat (first | refine blk_drewN ?_ _ | refine blk_drew ?_ | refine blk_alloc ?_ _)); exact BK290.out) hb); have n2_ := Aside0.mk (blk_below (g := gb291) (o := .cells #[.int .i64 a1_0, .int .i64 a1_1, .int .i64 a1_2] 37 (0, 0)) (by (with_reducible repeat (first | refine blk_drewN ?_ _ | refine blk_drew ?_ | refine blk_alloc ?_ _)); exact BK291.out) hb); have n3_ := Aside0.mk (below_step (by repeat (first | (with_reducible first | exact HB.out | apply below_alloc | apply pw_below_drewN | apply below_drew1 | refine below_set ?_ GE290.out | refine below_set ?_ GE291.out) | exact HB.out)) hb); have n4_ := Aside0.mk (hbox); have n5_ := Aside0.mk ((by rw [hg]; exact (below_size (by repeat (first | (with_reducible first | exact HB.out | apply below_alloc | apply pw_below_drewN | apply below_drew1 | refine below_set ?_ GE290.out | refine below_set ?_ GE291.out) | exact HB.out))) : w.heap.size ≤ gb300)); have n6_ := Aside0.mk ((by rw [hg]; exact (below_size (by repeat (first | (with_reducible first | exact HB.out | apply below_alloc | apply pw_below_drewN | apply below_drew1 | refine below_set ?_ GE290.out | refine below_set ?_ GE291.out) | exact HB.out))) : w.heap.size ≤ gb300)); have n7_ := Aside0.mk ((by rw [hg]; exact Nat.ne_of_lt (blk_lt (g := gb290) (o := .cells #[.int .i64 a0_0, .int .i64 a0_1, .int .i64 a0_2] 23 (0, 0)) (by (with_reducible repeat (first | refine blk_drewN ?_ _ | refine blk_drew ?_ | refine blk_alloc ?_ _)); exact BK290.out)) : gb290 ≠ gb300)); have n8_ := Aside0.mk ((by rw [hg]; exact Nat.ne_of_gt (blk_lt (g := gb290) (o := .cells #[.int .i64 a0_0, .int .i64 a0_1, .int .i64 a0_2] 23 (0, 0)) (by (with_reducible repeat (first | refine blk_drewN ?_ _ | refine blk_drew ?_ | refine blk_alloc ?_ _)); exact BK290.out)) : gb300 ≠ gb290)); have n9_ := Aside0.mk ((by rw [hg]; exact Nat.ne_of_lt (blk_lt (g := gb291) (o := .cells #[.int .i64 a1_0, .int .i64 a1_1, .int .i64 a1_2] 37 (0, 0)) (by (with_reducible repeat (first | refine blk_drewN ?_ _ | refine blk_drew ?_ | refine blk_alloc ?_ _)); exact BK291.out)) : gb291 ≠ gb300)); have n10_ := Aside0.mk ((by rw [hg]; exact Nat.ne_of_gt (blk_lt (g := gb291) (o := .cells #[.int .i64 a1_0, .int .i64 a1_1, .int .i64 a1_2] 37 (0, 0)) (by (with_reducible repeat (first | refine blk_drewN ?_ _ | refine blk_drew ?_ | refine blk_alloc ?_ _)); exact BK291.out)) : gb300 ≠ gb291)); clear HO_12; clear BK290; clear BK291; clear HB; have HO_12 := n0_; have BK290 := n1_; have BK291 := n2_; have HB := n3_; have BK300 := n4_; have GW300 := n5_; have GE300 := n6_; have NB290_300 := n7_; have NB300_290 := n8_; have NB291_300 := n9_; have NB300_291 := n10_; clear n0_ n1_ n2_ n3_ n4_ n5_ n6_ n7_ n8_ n9_ n10_; clear hb hbox hg; have hnb48 := NB300_290.out; have hnc48 := NB290_300.out; have hnb49 := NB300_291.out; have hnc49 := NB291_300.out; have hcz50_0 : w47.cell? ⟨gb300, 0, none⟩ = some (.int .i64 0) := (blk_cell BK300.out 0).trans rfl; have hcz50_1 : w47.cell? ⟨gb300, 1, none⟩ = some (.int .i64 0) := (blk_cell BK300.out 1).trans rfl; have hcz50_2 : w47.cell? ⟨gb300, 2, none⟩ = some (.int .i64 0) := (blk_cell BK300.out 2).trans rfl; have hfz50_0 := blk_frozen BK300.out 0; have hfz50_1 := blk_frozen BK300.out 1; have hfz50_2 := blk_frozen BK300.out 2; have hcz51_0 : w47.cell? ⟨gb291, 0, none⟩ = some (.int .i64 a1_0) := (blk_cell BK291.out 0).trans rfl; have hcz51_1 : w47.cell? ⟨gb291, 1, none⟩ = some (.int .i64 a1_1) := (blk_cell BK291.out 1).trans rfl; have hcz51_2 : w47.cell? ⟨gb291, 2, none⟩ = some (.int .i64 a1_2) := (blk_cell BK291.out 2).trans rfl; have hfz51_0 := blk_frozen BK291.out 0; have hfz51_1 := blk_frozen BK291.out 1; have hfz51_2 := blk_frozen BK291.out 2) | ((with_reducible refine gate_dst (N := 18) rfl ?_); (try (refine gate_guard (by rfl) ?_; dsimp only)); refine box_event ?hg (N := 18) ?hd (cs := #[.int .i64 0, .int .i64 0, .int .i64 0]) (t := 37) ?hr ?_; (case hd => rfl); (case hg => rfl); (case hr => first | (go_simp; done) | (go_simp; rfl)); intro gb301 hg w52 hbox hb; have n0_ := Aside0.mk (Kd.R_below (Kd.R_elderB (by (with_reducible repeat (first | apply Kd.R_alloc | apply Kd.R_drewN | apply Kd.R_drew)); exact (Kd.R_mono (Kd.R_far (p := ⟨gb300, 2, none⟩) (Kd.R_far (p := ⟨gb300, 1, none⟩) (Kd.R_far (p := ⟨gb300, 0, none⟩) (Kd.R_mono HO_12.out (fun k_ hk => (⟨hk, hk.2⟩ : _ ∧ k_ ≠ gb300))) (fun _ hk => hk.2) (.int .i64 (wrap64 (-a1_0)))) (fun _ hk => hk.2) (.int .i64 (wrap64 (-a1_1)))) (fun _ hk => hk.2) (.int .i64 (wrap64 (-a1_2)))) (fun _ h_ => h_.1))) gb301 (Nat.le_of_eq hg.symm)) hb); have n1_ := Aside0.mk (blk_below (g := gb290) (o := .cells #[.int .i64 a0_0, .int .i64 a0_1, .int .i64 a0_2] 23 (0, 0)) (by (with_reducible repeat (first | refine blk_drewN ?_ _ | refine blk_drew ?_ | refine blk_alloc ?_ _)); refine blk_far ?_ NB290_300.out _; (with_reducible repeat (first | refine blk_drewN ?_ _ | refine blk_drew ?_ | refine blk_alloc ?_ _)); refine blk_far ?_ NB290_300.out _; (with_reducible repeat (first | refine blk_drewN ?_ _ | refine blk_drew ?_ | refine blk_alloc ?_ _)); refine blk_far ?_ NB290_300.out _; (with_reducible repeat (first | refine blk_drewN ?_ _ | refine blk_drew ?_ | refine blk_alloc ?_ _)); exact BK290.out) hb); have n2_ := Aside0.mk (blk_below (g := gb291) (o := .cells #[.int .i64 a1_0, .int .i64 a1_1, .int .i64 a1_2] 37 (0, 0)) (by (with_reducible repeat (first | refine blk_drewN ?_ _ | refine blk_drew ?_ | refine blk_alloc ?_ _)); refine blk_far ?_ NB291_300.out _; (with_reducible repeat (first | refine blk_drewN ?_ _ | refine blk_drew ?_ | refine blk_alloc ?_ _)); refine blk_far ?_ NB291_300.out _; (with_reducible repeat (first | refine blk_drewN ?_ _ | refine blk_drew ?_ | refine blk_alloc ?_ _)); refine blk_far ?_ NB291_300.out _; (with_reducible repeat (first | refine blk_drewN ?_ _ | refine blk_drew ?_ | refine blk_alloc ?_ _)); exact BK291.out) hb); have n3_ := Aside0.mk (blk_below (g := gb300) (o := .cells #[.int .i64 (wrap64 (-a1_0)), .int .i64 (wrap64 (-a1_1)), .int .i64 (wrap64 (-a1_2))] 37 (0, 0)) (by (with_reducible repeat (first | refine blk_drewN ?_ _ | refine blk_drew ?_ | refine blk_alloc ?_ _)); refine blk_put (cs := #[.int .i64 (wrap64 (-a1_0)), .int .i64 (wrap64 (-a1_1)), .int .i64 0]) ?_ 2 _ rfl; (with_reducible repeat (first | refine blk_drewN ?_ _ | refine blk_drew ?_ | refine blk_alloc ?_ _)); refine blk_put (cs := #[.int .i64 (wrap64 (-a1_0)), .int .i64 0, .int .i64 0]) ?_ 1 _ rfl; (with_reducible repeat (first | refine blk_drewN ?_ _ | refine blk_drew ?_ | refine blk_alloc ?_ _)); refine blk_put (cs := #[.int .i64 0, .int .i64 0, .int .i64 0]) ?_ 0 _ rfl; (with_reducible repeat (first | refine blk_drewN ?_ _ | refine blk_drew ?_ | refine blk_alloc ?_ _)); exact BK300.out) hb); have n4_ := Aside0.mk (below_step (by repeat (first | (with_reducible first | exact HB.out | apply below_alloc | apply pw_below_drewN | apply below_drew1 | refine below_set ?_ GE290.out | refine below_set ?_ GE291.out | refine below_set ?_ GE300.out) | exact HB.out)) hb); have n5_ := Aside0.mk (hbox); have n6_ := Aside0.mk ((by rw [hg]; exact (below_size (by repeat (first | (with_reducible first | exact HB.out | apply below_alloc | apply pw_below_drewN | apply below_drew1 | refine below_set ?_ GE290.out | refine below_set ?_ GE291.out | refine below_set ?_ GE300.out) | exact HB.out))) : w.heap.size ≤ gb301)); have n7_ := Aside0.mk ((by rw [hg]; exact (below_size (by repeat (first | (with_reducible first | exact HB.out | apply below_alloc | apply pw_below_drewN | apply below_drew1 | refine below_set ?_ GE290.out | refine below_set ?_ GE291.out | refine below_set ?_ GE300.out) | exact HB.out))) : w.heap.size ≤ gb301)); have n8_ := Aside0.mk ((by rw [hg]; exact Nat.ne_of_lt (blk_lt (g := gb290) (o := .cells #[.int .i64 a0_0, .int .i64 a0_1, .int .i64 a0_2] 23 (0, 0)) (by (with_reducible repeat (first | refine blk_drewN ?_ _ | refine blk_drew ?_ | refine blk_alloc ?_ _)); refine blk_far ?_ NB290_300.out _; (with_reducible repeat (first | refine blk_drewN ?_ _ | refine blk_drew ?_ | refine blk_alloc ?_ _)); refine blk_far ?_ NB290_300.out _; (with_reducible repeat (first | refine blk_drewN ?_ _ | refine blk_drew ?_ | refine blk_alloc ?_ _)); refine blk_far ?_ NB290_300.out _; (with_reducible repeat (first | refine blk_drewN ?_ _ | refine blk_drew ?_ | refine blk_alloc ?_ _)); exact BK290.out)) : gb290 ≠ gb301)); have n9_ := Aside0.mk ((by rw [hg]; exact Nat.ne_of_gt (blk_lt (g := gb290) (o := .cells #[.int .i64 a0_0, .int .i64 a0_1, .int .i64 a0_2] 23 (0, 0)) (by (with_reducible repeat (first | refine blk_drewN ?_ _ | refine blk_drew ?_ | refine blk_alloc ?_ _)); refine blk_far ?_ NB290_300.out _; (with_reducible repeat (first | refine blk_drewN ?_ _ | refine blk_drew ?_ | refine blk_alloc ?_ _)); refine blk_far ?_ NB290_300.out _; (with_reducible repeat (first | refine blk_drewN ?_ _ | refine blk_drew ?_ | refine blk_alloc ?_ _)); refine blk_far ?_ NB290_300.out _; (with_reducible repeat (first | refine blk_drewN ?_ _ | refine blk_drew ?_ | refine blk_alloc ?_ _)); exact BK290.out)) : gb301 ≠ gb290)); have n10_ := Aside0.mk ((by rw [hg]; exact Nat.ne_of_lt (blk_lt (g := gb291) (o := .cells #[.int .i64 a1_0, .int .i64 a1_1, .int .i64 a1_2] 37 (0, 0)) (by (with_reducible repeat (first | refine blk_drewN ?_ _ | refine blk_drew ?_ | refine blk_alloc ?_ _)); refine blk_far ?_ NB291_300.out _; (with_reducible repeat (first | refine blk_drewN ?_ _ | refine blk_drew ?_ | refine blk_alloc ?_ _)); refine blk_far ?_ NB291_300.out _; (with_reducible repeat (first | refine blk_drewN ?_ _ | refine blk_drew ?_ | refine blk_alloc ?_ _)); refine blk_far ?_ NB291_300.out _; (with_reducible repeat (first | refine blk_drewN ?_ _ | refine blk_drew ?_ | refine blk_alloc ?_ _)); exact BK291.out)) : gb291 ≠ gb301)); have n11_ := Aside0.mk ((by rw [hg]; exact Nat.ne_of_gt (blk_lt (g := gb291) (o := .cells #[.int .i64 a1_0, .int .i64 a1_1, .int .i64 a1_2] 37 (0, 0)) (by (with_reducible repeat (first | refine blk_drewN ?_ _ | refine blk_drew ?_ | refine blk_alloc ?_ _)); refine blk_far ?_ NB291_300.out _; (with_reducible repeat (first | refine blk_drewN ?_ _ | refine blk_drew ?_ | refine blk_alloc ?_ _)); refine blk_far ?_ NB291_300.out _; (with_reducible repeat (first | refine blk_drewN ?_ _ | refine blk_drew ?_ | refine blk_alloc ?_ _)); refine blk_far ?_ NB291_300.out _; (with_reducible repeat (first | refine blk_drewN ?_ _ | refine blk_drew ?_ | refine blk_alloc ?_ _)); exact BK291.out)) : gb301 ≠ gb291)); have n12_ := Aside0.mk ((by rw [hg]; exact Nat.ne_of_lt (blk_lt (g := gb300) (o := .cells #[.int .i64 (wrap64 (-a1_0)), .int .i64 (wrap64 (-a1_1)), .int .i64 (wrap64 (-a1_2))] 37 (0, 0)) (by (with_reducible repeat (first | refine blk_drewN ?_ _ | refine blk_drew ?_ | refine blk_alloc ?_ _)); refine blk_put (cs := #[.int .i64 (wrap64 (-a1_0)), .int .i64 (wrap64 (-a1_1)), .int .i64 0]) ?_ 2 _ rfl; (with_reducible repeat (first | refine blk_drewN ?_ _ | refine blk_drew ?_ | refine blk_alloc ?_ _)); refine blk_put (cs := #[.int .i64 (wrap64 (-a1_0)), .int .i64 0, .int .i64 0]) ?_ 1 _ rfl; (with_reducible repeat (first | refine blk_drewN ?_ _ | refine blk_drew ?_ | refine blk_alloc ?_ _)); refine blk_put (cs := #[.int .i64 0, .int .i64 0, .int .i64 0]) ?_ 0 _ rfl; (with_reducible repeat (first | refine blk_drewN ?_ _ | refine blk_drew ?_ | refine blk_alloc ?_ _)); exact BK300.out)) : gb300 ≠ gb301)); have n13_ := Aside0.mk ((by rw [hg]; exact Nat.ne_of_gt (blk_lt (g := gb300) (o := .cells #[.int .i64 (wrap64 (-a1_0)), .int .i64 (wrap64 (-a1_1)), .int .i64 (wrap64 (-a1_2))] 37 (0, 0)) (by (with_reducible repeat (first | refine blk_drewN ?_ _ | refine blk_drew ?_ | refine blk_alloc ?_ _)); refine blk_put (cs := #[.int .i64 (wrap64 (-a1_0)), .int .i64 (wrap64 (-a1_1)), .int .i64 0]) ?_ 2 _ rfl; (with_reducible repeat (first | refine blk_drewN ?_ _ | refine blk_drew ?_ | refine blk_alloc ?_ _)); refine blk_put (cs := #[.int .i64 (wrap64 (-a1_0)), .int .i64 0, .int .i64 0]) ?_ 1 _ rfl; (with_reducible repeat (first | refine blk_drewN ?_ _ | refine blk_drew ?_ | refine blk_alloc ?_ _)); refine blk_put (cs := #[.int .i64 0, .int .i64 0, .int .i64 0]) ?_ 0 _ rfl; (with_reducible repeat (first | refine blk_drewN ?_ _ | refine blk_drew ?_ | refine blk_alloc ?_ _)); exact BK300.out)) : gb301 ≠ gb300)); clear HO_12; clear BK290; clear BK291; clear BK300; clear HB; have HO_12 := n0_; have BK290 := n1_; have BK291 := n2_; have BK300 := n3_; have HB := n4_; have BK301 := n5_; have GW301 := n6_; have GE301 := n7_; have NB290_301 := n8_; have NB301_290 := n9_; have NB291_301 := n10_; have NB301_291 := n11_; have NB300_301 := n12_; have NB301_300 := n13_; clear n0_ n1_ n2_ n3_ n4_ n5_ n6_ n7_ n8_ n9_ n10_ n11_ n12_ n13_; clear hb hbox hg; have hnb53 := NB301_290.out; have hnc53 := NB290_301.out; have hnb54 := NB301_291.out; have hnc54 := NB291_301.out; have hnb55 := NB301_300.out; have hnc55 := NB300_301.out; have hcz56_0 : w52.cell? ⟨gb301, 0, none⟩ = some (.int .i64 0) := (blk_cell BK301.out 0).trans rfl; have hcz56_1 : w52.cell? ⟨gb301, 1, none⟩ = some (.int .i64 0) := (blk_cell BK301.out 1).trans rfl; have hcz56_2 : w52.cell? ⟨gb301, 2, none⟩ = some (.int .i64 0) := (blk_cell BK301.out 2).trans rfl; have hfz56_0 := blk_frozen BK301.out 0; have hfz56_1 := blk_frozen BK301.out 1; have hfz56_2 := blk_frozen BK301.out 2; have hcz57_0 : w52.cell? ⟨gb290, 0, none⟩ = some (.int .i64 a0_0) := (blk_cell BK290.out 0).trans rfl; have hcz57_1 : w52.cell? ⟨gb290, 1, none⟩ = some (.int .i64 a0_1) := (blk_cell BK290.out 1).trans rfl; have hcz57_2 : w52.cell? ⟨gb290, 2, none⟩ = some (.int .i64 a0_2) := (blk_cell BK290.out 2).trans rfl; have hfz57_0 := blk_frozen BK290.out 0; have hfz57_1 := blk_frozen BK290.out 1; have hfz57_2 := blk_frozen BK290.out 2) | (go_at_call 29; (with_reducible refine (braking_StopMotion.calls k2 a0_0 a0_1 a0_2 (wrap64 (a1_0 + (wrap64 (a3)))) a1_1 a1_2 (Int.tmod (wrap64 (a2)) 3) t302 _ A42.out).mono ?_); rintro e w58 ⟨v303, rfl, ho0, hb⟩; have n0_ := Aside0.mk (Kd.R_elder' (by (with_reducible repeat (first | apply Kd.R_alloc | apply Kd.R_drewN | apply Kd.R_drew)); exact (Kd.R_mono (Kd.R_far (p := ⟨gb301, 2, none⟩) (Kd.R_far (p := ⟨gb301, 1, none⟩) (Kd.R_far (p := ⟨gb301, 0, none⟩) (Kd.R_mono HO_12.out (fun k_ hk => (⟨hk, hk.2⟩ : _ ∧ k_ ≠ gb301))) (fun _ hk => hk.2) (.int .i64 (wrap64 (a1_0 + (wrap64 (a3)))))) (fun _ hk => hk.2) (.int .i64 a1_1)) (fun _ hk => hk.2) (.int .i64 a1_2)) (fun _ h_ => h_.1))) (Kd.R_base ho0) hb); have n1_ := Aside0.mk (Kd.R_lower (Kd.R_newB (Kd.R_newB (Kd.R_newB (Kd.R_new' ho0 (Kd.R_lt (by (with_reducible repeat (first | apply Kd.R_alloc | apply Kd.R_drewN | apply Kd.R_drew)); exact (Kd.R_mono (Kd.R_far (p := ⟨gb301, 2, none⟩) (Kd.R_far (p := ⟨gb301, 1, none⟩) (Kd.R_far (p := ⟨gb301, 0, none⟩) (Kd.R_mono HO_12.out (fun k_ hk => (⟨hk, hk.2⟩ : _ ∧ k_ ≠ gb301))) (fun _ hk => hk.2) (.int .i64 (wrap64 (a1_0 + (wrap64 (a3)))))) (fun _ hk => hk.2) (.int .i64 a1_1)) (fun _ hk => hk.2) (.int .i64 a1_2)) (fun _ h_ => h_.1))))) (g := gb291) (o := .cells #[.int .i64 a1_0, .int .i64 a1_1, .int .i64 a1_2] 37 (0, 0)) (by (with_reducible repeat (first | refine blk_drewN ?_ _ | refine blk_drew ?_ | refine blk_alloc ?_ _)); refine blk_far ?_ NB291_301.out _; (with_reducible repeat (first | refine blk_drewN ?_ _ | refine blk_drew ?_ | refine blk_alloc ?_ _)); refine blk_far ?_ NB291_301.out _; (with_reducible repeat (first | refine blk_drewN ?_ _ | refine blk_drew ?_ | refine blk_alloc ?_ _)); refine blk_far ?_ NB291_301.out _; (with_reducible repeat (first | refine blk_drewN ?_ _ | refine blk_drew ?_ | refine blk_alloc ?_ _)); exact BK291.out)) (g := gb300) (o := .cells #[.int .i64 (wrap64 (-a1_0)), .int .i64 (wrap64 (-a1_1)), .int .i64 (wrap64 (-a1_2))] 37 (0, 0)) (by (with_reducible repeat (first | refine blk_drewN ?_ _ | refine blk_drew ?_ | refine blk_alloc ?_ _)); refine blk_far ?_ NB300_301.out _; (with_reducible repeat (first | refine blk_drewN ?_ _ | refine blk_drew ?_ | refine blk_alloc ?_ _)); refine blk_far ?_ NB300_301.out _; (with_reducible repeat (first | refine blk_drewN ?_ _ | refine blk_drew ?_ | refine blk_alloc ?_ _)); refine blk_far ?_ NB300_301.out _; (with_reducible repeat (first | refine blk_drewN ?_ _ | refine blk_drew ?_ | refine blk_alloc ?_ _)); exact BK300.out)) (g := gb301) (o := .cells #[.int .i64 (wrap64 (a1_0 + (wrap64 (a3)))), .int .i64 a1_1, .int .i64 a1_2] 37 (0, 0)) (by (with_reducible repeat (first | refine blk_drewN ?_ _ | refine blk_drew ?_ | refine blk_alloc ?_ _)); refine blk_put (cs := #[.int .i64 (wrap64 (a1_0 + (wrap64 (a3)))), .int .i64 a1_1, .int .i64 0]) ?_ 2 _ rfl; (with_reducible repeat (first | refine blk_drewN ?_ _ | refine blk_drew ?_ | refine blk_alloc ?_ _)); refine blk_put (cs := #[.int .i64 (wrap64 (a1_0 + (wrap64 (a3)))), .int .i64 0, .int .i64 0]) ?_ 1 _ rfl; (with_reducible repeat (first | refine blk_drewN ?_ _ | refine blk_drew ?_ | refine blk_alloc ?_ _)); refine blk_put (cs := #[.int .i64 0, .int .i64 0, .int .i64 0]) ?_ 0 _ rfl; (with_reducible repeat (first | refine blk_drewN ?_ _ | refine blk_drew ?_ | refine blk_alloc ?_ _)); exact BK301.out)) (below_size (by repeat (first | (with_reducible first | exact HB.out | apply below_alloc | apply pw_below_drewN | apply below_drew1 | refine below_set ?_ GE290.out | refine below_set ?_ GE291.out | refine below_set ?_ GE300.out | refine below_set ?_ GE301.out) | exact HB.out)))); have n2_ := Aside0.mk (blk_below (g := gb290) (o := .cells #[.int .i64 a0_0, .int .i64 a0_1, .int .i64 a0_2] 23 (0, 0)) (by (with_reducible repeat (first | refine blk_drewN ?_ _ | refine blk_drew ?_ | refine blk_alloc ?_ _)); refine blk_far ?_ NB290_301.out _; (with_reducible repeat (first | refine blk_drewN ?_ _ | refine blk_drew ?_ | refine blk_alloc ?_ _)); refine blk_far ?_ NB290_301.out _; (with_reducible repeat (first | refine blk_drewN ?_ _ | refine blk_drew ?_ | refine blk_alloc ?_ _)); refine blk_far ?_ NB290_301.out _; (with_reducible repeat (first | refine blk_drewN ?_ _ | refine blk_drew ?_ | refine blk_alloc ?_ _)); exact BK290.out) hb); have n3_ := Aside0.mk (blk_below (g := gb291) (o := .cells #[.int .i64 a1_0, .int .i64 a1_1, .int .i64 a1_2] 37 (0, 0)) (by (with_reducible repeat (first | refine blk_drewN ?_ _ | refine blk_drew ?_ | refine blk_alloc ?_ _)); refine blk_far ?_ NB291_301.out _; (with_reducible repeat (first | refine blk_drewN ?_ _ | refine blk_drew ?_ | refine blk_alloc ?_ _)); refine blk_far ?_ NB291_301.out _; (with_reducible repeat (first | refine blk_drewN ?_ _ | refine blk_drew ?_ | refine blk_alloc ?_ _)); refine blk_far ?_ NB291_301.out _; (with_reducible repeat (first | refine blk_drewN ?_ _ | refine blk_drew ?_ | refine blk_alloc ?_ _)); exact BK291.out) hb); have n4_ := Aside0.mk (blk_below (g := gb300) (o := .cells #[.int .i64 (wrap64 (-a1_0)), .int .i64 (wrap64 (-a1_1)), .int .i64 (wrap64 (-a1_2))] 37 (0, 0)) (by (with_reducible repeat (first | refine blk_drewN ?_ _ | refine blk_drew ?_ | refine blk_alloc ?_ _)); refine blk_far ?_ NB300_301.out _; (with_reducible repeat (first | refine blk_drewN ?_ _ | refine blk_drew ?_ | refine blk_alloc ?_ _)); refine blk_far ?_ NB300_301.out _; (with_reducible repeat (first | refine blk_drewN ?_ _ | refine blk_drew ?_ | refine blk_alloc ?_ _)); refine blk_far ?_ NB300_301.out _; (with_reducible repeat (first | refine blk_drewN ?_ _ | refine blk_drew ?_ | refine blk_alloc ?_ _)); exact BK300.out) hb); have n5_ := Aside0.mk (blk_below (g := gb301) (o := .cells #[.int .i64 (wrap64 (a1_0 + (wrap64 (a3)))), .int .i64 a1_1, .int .i64 a1_2] 37 (0, 0)) (by (with_reducible repeat (first | refine blk_drewN ?_ _ | refine blk_drew ?_ | refine blk_alloc ?_ _)); refine blk_put (cs := #[.int .i64 (wrap64 (a1_0 + (wrap64 (a3)))), .int .i64 a1_1, .int .i64 0]) ?_ 2 _ rfl; (with_reducible repeat (first | refine blk_drewN ?_ _ | refine blk_drew ?_ | refine blk_alloc ?_ _)); refine blk_put (cs := #[.int .i64 (wrap64 (a1_0 + (wrap64 (a3)))), .int .i64 0, .int .i64 0]) ?_ 1 _ rfl; (with_reducible repeat (first | refine blk_drewN ?_ _ | refine blk_drew ?_ | refine blk_alloc ?_ _)); refine blk_put (cs := #[.int .i64 0, .int .i64 0, .int .i64 0]) ?_ 0 _ rfl; (with_reducible repeat (first | refine blk_drewN ?_ _ | refine blk_drew ?_ | refine blk_alloc ?_ _)); exact BK301.out) hb); have n6_ := Aside0.mk (below_step (by repeat (first | (with_reducible first | exact HB.out | apply below_alloc | apply pw_below_drewN | apply below_drew1 | refine below_set ?_ GE290.out | refine below_set ?_ GE291.out | refine below_set ?_ GE300.out | refine below_set ?_ GE301.out) | exact HB.out)) hb); clear HO_12; clear BK290; clear BK291; clear BK300; clear BK301; clear HB; have HO_12 := n0_; have HO304 := n1_; have BK290 := n2_; have BK291 := n3_; have BK300 := n4_; have BK301 := n5_; have HB := n6_; clear n0_ n1_ n2_ n3_ n4_ n5_ n6_; (try clear hb); (try clear hb2); (try clear hk); (try clear hi); (try clear ho0))); go_upto_region 19 with (first | ((with_reducible refine gate_dst (N := 17) rfl ?_); (try (refine gate_guard (by rfl) ?_; dsimp only)); refine box_event ?hg (N := 17) ?hd (cs := #[.int .i64 0, .int .i64 0, .int .i64 0]) (t := 37) ?hr ?_; (case hd => rfl); (case hg => rfl); (case hr => first | (go_simp; done) | (go_simp; rfl)); intro gb300 hg w47 hbox hb; have n0_ := Aside0.mk (Kd.R_below (Kd.R_elderB (by (with_reducible repeat (first | apply Kd.R_alloc | apply Kd.R_drewN | apply Kd.R_drew)); exact HO_12.out) gb300 (Nat.le_of_eq hg.symm)) hb); have n1_ := Aside0.mk (blk_below (g := gb290) (o := .cells #[.int .i64 a0_0, .int .i64 a0_1, .int .i64 a0_2] 23 (0, 0)) (by (with_reducible repeat (first | refine blk_drewN ?_ _ | refine blk_drew ?_ | refine blk_alloc ?_ _)); exact BK290.out) hb); have n2_ := Aside0.mk (blk_below (g := gb291) (o := .cells #[.int .i64 a1_0, .int .i64 a1_1, .int .i64 a1_2] 37 (0, 0)) (by (with_reducible repeat (first | refine blk_drewN ?_ _ | refine blk_drew ?_ | refine blk_alloc ?_ _)); exact BK291.out) hb); have n3_ := Aside0.mk (below_step (by repeat (first | (with_reducible first | exact HB.out | apply below_alloc | apply pw_below_drewN | apply below_drew1 | refine below_set ?_ GE290.out | refine below_set ?_ GE291.out) | exact HB.out)) hb); have n4_ := Aside0.mk (hbox); have n5_ := Aside0.mk ((by rw [hg]; exact (below_size (by repeat (first | (with_reducible first | exact HB.out | apply below_alloc | apply pw_below_drewN | apply below_drew1 | refine below_set ?_ GE290.out | refine below_set ?_ GE291.out) | exact HB.out))) : w.heap.size ≤ gb300)); have n6_ := Aside0.mk ((by rw [hg]; exact (below_size (by repeat (first | (with_reducible first | exact HB.out | apply below_alloc | apply pw_below_drewN | apply below_drew1 | refine below_set ?_ GE290.out | refine below_set ?_ GE291.out) | exact HB.out))) : w.heap.size ≤ gb300)); have n7_ := Aside0.mk ((by rw [hg]; exact Nat.ne_of_lt (blk_lt (g := gb290) (o := .cells #[.int .i64 a0_0, .int .i64 a0_1, .int .i64 a0_2] 23 (0, 0)) (by (with_reducible repeat (first | refine blk_drewN ?_ _ | refine blk_drew ?_ | refine blk_alloc ?_ _)); exact BK290.out)) : gb290 ≠ gb300)); have n8_ := Aside0.mk ((by rw [hg]; exact Nat.ne_of_gt (blk_lt (g := gb290) (o := .cells #[.int .i64 a0_0, .int .i64 a0_1, .int .i64 a0_2] 23 (0, 0)) (by (with_reducible repeat (first | refine blk_drewN ?_ _ | refine blk_drew ?_ | refine blk_alloc ?_ _)); exact BK290.out)) : gb300 ≠ gb290)); have n9_ := Aside0.mk ((by rw [hg]; exact Nat.ne_of_lt (blk_lt (g := gb291) (o := .cells #[.int .i64 a1_0, .int .i64 a1_1, .int .i64 a1_2] 37 (0, 0)) (by (with_reducible repeat (first | refine blk_drewN ?_ _ | refine blk_drew ?_ | refine blk_alloc ?_ _)); exact BK291.out)) : gb291 ≠ gb300)); have n10_ := Aside0.mk ((by rw [hg]; exact Nat.ne_of_gt (blk_lt (g := gb291) (o := .cells #[.int .i64 a1_0, .int .i64 a1_1, .int .i64 a1_2] 37 (0, 0)) (by (with_reducible repeat (first | refine blk_drewN ?_ _ | refine blk_drew ?_ | refine blk_alloc ?_ _)); exact BK291.out)) : gb300 ≠ gb291)); clear HO_12; clear BK290; clear BK291; clear HB; have HO_12 := n0_; have BK290 := n1_; have BK291 := n2_; have HB := n3_; have BK300 := n4_; have GW300 := n5_; have GE300 := n6_; have NB290_300 := n7_; have NB300_290 := n8_; have NB291_300 := n9_; have NB300_291 := n10_; clear n0_ n1_ n2_ n3_ n4_ n5_ n6_ n7_ n8_ n9_ n10_; clear hb hbox hg; have hnb48 := NB300_290.out; have hnc48 := NB290_300.out; have hnb49 := NB300_291.out; have hnc49 := NB291_300.out; have hcz50_0 : w47.cell? ⟨gb300, 0, none⟩ = some (.int .i64 0) := (blk_cell BK300.out 0).trans rfl; have hcz50_1 : w47.cell? ⟨gb300, 1, none⟩ = some (.int .i64 0) := (blk_cell BK300.out 1).trans rfl; have hcz50_2 : w47.cell? ⟨gb300, 2, none⟩ = some (.int .i64 0) := (blk_cell BK300.out 2).trans rfl; have hfz50_0 := blk_frozen BK300.out 0; have hfz50_1 := blk_frozen BK300.out 1; have hfz50_2 := blk_frozen BK300.out 2; have hcz51_0 : w47.cell? ⟨gb291, 0, none⟩ = some (.int .i64 a1_0) := (blk_cell BK291.out 0).trans rfl; have hcz51_1 : w47.cell? ⟨gb291, 1, none⟩ = some (.int .i64 a1_1) := (blk_cell BK291.out 1).trans rfl; have hcz51_2 : w47.cell? ⟨gb291, 2, none⟩ = some (.int .i64 a1_2) := (blk_cell BK291.out 2).trans rfl; have hfz51_0 := blk_frozen BK291.out 0; have hfz51_1 := blk_frozen BK291.out 1; have hfz51_2 := blk_frozen BK291.out 2) | ((with_reducible refine gate_dst (N := 18) rfl ?_); (try (refine gate_guard (by rfl) ?_; dsimp only)); refine box_event ?hg (N := 18) ?hd (cs := #[.int .i64 0, .int .i64 0, .int .i64 0]) (t := 37) ?hr ?_; (case hd => rfl); (case hg => rfl); (case hr => first | (go_simp; done) | (go_simp; rfl)); intro gb301 hg w52 hbox hb; have n0_ := Aside0.mk (Kd.R_below (Kd.R_elderB (by (with_reducible repeat (first | apply Kd.R_alloc | apply Kd.R_drewN | apply Kd.R_drew)); exact (Kd.R_mono (Kd.R_far (p := ⟨gb300, 2, none⟩) (Kd.R_far (p := ⟨gb300, 1, none⟩) (Kd.R_far (p := ⟨gb300, 0, none⟩) (Kd.R_mono HO_12.out (fun k_ hk => (⟨hk, hk.2⟩ : _ ∧ k_ ≠ gb300))) (fun _ hk => hk.2) (.int .i64 (wrap64 (-a1_0)))) (fun _ hk => hk.2) (.int .i64 (wrap64 (-a1_1)))) (fun _ hk => hk.2) (.int .i64 (wrap64 (-a1_2)))) (fun _ h_ => h_.1))) gb301 (Nat.le_of_eq hg.symm)) hb); have n1_ := Aside0.mk (blk_below (g := gb290) (o := .cells #[.int .i64 a0_0, .int .i64 a0_1, .int .i64 a0_2] 23 (0, 0)) (by (with_reducible repeat (first | refine blk_drewN ?_ _ | refine blk_drew ?_ | refine blk_alloc ?_ _)); refine blk_far ?_ NB290_300.out _; (with_reducible repeat (first | refine blk_drewN ?_ _ | refine blk_drew ?_ | refine blk_alloc ?_ _)); refine blk_far ?_ NB290_300.out _; (with_reducible repeat (first | refine blk_drewN ?_ _ | refine blk_drew ?_ | refine blk_alloc ?_ _)); refine blk_far ?_ NB290_300.out _; (with_reducible repeat (first | refine blk_drewN ?_ _ | refine blk_drew ?_ | refine blk_alloc ?_ _)); exact BK290.out) hb); have n2_ := Aside0.mk (blk_below (g := gb291) (o := .cells #[.int .i64 a1_0, .int .i64 a1_1, .int .i64 a1_2] 37 (0, 0)) (by (with_reducible repeat (first | refine blk_drewN ?_ _ | refine blk_drew ?_ | refine blk_alloc ?_ _)); refine blk_far ?_ NB291_300.out _; (with_reducible repeat (first | refine blk_drewN ?_ _ | refine blk_drew ?_ | refine blk_alloc ?_ _)); refine blk_far ?_ NB291_300.out _; (with_reducible repeat (first | refine blk_drewN ?_ _ | refine blk_drew ?_ | refine blk_alloc ?_ _)); refine blk_far ?_ NB291_300.out _; (with_reducible repeat (first | refine blk_drewN ?_ _ | refine blk_drew ?_ | refine blk_alloc ?_ _)); exact BK291.out) hb); have n3_ := Aside0.mk (blk_below (g := gb300) (o := .cells #[.int .i64 (wrap64 (-a1_0)), .int .i64 (wrap64 (-a1_1)), .int .i64 (wrap64 (-a1_2))] 37 (0, 0)) (by (with_reducible repeat (first | refine blk_drewN ?_ _ | refine blk_drew ?_ | refine blk_alloc ?_ _)); refine blk_put (cs := #[.int .i64 (wrap64 (-a1_0)), .int .i64 (wrap64 (-a1_1)), .int .i64 0]) ?_ 2 _ rfl; (with_reducible repeat (first | refine blk_drewN ?_ _ | refine blk_drew ?_ | refine blk_alloc ?_ _)); refine blk_put (cs := #[.int .i64 (wrap64 (-a1_0)), .int .i64 0, .int .i64 0]) ?_ 1 _ rfl; (with_reducible repeat (first | refine blk_drewN ?_ _ | refine blk_drew ?_ | refine blk_alloc ?_ _)); refine blk_put (cs := #[.int .i64 0, .int .i64 0, .int .i64 0]) ?_ 0 _ rfl; (with_reducible repeat (first | refine blk_drewN ?_ _ | refine blk_drew ?_ | refine blk_alloc ?_ _)); exact BK300.out) hb); have n4_ := Aside0.mk (below_step (by repeat (first | (with_reducible first | exact HB.out | apply below_alloc | apply pw_below_drewN | apply below_drew1 | refine below_set ?_ GE290.out | refine below_set ?_ GE291.out | refine below_set ?_ GE300.out) | exact HB.out)) hb); have n5_ := Aside0.mk (hbox); have n6_ := Aside0.mk ((by rw [hg]; exact (below_size (by repeat (first | (with_reducible first | exact HB.out | apply below_alloc | apply pw_below_drewN | apply below_drew1 | refine below_set ?_ GE290.out | refine below_set ?_ GE291.out | refine below_set ?_ GE300.out) | exact HB.out))) : w.heap.size ≤ gb301)); have n7_ := Aside0.mk ((by rw [hg]; exact (below_size (by repeat (first | (with_reducible first | exact HB.out | apply below_alloc | apply pw_below_drewN | apply below_drew1 | refine below_set ?_ GE290.out | refine below_set ?_ GE291.out | refine below_set ?_ GE300.out) | exact HB.out))) : w.heap.size ≤ gb301)); have n8_ := Aside0.mk ((by rw [hg]; exact Nat.ne_of_lt (blk_lt (g := gb290) (o := .cells #[.int .i64 a0_0, .int .i64 a0_1, .int .i64 a0_2] 23 (0, 0)) (by (with_reducible repeat (first | refine blk_drewN ?_ _ | refine blk_drew ?_ | refine blk_alloc ?_ _)); refine blk_far ?_ NB290_300.out _; (with_reducible repeat (first | refine blk_drewN ?_ _ | refine blk_drew ?_ | refine blk_alloc ?_ _)); refine blk_far ?_ NB290_300.out _; (with_reducible repeat (first | refine blk_drewN ?_ _ | refine blk_drew ?_ | refine blk_alloc ?_ _)); refine blk_far ?_ NB290_300.out _; (with_reducible repeat (first | refine blk_drewN ?_ _ | refine blk_drew ?_ | refine blk_alloc ?_ _)); exact BK290.out)) : gb290 ≠ gb301)); have n9_ := Aside0.mk ((by rw [hg]; exact Nat.ne_of_gt (blk_lt (g := gb290) (o := .cells #[.int .i64 a0_0, .int .i64 a0_1, .int .i64 a0_2] 23 (0, 0)) (by (with_reducible repeat (first | refine blk_drewN ?_ _ | refine blk_drew ?_ | refine blk_alloc ?_ _)); refine blk_far ?_ NB290_300.out _; (with_reducible repeat (first | refine blk_drewN ?_ _ | refine blk_drew ?_ | refine blk_alloc ?_ _)); refine blk_far ?_ NB290_300.out _; (with_reducible repeat (first | refine blk_drewN ?_ _ | refine blk_drew ?_ | refine blk_alloc ?_ _)); refine blk_far ?_ NB290_300.out _; (with_reducible repeat (first | refine blk_drewN ?_ _ | refine blk_drew ?_ | refine blk_alloc ?_ _)); exact BK290.out)) : gb301 ≠ gb290)); have n10_ := Aside0.mk ((by rw [hg]; exact Nat.ne_of_lt (blk_lt (g := gb291) (o := .cells #[.int .i64 a1_0, .int .i64 a1_1, .int .i64 a1_2] 37 (0, 0)) (by (with_reducible repeat (first | refine blk_drewN ?_ _ | refine blk_drew ?_ | refine blk_alloc ?_ _)); refine blk_far ?_ NB291_300.out _; (with_reducible repeat (first | refine blk_drewN ?_ _ | refine blk_drew ?_ | refine blk_alloc ?_ _)); refine blk_far ?_ NB291_300.out _; (with_reducible repeat (first | refine blk_drewN ?_ _ | refine blk_drew ?_ | refine blk_alloc ?_ _)); refine blk_far ?_ NB291_300.out _; (with_reducible repeat (first | refine blk_drewN ?_ _ | refine blk_drew ?_ | refine blk_alloc ?_ _)); exact BK291.out)) : gb291 ≠ gb301)); have n11_ := Aside0.mk ((by rw [hg]; exact Nat.ne_of_gt (blk_lt (g := gb291) (o := .cells #[.int .i64 a1_0, .int .i64 a1_1, .int .i64 a1_2] 37 (0, 0)) (by (with_reducible repeat (first | refine blk_drewN ?_ _ | refine blk_drew ?_ | refine blk_alloc ?_ _)); refine blk_far ?_ NB291_300.out _; (with_reducible repeat (first | refine blk_drewN ?_ _ | refine blk_drew ?_ | refine blk_alloc ?_ _)); refine blk_far ?_ NB291_300.out _; (with_reducible repeat (first | refine blk_drewN ?_ _ | refine blk_drew ?_ | refine blk_alloc ?_ _)); refine blk_far ?_ NB291_300.out _; (with_reducible repeat (first | refine blk_drewN ?_ _ | refine blk_drew ?_ | refine blk_alloc ?_ _)); exact BK291.out)) : gb301 ≠ gb291)); have n12_ := Aside0.mk ((by rw [hg]; exact Nat.ne_of_lt (blk_lt (g := gb300) (o := .cells #[.int .i64 (wrap64 (-a1_0)), .int .i64 (wrap64 (-a1_1)), .int .i64 (wrap64 (-a1_2))] 37 (0, 0)) (by (with_reducible repeat (first | refine blk_drewN ?_ _ | refine blk_drew ?_ | refine blk_alloc ?_ _)); refine blk_put (cs := #[.int .i64 (wrap64 (-a1_0)), .int .i64 (wrap64 (-a1_1)), .int .i64 0]) ?_ 2 _ rfl; (with_reducible repeat (first | refine blk_drewN ?_ _ | refine blk_drew ?_ | refine blk_alloc ?_ _)); refine blk_put (cs := #[.int .i64 (wrap64 (-a1_0)), .int .i64 0, .int .i64 0]) ?_ 1 _ rfl; (with_reducible repeat (first | refine blk_drewN ?_ _ | refine blk_drew ?_ | refine blk_alloc ?_ _)); refine blk_put (cs := #[.int .i64 0, .int .i64 0, .int .i64 0]) ?_ 0 _ rfl; (with_reducible repeat (first | refine blk_drewN ?_ _ | refine blk_drew ?_ | refine blk_alloc ?_ _)); exact BK300.out)) : gb300 ≠ gb301)); have n13_ := Aside0.mk ((by rw [hg]; exact Nat.ne_of_gt (blk_lt (g := gb300) (o := .cells #[.int .i64 (wrap64 (-a1_0)), .int .i64 (wrap64 (-a1_1)), .int .i64 (wrap64 (-a1_2))] 37 (0, 0)) (by (with_reducible repeat (first | refine blk_drewN ?_ _ | refine blk_drew ?_ | refine blk_alloc ?_ _)); refine blk_put (cs := #[.int .i64 (wrap64 (-a1_0)), .int .i64 (wrap64 (-a1_1)), .int .i64 0]) ?_ 2 _ rfl; (with_reducible repeat (first | refine blk_drewN ?_ _ | refine blk_drew ?_ | refine blk_alloc ?_ _)); refine blk_put (cs := #[.int .i64 (wrap64 (-a1_0)), .int .i64 0, .int .i64 0]) ?_ 1 _ rfl; (with_reducible repeat (first | refine blk_drewN ?_ _ | refine blk_drew ?_ | refine blk_alloc ?_ _)); refine blk_put (cs := #[.int .i64 0, .int .i64 0, .int .i64 0]) ?_ 0 _ rfl; (with_reducible repeat (first | refine blk_drewN ?_ _ | refine blk_drew ?_ | refine blk_alloc ?_ _)); exact BK300.out)) : gb301 ≠ gb300)); clear HO_12; clear BK290; clear BK291; clear BK300; clear HB; have HO_12 := n0_; have BK290 := n1_; have BK291 := n2_; have BK300 := n3_; have HB := n4_; have BK301 := n5_; have GW301 := n6_; have GE301 := n7_; have NB290_301 := n8_; have NB301_290 := n9_; have NB291_301 := n10_; have NB301_291 := n11_; have NB300_301 := n12_; have NB301_300 := n13_; clear n0_ n1_ n2_ n3_ n4_ n5_ n6_ n7_ n8_ n9_ n10_ n11_ n12_ n13_; clear hb hbox hg; have hnb53 := NB301_290.out; have hnc53 := NB290_301.out; have hnb54 := NB301_291.out; have hnc54 := NB291_301.out; have hnb55 := NB301_300.out; have hnc55 := NB300_301.out; have hcz56_0 : w52.cell? ⟨gb301, 0, none⟩ = some (.int .i64 0) := (blk_cell BK301.out 0).trans rfl; have hcz56_1 : w52.cell? ⟨gb301, 1, none⟩ = some (.int .i64 0) := (blk_cell BK301.out 1).trans rfl; have hcz56_2 : w52.cell? ⟨gb301, 2, none⟩ = some (.int .i64 0) := (blk_cell BK301.out 2).trans rfl; have hfz56_0 := blk_frozen BK301.out 0; have hfz56_1 := blk_frozen BK301.out 1; have hfz56_2 := blk_frozen BK301.out 2; have hcz57_0 : w52.cell? ⟨gb290, 0, none⟩ = some (.int .i64 a0_0) := (blk_cell BK290.out 0).trans rfl; have hcz57_1 : w52.cell? ⟨gb290, 1, none⟩ = some (.int .i64 a0_1) := (blk_cell BK290.out 1).trans rfl; have hcz57_2 : w52.cell? ⟨gb290, 2, none⟩ = some (.int .i64 a0_2) := (blk_cell BK290.out 2).trans rfl; have hfz57_0 := blk_frozen BK290.out 0; have hfz57_1 := blk_frozen BK290.out 1; have hfz57_2 := blk_frozen BK290.out 2) | (go_at_call 29; (with_reducible refine (braking_StopMotion.calls k2 a0_0 a0_1 a0_2 (wrap64 (a1_0 + (wrap64 (a3)))) a1_1 a1_2 (Int.tmod (wrap64 (a2)) 3) t302 _ A42.out).mono ?_); rintro e w58 ⟨v303, rfl, ho0, hb⟩; have n0_ := Aside0.mk (Kd.R_elder' (by (with_reducible repeat (first | apply Kd.R_alloc | apply Kd.R_drewN | apply Kd.R_drew)); exact (Kd.R_mono (Kd.R_far (p := ⟨gb301, 2, none⟩) (Kd.R_far (p := ⟨gb301, 1, none⟩) (Kd.R_far (p := ⟨gb301, 0, none⟩) (Kd.R_mono HO_12.out (fun k_ hk => (⟨hk, hk.2⟩ : _ ∧ k_ ≠ gb301))) (fun _ hk => hk.2) (.int .i64 (wrap64 (a1_0 + (wrap64 (a3)))))) (fun _ hk => hk.2) (.int .i64 a1_1)) (fun _ hk => hk.2) (.int .i64 a1_2)) (fun _ h_ => h_.1))) (Kd.R_base ho0) hb); have n1_ := Aside0.mk (Kd.R_lower (Kd.R_newB (Kd.R_newB (Kd.R_newB (Kd.R_new' ho0 (Kd.R_lt (by (with_reducible repeat (first | apply Kd.R_alloc | apply Kd.R_drewN | apply Kd.R_drew)); exact (Kd.R_mono (Kd.R_far (p := ⟨gb301, 2, none⟩) (Kd.R_far (p := ⟨gb301, 1, none⟩) (Kd.R_far (p := ⟨gb301, 0, none⟩) (Kd.R_mono HO_12.out (fun k_ hk => (⟨hk, hk.2⟩ : _ ∧ k_ ≠ gb301))) (fun _ hk => hk.2) (.int .i64 (wrap64 (a1_0 + (wrap64 (a3)))))) (fun _ hk => hk.2) (.int .i64 a1_1)) (fun _ hk => hk.2) (.int .i64 a1_2)) (fun _ h_ => h_.1))))) (g := gb291) (o := .cells #[.int .i64 a1_0, .int .i64 a1_1, .int .i64 a1_2] 37 (0, 0)) (by (with_reducible repeat (first | refine blk_drewN ?_ _ | refine blk_drew ?_ | refine blk_alloc ?_ _)); refine blk_far ?_ NB291_301.out _; (with_reducible repeat (first | refine blk_drewN ?_ _ | refine blk_drew ?_ | refine blk_alloc ?_ _)); refine blk_far ?_ NB291_301.out _; (with_reducible repeat (first | refine blk_drewN ?_ _ | refine blk_drew ?_ | refine blk_alloc ?_ _)); refine blk_far ?_ NB291_301.out _; (with_reducible repeat (first | refine blk_drewN ?_ _ | refine blk_drew ?_ | refine blk_alloc ?_ _)); exact BK291.out)) (g := gb300) (o := .cells #[.int .i64 (wrap64 (-a1_0)), .int .i64 (wrap64 (-a1_1)), .int .i64 (wrap64 (-a1_2))] 37 (0, 0)) (by (with_reducible repeat (first | refine blk_drewN ?_ _ | refine blk_drew ?_ | refine blk_alloc ?_ _)); refine blk_far ?_ NB300_301.out _; (with_reducible repeat (first | refine blk_drewN ?_ _ | refine blk_drew ?_ | refine blk_alloc ?_ _)); refine blk_far ?_ NB300_301.out _; (with_reducible repeat (first | refine blk_drewN ?_ _ | refine blk_drew ?_ | refine blk_alloc ?_ _)); refine blk_far ?_ NB300_301.out _; (with_reducible repeat (first | refine blk_drewN ?_ _ | refine blk_drew ?_ | refine blk_alloc ?_ _)); exact BK300.out)) (g := gb301) (o := .cells #[.int .i64 (wrap64 (a1_0 + (wrap64 (a3)))), .int .i64 a1_1, .int .i64 a1_2] 37 (0, 0)) (by (with_reducible repeat (first | refine blk_drewN ?_ _ | refine blk_drew ?_ | refine blk_alloc ?_ _)); refine blk_put (cs := #[.int .i64 (wrap64 (a1_0 + (wrap64 (a3)))), .int .i64 a1_1, .int .i64 0]) ?_ 2 _ rfl; (with_reducible repeat (first | refine blk_drewN ?_ _ | refine blk_drew ?_ | refine blk_alloc ?_ _)); refine blk_put (cs := #[.int .i64 (wrap64 (a1_0 + (wrap64 (a3)))), .int .i64 0, .int .i64 0]) ?_ 1 _ rfl; (with_reducible repeat (first | refine blk_drewN ?_ _ | refine blk_drew ?_ | refine blk_alloc ?_ _)); refine blk_put (cs := #[.int .i64 0, .int .i64 0, .int .i64 0]) ?_ 0 _ rfl; (with_reducible repeat (first | refine blk_drewN ?_ _ | refine blk_drew ?_ | refine blk_alloc ?_ _)); exact BK301.out)) (below_size (by repeat (first | (with_reducible first | exact HB.out | apply below_alloc | apply pw_below_drewN | apply below_drew1 | refine below_set ?_ GE290.out | refine below_set ?_ GE291.out | refine below_set ?_ GE300.out | refine below_set ?_ GE301.out) | exact HB.out)))); have n2_ := Aside0.mk (blk_below (g := gb290) (o := .cells #[.int .i64 a0_0, .int .i64 a0_1, .int .i64 a0_2] 23 (0, 0)) (by (with_reducible repeat (first | refine blk_drewN ?_ _ | refine blk_drew ?_ | refine blk_alloc ?_ _)); refine blk_far ?_ NB290_301.out _; (with_reducible repeat (first | refine blk_drewN ?_ _ | refine blk_drew ?_ | refine blk_alloc ?_ _)); refine blk_far ?_ NB290_301.out _; (with_reducible repeat (first | refine blk_drewN ?_ _ | refine blk_drew ?_ | refine blk_alloc ?_ _)); refine blk_far ?_ NB290_301.out _; (with_reducible repeat (first | refine blk_drewN ?_ _ | refine blk_drew ?_ | refine blk_alloc ?_ _)); exact BK290.out) hb); have n3_ := Aside0.mk (blk_below (g := gb291) (o := .cells #[.int .i64 a1_0, .int .i64 a1_1, .int .i64 a1_2] 37 (0, 0)) (by (with_reducible repeat (first | refine blk_drewN ?_ _ | refine blk_drew ?_ | refine blk_alloc ?_ _)); refine blk_far ?_ NB291_301.out _; (with_reducible repeat (first | refine blk_drewN ?_ _ | refine blk_drew ?_ | refine blk_alloc ?_ _)); refine blk_far ?_ NB291_301.out _; (with_reducible repeat (first | refine blk_drewN ?_ _ | refine blk_drew ?_ | refine blk_alloc ?_ _)); refine blk_far ?_ NB291_301.out _; (with_reducible repeat (first | refine blk_drewN ?_ _ | refine blk_drew ?_ | refine blk_alloc ?_ _)); exact BK291.out) hb); have n4_ := Aside0.mk (blk_below (g := gb300) (o := .cells #[.int .i64 (wrap64 (-a1_0)), .int .i64 (wrap64 (-a1_1)), .int .i64 (wrap64 (-a1_2))] 37 (0, 0)) (by (with_reducible repeat (first | refine blk_drewN ?_ _ | refine blk_drew ?_ | refine blk_alloc ?_ _)); refine blk_far ?_ NB300_301.out _; (with_reducible repeat (first | refine blk_drewN ?_ _ | refine blk_drew ?_ | refine blk_alloc ?_ _)); refine blk_far ?_ NB300_301.out _; (with_reducible repeat (first | refine blk_drewN ?_ _ | refine blk_drew ?_ | refine blk_alloc ?_ _)); refine blk_far ?_ NB300_301.out _; (with_reducible repeat (first | refine blk_drewN ?_ _ | refine blk_drew ?_ | refine blk_alloc ?_ _)); exact BK300.out) hb); have n5_ := Aside0.mk (blk_below (g := gb301) (o := .cells #[.int .i64 (wrap64 (a1_0 + (wrap64 (a3)))), .int .i64 a1_1, .int .i64 a1_2] 37 (0, 0)) (by (with_reducible repeat (first | refine blk_drewN ?_ _ | refine blk_drew ?_ | refine blk_alloc ?_ _)); refine blk_put (cs := #[.int .i64 (wrap64 (a1_0 + (wrap64 (a3)))), .int .i64 a1_1, .int .i64 0]) ?_ 2 _ rfl; (with_reducible repeat (first | refine blk_drewN ?_ _ | refine blk_drew ?_ | refine blk_alloc ?_ _)); refine blk_put (cs := #[.int .i64 (wrap64 (a1_0 + (wrap64 (a3)))), .int .i64 0, .int .i64 0]) ?_ 1 _ rfl; (with_reducible repeat (first | refine blk_drewN ?_ _ | refine blk_drew ?_ | refine blk_alloc ?_ _)); refine blk_put (cs := #[.int .i64 0, .int .i64 0, .int .i64 0]) ?_ 0 _ rfl; (with_reducible repeat (first | refine blk_drewN ?_ _ | refine blk_drew ?_ | refine blk_alloc ?_ _)); exact BK301.out) hb); have n6_ := Aside0.mk (below_step (by repeat (first | (with_reducible first | exact HB.out | apply below_alloc | apply pw_below_drewN | apply below_drew1 | refine below_set ?_ GE290.out | refine below_set ?_ GE291.out | refine below_set ?_ GE300.out | refine below_set ?_ GE301.out) | exact HB.out)) hb); clear HO_12; clear BK290; clear BK291; clear BK300; clear BK301; clear HB; have HO_12 := n0_; have HO304 := n1_; have BK290 := n2_; have BK291 := n3_; have BK300 := n4_; have BK301 := n5_; have HB := n6_; clear n0_ n1_ n2_ n3_ n4_ n5_ n6_; (try clear hb); (try clear hb2); (try clear hk); (try clear hi); (try clear ho0))))
              (try simp only [Act.put, List.setIfInBounds_toArray, List.set_cons_zero, List.set_cons_succ])
              go_cut [136] (fun v136 wc => ∃ (kq : Nat) (x136_42 : Bool), v136 = .bool x136_42 ∧ Aside0 (ambidexterlaw28_BrakingStoppingDistance.j2 kq a3 true (Int.tmod (wrap64 (a2)) 3) t294 t297 t302 x136_42 a0_0 a0_1 a0_2 (wrap64 (-a1_0)) (wrap64 (-a1_1)) (wrap64 (-a1_2)) = some r) ∧ Aside0 (kq ≤ k2) ∧ Aside0 (Kd.R k37 37 wc w.heap.size (fun k_ => some k_ ≠ (v303 : Value).ownBlock ∧ k_ ≠ gb291 ∧ k_ ≠ gb300 ∧ k_ ≠ gb301) (.slice Ao44 t294.length co44) t294) ∧ Aside0 (Kd.R k37 37 wc w.heap.size (fun k_ => some k_ ≠ ((.slice Ao44 t294.length co44) : Value).ownBlock ∧ k_ ≠ gb291 ∧ k_ ≠ gb300 ∧ k_ ≠ gb301) v303 t302) ∧ Aside0 (wc.heap[gb290]? = some (.cells #[.int .i64 a0_0, .int .i64 a0_1, .int .i64 a0_2] 23 (0, 0))) ∧ Aside0 (wc.heap[gb291]? = some (.cells #[.int .i64 a1_0, .int .i64 a1_1, .int .i64 a1_2] 37 (0, 0))) ∧ Aside0 (wc.heap[gb300]? = some (.cells #[.int .i64 (wrap64 (-a1_0)), .int .i64 (wrap64 (-a1_1)), .int .i64 (wrap64 (-a1_2))] 37 (0, 0))) ∧ Aside0 (wc.heap[gb301]? = some (.cells #[.int .i64 (wrap64 (a1_0 + (wrap64 (a3)))), .int .i64 a1_1, .int .i64 a1_2] 37 (0, 0))) ∧ Aside0 (Below w.heap.size w wc))
              case first =>
                have H := HC43.out
                clear HC43
                by_cases c59 : x14_2 = true
                · subst c59
                  have H1 : (if t297 < 0 then (ambidexterlaw28_BrakingStoppingDistance.j2 k2 a3 true (Int.tmod (wrap64 (a2)) 3) t294 t297 t302 true a0_0 a0_1 a0_2 (wrap64 (-a1_0)) (wrap64 (-a1_1)) (wrap64 (-a1_2))) else ((braking_Duration.f k2 a0_0 a0_1 a0_2 (wrap64 (-a1_0)) (wrap64 (-a1_1)) (wrap64 (-a1_2)) (Int.tmod (wrap64 (a2)) 3)).bind fun t305 => (if t305 = (t294.length : Int) then (if (t302.length : Int) = (t294.length : Int) then ((braking_Distance.f k2 a0_0 a0_1 a0_2 (wrap64 (a1_0 + (wrap64 (a3)))) a1_1 a1_2 (Int.tmod (wrap64 (a2)) 3)).bind fun t306 => (ambidexterlaw28_BrakingStoppingDistance.j2 k2 a3 true (Int.tmod (wrap64 (a2)) 3) t294 t297 t302 (t306 != t297) a0_0 a0_1 a0_2 (wrap64 (-a1_0)) (wrap64 (-a1_1)) (wrap64 (-a1_2)))) else (ambidexterlaw28_BrakingStoppingDistance.j2 k2 a3 true (Int.tmod (wrap64 (a2)) 3) t294 t297 t302 true a0_0 a0_1 a0_2 (wrap64 (-a1_0)) (wrap64 (-a1_1)) (wrap64 (-a1_2)))) else (ambidexterlaw28_BrakingStoppingDistance.j2 k2 a3 true (Int.tmod (wrap64 (a2)) 3) t294 t297 t302 true a0_0 a0_1 a0_2 (wrap64 (-a1_0)) (wrap64 (-a1_1)) (wrap64 (-a1_2)))))) = some r := by rw [if_pos rfl] at H; exact H
                  clear H
                  have H := H1
                  clear H1
                  by_cases c60 : t297 < 0
                  · rw [if_pos c60] at H
                    have c60b0 : decide (t297 < 0) = true := decide_eq_true c60
                    clear c60
                    (first | rw [c60b0] | (simp only [i64_w, i32_w]; rw [c60b0]) | skip)
                    have H' := Aside0.mk H
                    clear H
                    go_wp2
                    repeat (go_quiet (fail); try go_wp2)
                    go_meet
                    case rel => exact ⟨_, (true), (by first | rfl | (simp; done) | (simp [*]; done)), H', ⟨by have := HJ6.out; have := HK2.out; first | omega | exact Nat.le_refl _⟩, ⟨by (with_reducible repeat (first | apply Kd.R_alloc | apply Kd.R_drewN | apply Kd.R_drew)); exact Kd.R_mono HO_12.out (fun _ hk => ⟨hk.2, ⟨hk.1.1.1, ⟨hk.1.1.2, hk.1.2⟩⟩⟩)⟩, ⟨by (with_reducible repeat (first | apply Kd.R_alloc | apply Kd.R_drewN | apply Kd.R_drew)); exact Kd.R_mono HO304.out (fun _ hk => ⟨hk.1.1.1.2, ⟨hk.1.1.2, ⟨hk.1.2, hk.2⟩⟩⟩)⟩, ⟨by (with_reducible repeat (first | refine blk_drewN ?_ _ | refine blk_drew ?_ | refine blk_alloc ?_ _)); exact BK290.out⟩, ⟨by (with_reducible repeat (first | refine blk_drewN ?_ _ | refine blk_drew ?_ | refine blk_alloc ?_ _)); exact BK291.out⟩, ⟨by (with_reducible repeat (first | refine blk_drewN ?_ _ | refine blk_drew ?_ | refine blk_alloc ?_ _)); exact BK300.out⟩, ⟨by (with_reducible repeat (first | refine blk_drewN ?_ _ | refine blk_drew ?_ | refine blk_alloc ?_ _)); exact BK301.out⟩, ⟨by repeat (first | (with_reducible first | exact HB.out | apply below_alloc | apply pw_below_drewN | apply below_drew1 | refine below_set ?_ GE290.out | refine below_set ?_ GE291.out | refine below_set ?_ GE300.out | refine below_set ?_ GE301.out) | exact HB.out)⟩⟩
                  · rw [if_neg c60] at H
                    have c60b0 : decide (t297 < 0) = false := decide_eq_false c60
                    clear c60
                    (first | rw [c60b0] | (simp only [i64_w, i32_w]; rw [c60b0]) | skip)
                    replace H := Option.bind_eq_some_iff.mp H
                    obtain ⟨t305, A610, H⟩ := H
                    replace H : (if t305 = (t294.length : Int) then (if (t302.length : Int) = (t294.length : Int) then ((braking_Distance.f k2 a0_0 a0_1 a0_2 (wrap64 (a1_0 + (wrap64 (a3)))) a1_1 a1_2 (Int.tmod (wrap64 (a2)) 3)).bind fun t306 => (ambidexterlaw28_BrakingStoppingDistance.j2 k2 a3 true (Int.tmod (wrap64 (a2)) 3) t294 t297 t302 (t306 != t297) a0_0 a0_1 a0_2 (wrap64 (-a1_0)) (wrap64 (-a1_1)) (wrap64 (-a1_2)))) else (ambidexterlaw28_BrakingStoppingDistance.j2 k2 a3 true (Int.tmod (wrap64 (a2)) 3) t294 t297 t302 true a0_0 a0_1 a0_2 (wrap64 (-a1_0)) (wrap64 (-a1_1)) (wrap64 (-a1_2)))) else (ambidexterlaw28_BrakingStoppingDistance.j2 k2 a3 true (Int.tmod (wrap64 (a2)) 3) t294 t297 t302 true a0_0 a0_1 a0_2 (wrap64 (-a1_0)) (wrap64 (-a1_1)) (wrap64 (-a1_2)))) = some r := H
                    have A61 := Aside0.mk A610
                    clear A610
                    by_cases c62 : t305 = (t294.length : Int)
                    · rw [if_pos c62] at H
                      have c62b0 : (t305 == (t294.length : Int)) = true := beq_iff_eq.mpr c62
                      have c62b1 : (t305 != (t294.length : Int)) = false := bne_eq_false_iff_eq.mpr c62
                      clear c62
                      by_cases c63 : (t302.length : Int) = (t294.length : Int)
                      · rw [if_pos c63] at H
                        have c63b0 : ((t302.length : Int) == (t294.length : Int)) = true := beq_iff_eq.mpr c63
                        have c63b1 : ((t302.length : Int) != (t294.length : Int)) = false := bne_eq_false_iff_eq.mpr c63
                        have c63b2 : (t302.length == t294.length) = true := by first | simpa using c63 | (simp at c63 ⊢; omega)
                        clear c63
                        replace H := Option.bind_eq_some_iff.mp H
                        obtain ⟨t306, A640, H⟩ := H
                        replace H : (ambidexterlaw28_BrakingStoppingDistance.j2 k2 a3 true (Int.tmod (wrap64 (a2)) 3) t294 t297 t302 (t306 != t297) a0_0 a0_1 a0_2 (wrap64 (-a1_0)) (wrap64 (-a1_1)) (wrap64 (-a1_2))) = some r := H
                        have A64 := Aside0.mk A640
                        clear A640
                        have H' := Aside0.mk H
                        clear H
                        have hnb65 := NB290_291.out
                        have hnc65 := NB291_290.out
                        have hnb66 := NB290_300.out
                        have hnc66 := NB300_290.out
                        have hnb67 := NB290_301.out
                        have hnc67 := NB301_290.out
                        have hcz68_0 : w58.cell? ⟨gb290, 0, none⟩ = some (.int .i64 a0_0) := (blk_cell BK290.out 0).trans rfl
                        have hcz68_1 : w58.cell? ⟨gb290, 1, none⟩ = some (.int .i64 a0_1) := (blk_cell BK290.out 1).trans rfl
                        have hcz68_2 : w58.cell? ⟨gb290, 2, none⟩ = some (.int .i64 a0_2) := (blk_cell BK290.out 2).trans rfl
                        have hfz68_0 := blk_frozen BK290.out 0
                        have hfz68_1 := blk_frozen BK290.out 1
                        have hfz68_2 := blk_frozen BK290.out 2
                        have hnb69 := NB300_291.out
                        have hnc69 := NB291_300.out
                        have hnb70 := NB300_301.out
                        have hnc70 := NB301_300.out
                        have hcz71_0 : w58.cell? ⟨gb300, 0, none⟩ = some (.int .i64 (wrap64 (-a1_0))) := (blk_cell BK300.out 0).trans rfl
                        have hcz71_1 : w58.cell? ⟨gb300, 1, none⟩ = some (.int .i64 (wrap64 (-a1_1))) := (blk_cell BK300.out 1).trans rfl
                        have hcz71_2 : w58.cell? ⟨gb300, 2, none⟩ = some (.int .i64 (wrap64 (-a1_2))) := (blk_cell BK300.out 2).trans rfl
                        have hfz71_0 := blk_frozen BK300.out 0
                        have hfz71_1 := blk_frozen BK300.out 1
                        have hfz71_2 := blk_frozen BK300.out 2
                        go_wp2_with (first | (go_at_call 30; (with_reducible refine (braking_Duration.calls k2 a0_0 a0_1 a0_2 (wrap64 (-a1_0)) (wrap64 (-a1_1)) (wrap64 (-a1_2)) (Int.tmod (wrap64 (a2)) 3) t305 _ A61.out).mono ?_); rintro e w72 ⟨rfl, hb⟩; have n0_ := Aside0.mk (Kd.R_below (by (with_reducible repeat (first | apply Kd.R_alloc | apply Kd.R_drewN | apply Kd.R_drew)); exact HO_12.out) hb); have n1_ := Aside0.mk (Kd.R_below (by (with_reducible repeat (first | apply Kd.R_alloc | apply Kd.R_drewN | apply Kd.R_drew)); exact HO304.out) hb); have n2_ := Aside0.mk (blk_below (g := gb290) (o := .cells #[.int .i64 a0_0, .int .i64 a0_1, .int .i64 a0_2] 23 (0, 0)) (by (with_reducible repeat (first | refine blk_drewN ?_ _ | refine blk_drew ?_ | refine blk_alloc ?_ _)); exact BK290.out) hb); have n3_ := Aside0.mk (blk_below (g := gb291) (o := .cells #[.int .i64 a1_0, .int .i64 a1_1, .int .i64 a1_2] 37 (0, 0)) (by (with_reducible repeat (first | refine blk_drewN ?_ _ | refine blk_drew ?_ | refine blk_alloc ?_ _)); exact BK291.out) hb); have n4_ := Aside0.mk (blk_below (g := gb300) (o := .cells #[.int .i64 (wrap64 (-a1_0)), .int .i64 (wrap64 (-a1_1)), .int .i64 (wrap64 (-a1_2))] 37 (0, 0)) (by (with_reducible repeat (first | refine blk_drewN ?_ _ | refine blk_drew ?_ | refine blk_alloc ?_ _)); exact BK300.out) hb); have n5_ := Aside0.mk (blk_below (g := gb301) (o := .cells #[.int .i64 (wrap64 (a1_0 + (wrap64 (a3)))), .int .i64 a1_1, .int .i64 a1_2] 37 (0, 0)) (by (with_reducible repeat (first | refine blk_drewN ?_ _ | refine blk_drew ?_ | refine blk_alloc ?_ _)); exact BK301.out) hb); have n6_ := Aside0.mk (below_step (by repeat (first | (with_reducible first | exact HB.out | apply below_alloc | apply pw_below_drewN | apply below_drew1 | refine below_set ?_ GE290.out | refine below_set ?_ GE291.out | refine below_set ?_ GE300.out | refine below_set ?_ GE301.out) | exact HB.out)) hb); clear HO_12; clear HO304; clear BK290; clear BK291; clear BK300; clear BK301; clear HB; have HO_12 := n0_; have HO304 := n1_; have BK290 := n2_; have BK291 := n3_; have BK300 := n4_; have BK301 := n5_; have HB := n6_; clear n0_ n1_ n2_ n3_ n4_ n5_ n6_; (try clear hb); (try clear hb2); (try clear hk); (try clear hi); obtain ⟨Ao73, co73, eo73⟩ := Kd.R_slice HO304.out; subst eo73; have hcz74_0 : w72.cell? ⟨gb290, 0, none⟩ = some (.int .i64 a0_0) := (blk_cell BK290.out 0).trans rfl; have hcz74_1 : w72.cell? ⟨gb290, 1, none⟩ = some (.int .i64 a0_1) := (blk_cell BK290.out 1).trans rfl; have hcz74_2 : w72.cell? ⟨gb290, 2, none⟩ = some (.int .i64 a0_2) := (blk_cell BK290.out 2).trans rfl; have hfz74_0 := blk_frozen BK290.out 0; have hfz74_1 := blk_frozen BK290.out 1; have hfz74_2 := blk_frozen BK290.out 2; have hnb75 := NB301_291.out; have hnc75 := NB291_301.out; have hcz76_0 : w72.cell? ⟨gb301, 0, none⟩ = some (.int .i64 (wrap64 (a1_0 + (wrap64 (a3))))) := (blk_cell BK301.out 0).trans rfl; have hcz76_1 : w72.cell? ⟨gb301, 1, none⟩ = some (.int .i64 a1_1) := (blk_cell BK301.out 1).trans rfl; have hcz76_2 : w72.cell? ⟨gb301, 2, none⟩ = some (.int .i64 a1_2) := (blk_cell BK301.out 2).trans rfl; have hfz76_0 := blk_frozen BK301.out 0; have hfz76_1 := blk_frozen BK301.out 1; have hfz76_2 := blk_frozen BK301.out 2) | (go_at_call 31; (with_reducible refine (braking_Distance.calls k2 a0_0 a0_1 a0_2 (wrap64 (a1_0 + (wrap64 (a3)))) a1_1 a1_2 (Int.tmod (wrap64 (a2)) 3) t306 _ A64.out).mono ?_); rintro e w77 ⟨rfl, hb⟩; have n0_ := Aside0.mk (Kd.R_below (by (with_reducible repeat (first | apply Kd.R_alloc | apply Kd.R_drewN | apply Kd.R_drew)); exact HO_12.out) hb); have n1_ := Aside0.mk (Kd.R_below (by (with_reducible repeat (first | apply Kd.R_alloc | apply Kd.R_drewN | apply Kd.R_drew)); exact HO304.out) hb); have n2_ := Aside0.mk (blk_below (g := gb290) (o := .cells #[.int .i64 a0_0, .int .i64 a0_1, .int .i64 a0_2] 23 (0, 0)) (by (with_reducible repeat (first | refine blk_drewN ?_ _ | refine blk_drew ?_ | refine blk_alloc ?_ _)); exact BK290.out) hb); have n3_ := Aside0.mk (blk_below (g := gb291) (o := .cells #[.int .i64 a1_0, .int .i64 a1_1, .int .i64 a1_2] 37 (0, 0)) (by (with_reducible repeat (first | refine blk_drewN ?_ _ | refine blk_drew ?_ | refine blk_alloc ?_ _)); exact BK291.out) hb); have n4_ := Aside0.mk (blk_below (g := gb300) (o := .cells #[.int .i64 (wrap64 (-a1_0)), .int .i64 (wrap64 (-a1_1)), .int .i64 (wrap64 (-a1_2))] 37 (0, 0)) (by (with_reducible repeat (first | refine blk_drewN ?_ _ | refine blk_drew ?_ | refine blk_alloc ?_ _)); exact BK300.out) hb); have n5_ := Aside0.mk (blk_below (g := gb301) (o := .cells #[.int .i64 (wrap64 (a1_0 + (wrap64 (a3)))), .int .i64 a1_1, .int .i64 a1_2] 37 (0, 0)) (by (with_reducible repeat (first | refine blk_drewN ?_ _ | refine blk_drew ?_ | refine blk_alloc ?_ _)); exact BK301.out) hb); have n6_ := Aside0.mk (below_step (by repeat (first | (with_reducible first | exact HB.out | apply below_alloc | apply pw_below_drewN | apply below_drew1 | refine below_set ?_ GE290.out | refine below_set ?_ GE291.out | refine below_set ?_ GE300.out | refine below_set ?_ GE301.out) | exact HB.out)) hb); clear HO_12; clear HO304; clear BK290; clear BK291; clear BK300; clear BK301; clear HB; have HO_12 := n0_; have HO304 := n1_; have BK290 := n2_; have BK291 := n3_; have BK300 := n4_; have BK301 := n5_; have HB := n6_; clear n0_ n1_ n2_ n3_ n4_ n5_ n6_; (try clear hb); (try clear hb2); (try clear hk); (try clear hi)))
                        repeat (go_quiet (first | (go_at_call 30; (with_reducible refine (braking_Duration.calls k2 a0_0 a0_1 a0_2 (wrap64 (-a1_0)) (wrap64 (-a1_1)) (wrap64 (-a1_2)) (Int.tmod (wrap64 (a2)) 3) t305 _ A61.out).mono ?_); rintro e w72 ⟨rfl, hb⟩; have n0_ := Aside0.mk (Kd.R_below (by (with_reducible repeat (first | apply Kd.R_alloc | apply Kd.R_drewN | apply Kd.R_drew)); exact HO_12.out) hb); have n1_ := Aside0.mk (Kd.R_below (by (with_reducible repeat (first | apply Kd.R_alloc | apply Kd.R_drewN | apply Kd.R_drew)); exact HO304.out) hb); have n2_ := Aside0.mk (blk_below (g := gb290) (o := .cells #[.int .i64 a0_0, .int .i64 a0_1, .int .i64 a0_2] 23 (0, 0)) (by (with_reducible repeat (first | refine blk_drewN ?_ _ | refine blk_drew ?_ | refine blk_alloc ?_ _)); exact BK290.out) hb); have n3_ := Aside0.mk (blk_below (g := gb291) (o := .cells #[.int .i64 a1_0, .int .i64 a1_1, .int .i64 a1_2] 37 (0, 0)) (by (with_reducible repeat (first | refine blk_drewN ?_ _ | refine blk_drew ?_ | refine blk_alloc ?_ _)); exact BK291.out) hb); have n4_ := Aside0.mk (blk_below (g := gb300) (o := .cells #[.int .i64 (wrap64 (-a1_0)), .int .i64 (wrap64 (-a1_1)), .int .i64 (wrap64 (-a1_2))] 37 (0, 0)) (by (with_reducible repeat (first | refine blk_drewN ?_ _ | refine blk_drew ?_ | refine blk_alloc ?_ _)); exact BK300.out) hb); have n5_ := Aside0.mk (blk_below (g := gb301) (o := .cells #[.int .i64 (wrap64 (a1_0 + (wrap64 (a3)))), .int .i64 a1_1, .int .i64 a1_2] 37 (0, 0)) (by (with_reducible repeat (first | refine blk_drewN ?_ _ | refine blk_drew ?_ | refine blk_alloc ?_ _)); exact BK301.out) hb); have n6_ := Aside0.mk (below_step (by repeat (first | (with_reducible first | exact HB.out | apply below_alloc | apply pw_below_drewN | apply below_drew1 | refine below_set ?_ GE290.out | refine below_set ?_ GE291.out | refine below_set ?_ GE300.out | refine below_set ?_ GE301.out) | exact HB.out)) hb); clear HO_12; clear HO304; clear BK290; clear BK291; clear BK300; clear BK301; clear HB; have HO_12 := n0_; have HO304 := n1_; have BK290 := n2_; have BK291 := n3_; have BK300 := n4_; have BK301 := n5_; have HB := n6_; clear n0_ n1_ n2_ n3_ n4_ n5_ n6_; (try clear hb); (try clear hb2); (try clear hk); (try clear hi); obtain ⟨Ao73, co73, eo73⟩ := Kd.R_slice HO304.out; subst eo73; have hcz74_0 : w72.cell? ⟨gb290, 0, none⟩ = some (.int .i64 a0_0) := (blk_cell BK290.out 0).trans rfl; have hcz74_1 : w72.cell? ⟨gb290, 1, none⟩ = some (.int .i64 a0_1) := (blk_cell BK290.out 1).trans rfl; have hcz74_2 : w72.cell? ⟨gb290, 2, none⟩ = some (.int .i64 a0_2) := (blk_cell BK290.out 2).trans rfl; have hfz74_0 := blk_frozen BK290.out 0; have hfz74_1 := blk_frozen BK290.out 1; have hfz74_2 := blk_frozen BK290.out 2; have hnb75 := NB301_291.out; have hnc75 := NB291_301.out; have hcz76_0 : w72.cell? ⟨gb301, 0, none⟩ = some (.int .i64 (wrap64 (a1_0 + (wrap64 (a3))))) := (blk_cell BK301.out 0).trans rfl; have hcz76_1 : w72.cell? ⟨gb301, 1, none⟩ = some (.int .i64 a1_1) := (blk_cell BK301.out 1).trans rfl; have hcz76_2 : w72.cell? ⟨gb301, 2, none⟩ = some (.int .i64 a1_2) := (blk_cell BK301.out 2).trans rfl; have hfz76_0 := blk_frozen BK301.out 0; have hfz76_1 := blk_frozen BK301.out 1; have hfz76_2 := blk_frozen BK301.out 2) | (go_at_call 31; (with_reducible refine (braking_Distance.calls k2 a0_0 a0_1 a0_2 (wrap64 (a1_0 + (wrap64 (a3)))) a1_1 a1_2 (Int.tmod (wrap64 (a2)) 3) t306 _ A64.out).mono ?_); rintro e w77 ⟨rfl, hb⟩; have n0_ := Aside0.mk (Kd.R_below (by (with_reducible repeat (first | apply Kd.R_alloc | apply Kd.R_drewN | apply Kd.R_drew)); exact HO_12.out) hb); have n1_ := Aside0.mk (Kd.R_below (by (with_reducible repeat (first | apply Kd.R_alloc | apply Kd.R_drewN | apply Kd.R_drew)); exact HO304.out) hb); have n2_ := Aside0.mk (blk_below (g := gb290) (o := .cells #[.int .i64 a0_0, .int .i64 a0_1, .int .i64 a0_2] 23 (0, 0)) (by (with_reducible repeat (first | refine blk_drewN ?_ _ | refine blk_drew ?_ | refine blk_alloc ?_ _)); exact BK290.out) hb); have n3_ := Aside0.mk (blk_below (g := gb291) (o := .cells #[.int .i64 a1_0, .int .i64 a1_1, .int .i64 a1_2] 37 (0, 0)) (by (with_reducible repeat (first | refine blk_drewN ?_ _ | refine blk_drew ?_ | refine blk_alloc ?_ _)); exact BK291.out) hb); have n4_ := Aside0.mk (blk_below (g := gb300) (o := .cells #[.int .i64 (wrap64 (-a1_0)), .int .i64 (wrap64 (-a1_1)), .int .i64 (wrap64 (-a1_2))] 37 (0, 0)) (by (with_reducible repeat (first | refine blk_drewN ?_ _ | refine blk_drew ?_ | refine blk_alloc ?_ _)); exact BK300.out) hb); have n5_ := Aside0.mk (blk_below (g := gb301) (o := .cells #[.int .i64 (wrap64 (a1_0 + (wrap64 (a3)))), .int .i64 a1_1, .int .i64 a1_2] 37 (0, 0)) (by (with_reducible repeat (first | refine blk_drewN ?_ _ | refine blk_drew ?_ | refine blk_alloc ?_ _)); exact BK301.out) hb); have n6_ := Aside0.mk (below_step (by repeat (first | (with_reducible first | exact HB.out | apply below_alloc | apply pw_below_drewN | apply below_drew1 | refine below_set ?_ GE290.out | refine below_set ?_ GE291.out | refine below_set ?_ GE300.out | refine below_set ?_ GE301.out) | exact HB.out)) hb); clear HO_12; clear HO304; clear BK290; clear BK291; clear BK300; clear BK301; clear HB; have HO_12 := n0_; have HO304 := n1_; have BK290 := n2_; have BK291 := n3_; have BK300 := n4_; have BK301 := n5_; have HB := n6_; clear n0_ n1_ n2_ n3_ n4_ n5_ n6_; (try clear hb); (try clear hb2); (try clear hk); (try clear hi))); try go_wp2_with (first | (go_at_call 30; (with_reducible refine (braking_Duration.calls k2 a0_0 a0_1 a0_2 (wrap64 (-a1_0)) (wrap64 (-a1_1)) (wrap64 (-a1_2)) (Int.tmod (wrap64 (a2)) 3) t305 _ A61.out).mono ?_); rintro e w72 ⟨rfl, hb⟩; have n0_ := Aside0.mk (Kd.R_below (by (with_reducible repeat (first | apply Kd.R_alloc | apply Kd.R_drewN | apply Kd.R_drew)); exact HO_12.out) hb); have n1_ := Aside0.mk (Kd.R_below (by (with_reducible repeat (first | apply Kd.R_alloc | apply Kd.R_drewN | apply Kd.R_drew)); exact HO304.out) hb); have n2_ := Aside0.mk (blk_below (g := gb290) (o := .cells #[.int .i64 a0_0, .int .i64 a0_1, .int .i64 a0_2] 23 (0, 0)) (by (with_reducible repeat (first | refine blk_drewN ?_ _ | refine blk_drew ?_ | refine blk_alloc ?_ _)); exact BK290.out) hb); have n3_ := Aside0.mk (blk_below (g := gb291) (o := .cells #[.int .i64 a1_0, .int .i64 a1_1, .int .i64 a1_2] 37 (0, 0)) (by (with_reducible repeat (first | refine blk_drewN ?_ _ | refine blk_drew ?_ | refine blk_alloc ?_ _)); exact BK291.out) hb); have n4_ := Aside0.mk (blk_below (g := gb300) (o := .cells #[.int .i64 (wrap64 (-a1_0)), .int .i64 (wrap64 (-a1_1)), .int .i64 (wrap64 (-a1_2))] 37 (0, 0)) (by (with_reducible repeat (first | refine blk_drewN ?_ _ | refine blk_drew ?_ | refine blk_alloc ?_ _)); exact BK300.out) hb); have n5_ := Aside0.mk (blk_below (g := gb301) (o := .cells #[.int .i64 (wrap64 (a1_0 + (wrap64 (a3)))), .int .i64 a1_1, .int .i64 a1_2] 37 (0, 0)) (by (with_reducible repeat (first | refine blk_drewN ?_ _ | refine blk_drew ?_ | refine blk_alloc ?_ _)); exact BK301.out) hb); have n6_ := Aside0.mk (below_step (by repeat (first | (with_reducible first | exact HB.out | apply below_alloc | apply pw_below_drewN | apply below_drew1 | refine below_set ?_ GE290.out | refine below_set ?_ GE291.out | refine below_set ?_ GE300.out | refine below_set ?_ GE301.out) | exact HB.out)) hb); clear HO_12; clear HO304; clear BK290; clear BK291; clear BK300; clear BK301; clear HB; have HO_12 := n0_; have HO304 := n1_; have BK290 := n2_; have BK291 := n3_; have BK300 := n4_; have BK301 := n5_; have HB := n6_; clear n0_ n1_ n2_ n3_ n4_ n5_ n6_; (try clear hb); (try clear hb2); (try clear hk); (try clear hi); obtain ⟨Ao73, co73, eo73⟩ := Kd.R_slice HO304.out; subst eo73; have hcz74_0 : w72.cell? ⟨gb290, 0, none⟩ = some (.int .i64 a0_0) := (blk_cell BK290.out 0).trans rfl; have hcz74_1 : w72.cell? ⟨gb290, 1, none⟩ = some (.int .i64 a0_1) := (blk_cell BK290.out 1).trans rfl; have hcz74_2 : w72.cell? ⟨gb290, 2, none⟩ = some (.int .i64 a0_2) := (blk_cell BK290.out 2).trans rfl; have hfz74_0 := blk_frozen BK290.out 0; have hfz74_1 := blk_frozen BK290.out 1; have hfz74_2 := blk_frozen BK290.out 2; have hnb75 := NB301_291.out; have hnc75 := NB291_301.out; have hcz76_0 : w72.cell? ⟨gb301, 0, none⟩ = some (.int .i64 (wrap64 (a1_0 + (wrap64 (a3))))) := (blk_cell BK301.out 0).trans rfl; have hcz76_1 : w72.cell? ⟨gb301, 1, none⟩ = some (.int .i64 a1_1) := (blk_cell BK301.out 1).trans rfl; have hcz76_2 : w72.cell? ⟨gb301, 2, none⟩ = some (.int .i64 a1_2) := (blk_cell BK301.out 2).trans rfl; have hfz76_0 := blk_frozen BK301.out 0; have hfz76_1 := blk_frozen BK301.out 1; have hfz76_2 := blk_frozen BK301.out 2) | (go_at_call 31; (with_reducible refine (braking_Distance.calls k2 a0_0 a0_1 a0_2 (wrap64 (a1_0 + (wrap64 (a3)))) a1_1 a1_2 (Int.tmod (wrap64 (a2)) 3) t306 _ A64.out).mono ?_); rintro e w77 ⟨rfl, hb⟩; have n0_ := Aside0.mk (Kd.R_below (by (with_reducible repeat (first | apply Kd.R_alloc | apply Kd.R_drewN | apply Kd.R_drew)); exact HO_12.out) hb); have n1_ := Aside0.mk (Kd.R_below (by (with_reducible repeat (first | apply Kd.R_alloc | apply Kd.R_drewN | apply Kd.R_drew)); exact HO304.out) hb); have n2_ := Aside0.mk (blk_below (g := gb290) (o := .cells #[.int .i64 a0_0, .int .i64 a0_1, .int .i64 a0_2] 23 (0, 0)) (by (with_reducible repeat (first | refine blk_drewN ?_ _ | refine blk_drew ?_ | refine blk_alloc ?_ _)); exact BK290.out) hb); have n3_ := Aside0.mk (blk_below (g := gb291) (o := .cells #[.int .i64 a1_0, .int .i64 a1_1, .int .i64 a1_2] 37 (0, 0)) (by (with_reducible repeat (first | refine blk_drewN ?_ _ | refine blk_drew ?_ | refine blk_alloc ?_ _)); exact BK291.out) hb); have n4_ := Aside0.mk (blk_below (g := gb300) (o := .cells #[.int .i64 (wrap64 (-a1_0)), .int .i64 (wrap64 (-a1_1)), .int .i64 (wrap64 (-a1_2))] 37 (0, 0)) (by (with_reducible repeat (first | refine blk_drewN ?_ _ | refine blk_drew ?_ | refine blk_alloc ?_ _)); exact BK300.out) hb); have n5_ := Aside0.mk (blk_below (g := gb301) (o := .cells #[.int .i64 (wrap64 (a1_0 + (wrap64 (a3)))), .int .i64 a1_1, .int .i64 a1_2] 37 (0, 0)) (by (with_reducible repeat (first | refine blk_drewN ?_ _ | refine blk_drew ?_ | refine blk_alloc ?_ _)); exact BK301.out) hb); have n6_ := Aside0.mk (below_step (by repeat (first | (with_reducible first | exact HB.out | apply below_alloc | apply pw_below_drewN | apply below_drew1 | refine below_set ?_ GE290.out | refine below_set ?_ GE291.out | refine below_set ?_ GE300.out | refine below_set ?_ GE301.out) | exact HB.out)) hb); clear HO_12; clear HO304; clear BK290; clear BK291; clear BK300; clear BK301; clear HB; have HO_12 := n0_; have HO304 := n1_; have BK290 := n2_; have BK291 := n3_; have BK300 := n4_; have BK301 := n5_; have HB := n6_; clear n0_ n1_ n2_ n3_ n4_ n5_ n6_; (try clear hb); (try clear hb2); (try clear hk); (try clear hi))))
                        go_meet
                        case rel => exact ⟨_, ((t306 != t297)), (by first | rfl | (simp; done) | (simp [*]; done)), H', ⟨by have := HJ6.out; have := HK2.out; first | omega | exact Nat.le_refl _⟩, ⟨by (with_reducible repeat (first | apply Kd.R_alloc | apply Kd.R_drewN | apply Kd.R_drew)); exact Kd.R_mono HO_12.out (fun _ hk => ⟨hk.2, ⟨hk.1.1.1, ⟨hk.1.1.2, hk.1.2⟩⟩⟩)⟩, ⟨by (with_reducible repeat (first | apply Kd.R_alloc | apply Kd.R_drewN | apply Kd.R_drew)); exact Kd.R_mono HO304.out (fun _ hk => ⟨hk.1.1.1.2, ⟨hk.1.1.2, ⟨hk.1.2, hk.2⟩⟩⟩)⟩, ⟨by (with_reducible repeat (first | refine blk_drewN ?_ _ | refine blk_drew ?_ | refine blk_alloc ?_ _)); exact BK290.out⟩, ⟨by (with_reducible repeat (first | refine blk_drewN ?_ _ | refine blk_drew ?_ | refine blk_alloc ?_ _)); exact BK291.out⟩, ⟨by (with_reducible repeat (first | refine blk_drewN ?_ _ | refine blk_drew ?_ | refine blk_alloc ?_ _)); exact BK300.out⟩, ⟨by (with_reducible repeat (first | refine blk_drewN ?_ _ | refine blk_drew ?_ | refine blk_alloc ?_ _)); exact BK301.out⟩, ⟨by repeat (first | (with_reducible first | exact HB.out | apply below_alloc | apply pw_below_drewN | apply below_drew1 | refine below_set ?_ GE290.out | refine below_set ?_ GE291.out | refine below_set ?_ GE300.out | refine below_set ?_ GE301.out) | exact HB.out)⟩⟩
                      · rw [if_neg c63] at H
                        have c63b0 : ((t302.length : Int) == (t294.length : Int)) = false := beq_eq_false_iff_ne.mpr c63
                        have c63b1 : ((t302.length : Int) != (t294.length : Int)) = true := bne_iff_ne.mpr c63
                        have c63b2 : (t302.length == t294.length) = false := by first | simpa using c63 | (simp at c63 ⊢; omega)
                        have H' := Aside0.mk H
                        clear H
                        have hnb78 := NB290_291.out
                        have hnc78 := NB291_290.out
                        have hnb79 := NB290_300.out
                        have hnc79 := NB300_290.out
                        have hnb80 := NB290_301.out
                        have hnc80 := NB301_290.out
                        have hcz81_0 : w58.cell? ⟨gb290, 0, none⟩ = some (.int .i64 a0_0) := (blk_cell BK290.out 0).trans rfl
                        have hcz81_1 : w58.cell? ⟨gb290, 1, none⟩ = some (.int .i64 a0_1) := (blk_cell BK290.out 1).trans rfl
                        have hcz81_2 : w58.cell? ⟨gb290, 2, none⟩ = some (.int .i64 a0_2) := (blk_cell BK290.out 2).trans rfl
                        have hfz81_0 := blk_frozen BK290.out 0
                        have hfz81_1 := blk_frozen BK290.out 1
                        have hfz81_2 := blk_frozen BK290.out 2
                        have hnb82 := NB300_291.out
                        have hnc82 := NB291_300.out
                        have hnb83 := NB300_301.out
                        have hnc83 := NB301_300.out
                        have hcz84_0 : w58.cell? ⟨gb300, 0, none⟩ = some (.int .i64 (wrap64 (-a1_0))) := (blk_cell BK300.out 0).trans rfl
                        have hcz84_1 : w58.cell? ⟨gb300, 1, none⟩ = some (.int .i64 (wrap64 (-a1_1))) := (blk_cell BK300.out 1).trans rfl
                        have hcz84_2 : w58.cell? ⟨gb300, 2, none⟩ = some (.int .i64 (wrap64 (-a1_2))) := (blk_cell BK300.out 2).trans rfl
                        have hfz84_0 := blk_frozen BK300.out 0
                        have hfz84_1 := blk_frozen BK300.out 1
                        have hfz84_2 := blk_frozen BK300.out 2
                        go_wp2_with (first | (go_at_call 30; (with_reducible refine (braking_Duration.calls k2 a0_0 a0_1 a0_2 (wrap64 (-a1_0)) (wrap64 (-a1_1)) (wrap64 (-a1_2)) (Int.tmod (wrap64 (a2)) 3) t305 _ A61.out).mono ?_); rintro e w85 ⟨rfl, hb⟩; have n0_ := Aside0.mk (Kd.R_below (by (with_reducible repeat (first | apply Kd.R_alloc | apply Kd.R_drewN | apply Kd.R_drew)); exact HO_12.out) hb); have n1_ := Aside0.mk (Kd.R_below (by (with_reducible repeat (first | apply Kd.R_alloc | apply Kd.R_drewN | apply Kd.R_drew)); exact HO304.out) hb); have n2_ := Aside0.mk (blk_below (g := gb290) (o := .cells #[.int .i64 a0_0, .int .i64 a0_1, .int .i64 a0_2] 23 (0, 0)) (by (with_reducible repeat (first | refine blk_drewN ?_ _ | refine blk_drew ?_ | refine blk_alloc ?_ _)); exact BK290.out) hb); have n3_ := Aside0.mk (blk_below (g := gb291) (o := .cells #[.int .i64 a1_0, .int .i64 a1_1, .int .i64 a1_2] 37 (0, 0)) (by (with_reducible repeat (first | refine blk_drewN ?_ _ | refine blk_drew ?_ | refine blk_alloc ?_ _)); exact BK291.out) hb); have n4_ := Aside0.mk (blk_below (g := gb300) (o := .cells #[.int .i64 (wrap64 (-a1_0)), .int .i64 (wrap64 (-a1_1)), .int .i64 (wrap64 (-a1_2))] 37 (0, 0)) (by (with_reducible repeat (first | refine blk_drewN ?_ _ | refine blk_drew ?_ | refine blk_alloc ?_ _)); exact BK300.out) hb); have n5_ := Aside0.mk (blk_below (g := gb301) (o := .cells #[.int .i64 (wrap64 (a1_0 + (wrap64 (a3)))), .int .i64 a1_1, .int .i64 a1_2] 37 (0, 0)) (by (with_reducible repeat (first | refine blk_drewN ?_ _ | refine blk_drew ?_ | refine blk_alloc ?_ _)); exact BK301.out) hb); have n6_ := Aside0.mk (below_step (by repeat (first | (with_reducible first | exact HB.out | apply below_alloc | apply pw_below_drewN | apply below_drew1 | refine below_set ?_ GE290.out | refine below_set ?_ GE291.out | refine below_set ?_ GE300.out | refine below_set ?_ GE301.out) | exact HB.out)) hb); clear HO_12; clear HO304; clear BK290; clear BK291; clear BK300; clear BK301; clear HB; have HO_12 := n0_; have HO304 := n1_; have BK290 := n2_; have BK291 := n3_; have BK300 := n4_; have BK301 := n5_; have HB := n6_; clear n0_ n1_ n2_ n3_ n4_ n5_ n6_; (try clear hb); (try clear hb2); (try clear hk); (try clear hi); obtain ⟨Ao86, co86, eo86⟩ := Kd.R_slice HO304.out; subst eo86))
                        repeat (go_quiet (first | (go_at_call 30; (with_reducible refine (braking_Duration.calls k2 a0_0 a0_1 a0_2 (wrap64 (-a1_0)) (wrap64 (-a1_1)) (wrap64 (-a1_2)) (Int.tmod (wrap64 (a2)) 3) t305 _ A61.out).mono ?_); rintro e w85 ⟨rfl, hb⟩; have n0_ := Aside0.mk (Kd.R_below (by (with_reducible repeat (first | apply Kd.R_alloc | apply Kd.R_drewN | apply Kd.R_drew)); exact HO_12.out) hb); have n1_ := Aside0.mk (Kd.R_below (by (with_reducible repeat (first | apply Kd.R_alloc | apply Kd.R_drewN | apply Kd.R_drew)); exact HO304.out) hb); have n2_ := Aside0.mk (blk_below (g := gb290) (o := .cells #[.int .i64 a0_0, .int .i64 a0_1, .int .i64 a0_2] 23 (0, 0)) (by (with_reducible repeat (first | refine blk_drewN ?_ _ | refine blk_drew ?_ | refine blk_alloc ?_ _)); exact BK290.out) hb); have n3_ := Aside0.mk (blk_below (g := gb291) (o := .cells #[.int .i64 a1_0, .int .i64 a1_1, .int .i64 a1_2] 37 (0, 0)) (by (with_reducible repeat (first | refine blk_drewN ?_ _ | refine blk_drew ?_ | refine blk_alloc ?_ _)); exact BK291.out) hb); have n4_ := Aside0.mk (blk_below (g := gb300) (o := .cells #[.int .i64 (wrap64 (-a1_0)), .int .i64 (wrap64 (-a1_1)), .int .i64 (wrap64 (-a1_2))] 37 (0, 0)) (by (with_reducible repeat (first | refine blk_drewN ?_ _ | refine blk_drew ?_ | refine blk_alloc ?_ _)); exact BK300.out) hb); have n5_ := Aside0.mk (blk_below (g := gb301) (o := .cells #[.int .i64 (wrap64 (a1_0 + (wrap64 (a3)))), .int .i64 a1_1, .int .i64 a1_2] 37 (0, 0)) (by (with_reducible repeat (first | refine blk_drewN ?_ _ | refine blk_drew ?_ | refine blk_alloc ?_ _)); exact BK301.out) hb); have n6_ := Aside0.mk (below_step (by repeat (first | (with_reducible first | exact HB.out | apply below_alloc | apply pw_below_drewN | apply below_drew1 | refine below_set ?_ GE290.out | refine below_set ?_ GE291.out | refine below_set ?_ GE300.out | refine below_set ?_ GE301.out) | exact HB.out)) hb); clear HO_12; clear HO304; clear BK290; clear BK291; clear BK300; clear BK301; clear HB; have HO_12 := n0_; have HO304 := n1_; have BK290 := n2_; have BK291 := n3_; have BK300 := n4_; have BK301 := n5_; have HB := n6_; clear n0_ n1_ n2_ n3_ n4_ n5_ n6_; (try clear hb); (try clear hb2); (try clear hk); (try clear hi); obtain ⟨Ao86, co86, eo86⟩ := Kd.R_slice HO304.out; subst eo86)); try go_wp2_with (first | (go_at_call 30; (with_reducible refine (braking_Duration.calls k2 a0_0 a0_1 a0_2 (wrap64 (-a1_0)) (wrap64 (-a1_1)) (wrap64 (-a1_2)) (Int.tmod (wrap64 (a2)) 3) t305 _ A61.out).mono ?_); rintro e w85 ⟨rfl, hb⟩; have n0_ := Aside0.mk (Kd.R_below (by (with_reducible repeat (first | apply Kd.R_alloc | apply Kd.R_drewN | apply Kd.R_drew)); exact HO_12.out) hb); have n1_ := Aside0.mk (Kd.R_below (by (with_reducible repeat (first | apply Kd.R_alloc | apply Kd.R_drewN | apply Kd.R_drew)); exact HO304.out) hb); have n2_ := Aside0.mk (blk_below (g := gb290) (o := .cells #[.int .i64 a0_0, .int .i64 a0_1, .int .i64 a0_2] 23 (0, 0)) (by (with_reducible repeat (first | refine blk_drewN ?_ _ | refine blk_drew ?_ | refine blk_alloc ?_ _)); exact BK290.out) hb); have n3_ := Aside0.mk (blk_below (g := gb291) (o := .cells #[.int .i64 a1_0, .int .i64 a1_1, .int .i64 a1_2] 37 (0, 0)) (by (with_reducible repeat (first | refine blk_drewN ?_ _ | refine blk_drew ?_ | refine blk_alloc ?_ _)); exact BK291.out) hb); have n4_ := Aside0.mk (blk_below (g := gb300) (o := .cells #[.int .i64 (wrap64 (-a1_0)), .int .i64 (wrap64 (-a1_1)), .int .i64 (wrap64 (-a1_2))] 37 (0, 0)) (by (with_reducible repeat (first | refine blk_drewN ?_ _ | refine blk_drew ?_ | refine blk_alloc ?_ _)); exact BK300.out) hb); have n5_ := Aside0.mk (blk_below (g := gb301) (o := .cells #[.int .i64 (wrap64 (a1_0 + (wrap64 (a3)))), .int .i64 a1_1, .int .i64 a1_2] 37 (0, 0)) (by (with_reducible repeat (first | refine blk_drewN ?_ _ | refine blk_drew ?_ | refine blk_alloc ?_ _)); exact BK301.out) hb); have n6_ := Aside0.mk (below_step (by repeat (first | (with_reducible first | exact HB.out | apply below_alloc | apply pw_below_drewN | apply below_drew1 | refine below_set ?_ GE290.out | refine below_set ?_ GE291.out | refine below_set ?_ GE300.out | refine below_set ?_ GE301.out) | exact HB.out)) hb); clear HO_12; clear HO304; clear BK290; clear BK291; clear BK300; clear BK301; clear HB; have HO_12 := n0_; have HO304 := n1_; have BK290 := n2_; have BK291 := n3_; have BK300 := n4_; have BK301 := n5_; have HB := n6_; clear n0_ n1_ n2_ n3_ n4_ n5_ n6_; (try clear hb); (try clear hb2); (try clear hk); (try clear hi); obtain ⟨Ao86, co86, eo86⟩ := Kd.R_slice HO304.out; subst eo86)))
                        go_meet
                        case rel => exact ⟨_, (true), (by first | rfl | (simp; done) | (simp [*]; done)), H', ⟨by have := HJ6.out; have := HK2.out; first | omega | exact Nat.le_refl _⟩, ⟨by (with_reducible repeat (first | apply Kd.R_alloc | apply Kd.R_drewN | apply Kd.R_drew)); exact Kd.R_mono HO_12.out (fun _ hk => ⟨hk.2, ⟨hk.1.1.1, ⟨hk.1.1.2, hk.1.2⟩⟩⟩)⟩, ⟨by (with_reducible repeat (first | apply Kd.R_alloc | apply Kd.R_drewN | apply Kd.R_drew)); exact Kd.R_mono HO304.out (fun _ hk => ⟨hk.1.1.1.2, ⟨hk.1.1.2, ⟨hk.1.2, hk.2⟩⟩⟩)⟩, ⟨by (with_reducible repeat (first | refine blk_drewN ?_ _ | refine blk_drew ?_ | refine blk_alloc ?_ _)); exact BK290.out⟩, ⟨by (with_reducible repeat (first | refine blk_drewN ?_ _ | refine blk_drew ?_ | refine blk_alloc ?_ _)); exact BK291.out⟩, ⟨by (with_reducible repeat (first | refine blk_drewN ?_ _ | refine blk_drew ?_ | refine blk_alloc ?_ _)); exact BK300.out⟩, ⟨by (with_reducible repeat (first | refine blk_drewN ?_ _ | refine blk_drew ?_ | refine blk_alloc ?_ _)); exact BK301.out⟩, ⟨by repeat (first | (with_reducible first | exact HB.out | apply below_alloc | apply pw_below_drewN | apply below_drew1 | refine below_set ?_ GE290.out | refine below_set ?_ GE291.out | refine below_set ?_ GE300.out | refine below_set ?_ GE301.out) | exact HB.out)⟩⟩
                    · rw [if_neg c62] at H
                      have c62b0 : (t305 == (t294.length : Int)) = false := beq_eq_false_iff_ne.mpr c62
                      have c62b1 : (t305 != (t294.length : Int)) = true := bne_iff_ne.mpr c62
                      have H' := Aside0.mk H
                      clear H
                      have hnb87 := NB290_291.out
                      have hnc87 := NB291_290.out
                      have hnb88 := NB290_300.out
                      have hnc88 := NB300_290.out
                      have hnb89 := NB290_301.out
                      have hnc89 := NB301_290.out
                      have hcz90_0 : w58.cell? ⟨gb290, 0, none⟩ = some (.int .i64 a0_0) := (blk_cell BK290.out 0).trans rfl
                      have hcz90_1 : w58.cell? ⟨gb290, 1, none⟩ = some (.int .i64 a0_1) := (blk_cell BK290.out 1).trans rfl
                      have hcz90_2 : w58.cell? ⟨gb290, 2, none⟩ = some (.int .i64 a0_2) := (blk_cell BK290.out 2).trans rfl
                      have hfz90_0 := blk_frozen BK290.out 0
                      have hfz90_1 := blk_frozen BK290.out 1
                      have hfz90_2 := blk_frozen BK290.out 2
                      have hnb91 := NB300_291.out
                      have hnc91 := NB291_300.out
                      have hnb92 := NB300_301.out
                      have hnc92 := NB301_300.out
                      have hcz93_0 : w58.cell? ⟨gb300, 0, none⟩ = some (.int .i64 (wrap64 (-a1_0))) := (blk_cell BK300.out 0).trans rfl
                      have hcz93_1 : w58.cell? ⟨gb300, 1, none⟩ = some (.int .i64 (wrap64 (-a1_1))) := (blk_cell BK300.out 1).trans rfl
                      have hcz93_2 : w58.cell? ⟨gb300, 2, none⟩ = some (.int .i64 (wrap64 (-a1_2))) := (blk_cell BK300.out 2).trans rfl
                      have hfz93_0 := blk_frozen BK300.out 0
                      have hfz93_1 := blk_frozen BK300.out 1
                      have hfz93_2 := blk_frozen BK300.out 2
                      go_wp2_with (first | (go_at_call 30; (with_reducible refine (braking_Duration.calls k2 a0_0 a0_1 a0_2 (wrap64 (-a1_0)) (wrap64 (-a1_1)) (wrap64 (-a1_2)) (Int.tmod (wrap64 (a2)) 3) t305 _ A61.out).mono ?_); rintro e w94 ⟨rfl, hb⟩; have n0_ := Aside0.mk (Kd.R_below (by (with_reducible repeat (first | apply Kd.R_alloc | apply Kd.R_drewN | apply Kd.R_drew)); exact HO_12.out) hb); have n1_ := Aside0.mk (Kd.R_below (by (with_reducible repeat (first | apply Kd.R_alloc | apply Kd.R_drewN | apply Kd.R_drew)); exact HO304.out) hb); have n2_ := Aside0.mk (blk_below (g := gb290) (o := .cells #[.int .i64 a0_0, .int .i64 a0_1, .int .i64 a0_2] 23 (0, 0)) (by (with_reducible repeat (first | refine blk_drewN ?_ _ | refine blk_drew ?_ | refine blk_alloc ?_ _)); exact BK290.out) hb); have n3_ := Aside0.mk (blk_below (g := gb291) (o := .cells #[.int .i64 a1_0, .int .i64 a1_1, .int .i64 a1_2] 37 (0, 0)) (by (with_reducible repeat (first | refine blk_drewN ?_ _ | refine blk_drew ?_ | refine blk_alloc ?_ _)); exact BK291.out) hb); have n4_ := Aside0.mk (blk_below (g := gb300) (o := .cells #[.int .i64 (wrap64 (-a1_0)), .int .i64 (wrap64 (-a1_1)), .int .i64 (wrap64 (-a1_2))] 37 (0, 0)) (by (with_reducible repeat (first | refine blk_drewN ?_ _ | refine blk_drew ?_ | refine blk_alloc ?_ _)); exact BK300.out) hb); have n5_ := Aside0.mk (blk_below (g := gb301) (o := .cells #[.int .i64 (wrap64 (a1_0 + (wrap64 (a3)))), .int .i64 a1_1, .int .i64 a1_2] 37 (0, 0)) (by (with_reducible repeat (first | refine blk_drewN ?_ _ | refine blk_drew ?_ | refine blk_alloc ?_ _)); exact BK301.out) hb); have n6_ := Aside0.mk (below_step (by repeat (first | (with_reducible first | exact HB.out | apply below_alloc | apply pw_below_drewN | apply below_drew1 | refine below_set ?_ GE290.out | refine below_set ?_ GE291.out | refine below_set ?_ GE300.out | refine below_set ?_ GE301.out) | exact HB.out)) hb); clear HO_12; clear HO304; clear BK290; clear BK291; clear BK300; clear BK301; clear HB; have HO_12 := n0_; have HO304 := n1_; have BK290 := n2_; have BK291 := n3_; have BK300 := n4_; have BK301 := n5_; have HB := n6_; clear n0_ n1_ n2_ n3_ n4_ n5_ n6_; (try clear hb); (try clear hb2); (try clear hk); (try clear hi)))
                      repeat (go_quiet (first | (go_at_call 30; (with_reducible refine (braking_Duration.calls k2 a0_0 a0_1 a0_2 (wrap64 (-a1_0)) (wrap64 (-a1_1)) (wrap64 (-a1_2)) (Int.tmod (wrap64 (a2)) 3) t305 _ A61.out).mono ?_); rintro e w94 ⟨rfl, hb⟩; have n0_ := Aside0.mk (Kd.R_below (by (with_reducible repeat (first | apply Kd.R_alloc | apply Kd.R_drewN | apply Kd.R_drew)); exact HO_12.out) hb); have n1_ := Aside0.mk (Kd.R_below (by (with_reducible repeat (first | apply Kd.R_alloc | apply Kd.R_drewN | apply Kd.R_drew)); exact HO304.out) hb); have n2_ := Aside0.mk (blk_below (g := gb290) (o := .cells #[.int .i64 a0_0, .int .i64 a0_1, .int .i64 a0_2] 23 (0, 0)) (by (with_reducible repeat (first | refine blk_drewN ?_ _ | refine blk_drew ?_ | refine blk_alloc ?_ _)); exact BK290.out) hb); have n3_ := Aside0.mk (blk_below (g := gb291) (o := .cells #[.int .i64 a1_0, .int .i64 a1_1, .int .i64 a1_2] 37 (0, 0)) (by (with_reducible repeat (first | refine blk_drewN ?_ _ | refine blk_drew ?_ | refine blk_alloc ?_ _)); exact BK291.out) hb); have n4_ := Aside0.mk (blk_below (g := gb300) (o := .cells #[.int .i64 (wrap64 (-a1_0)), .int .i64 (wrap64 (-a1_1)), .int .i64 (wrap64 (-a1_2))] 37 (0, 0)) (by (with_reducible repeat (first | refine blk_drewN ?_ _ | refine blk_drew ?_ | refine blk_alloc ?_ _)); exact BK300.out) hb); have n5_ := Aside0.mk (blk_below (g := gb301) (o := .cells #[.int .i64 (wrap64 (a1_0 + (wrap64 (a3)))), .int .i64 a1_1, .int .i64 a1_2] 37 (0, 0)) (by (with_reducible repeat (first | refine blk_drewN ?_ _ | refine blk_drew ?_ | refine blk_alloc ?_ _)); exact BK301.out) hb); have n6_ := Aside0.mk (below_step (by repeat (first | (with_reducible first | exact HB.out | apply below_alloc | apply pw_below_drewN | apply below_drew1 | refine below_set ?_ GE290.out | refine below_set ?_ GE291.out | refine below_set ?_ GE300.out | refine below_set ?_ GE301.out) | exact HB.out)) hb); clear HO_12; clear HO304; clear BK290; clear BK291; clear BK300; clear BK301; clear HB; have HO_12 := n0_; have HO304 := n1_; have BK290 := n2_; have BK291 := n3_; have BK300 := n4_; have BK301 := n5_; have HB := n6_; clear n0_ n1_ n2_ n3_ n4_ n5_ n6_; (try clear hb); (try clear hb2); (try clear hk); (try clear hi))); try go_wp2_with (first | (go_at_call 30; (with_reducible refine (braking_Duration.calls k2 a0_0 a0_1 a0_2 (wrap64 (-a1_0)) (wrap64 (-a1_1)) (wrap64 (-a1_2)) (Int.tmod (wrap64 (a2)) 3) t305 _ A61.out).mono ?_); rintro e w94 ⟨rfl, hb⟩; have n0_ := Aside0.mk (Kd.R_below (by (with_reducible repeat (first | apply Kd.R_alloc | apply Kd.R_drewN | apply Kd.R_drew)); exact HO_12.out) hb); have n1_ := Aside0.mk (Kd.R_below (by (with_reducible repeat (first | apply Kd.R_alloc | apply Kd.R_drewN | apply Kd.R_drew)); exact HO304.out) hb); have n2_ := Aside0.mk (blk_below (g := gb290) (o := .cells #[.int .i64 a0_0, .int .i64 a0_1, .int .i64 a0_2] 23 (0, 0)) (by (with_reducible repeat (first | refine blk_drewN ?_ _ | refine blk_drew ?_ | refine blk_alloc ?_ _)); exact BK290.out) hb); have n3_ := Aside0.mk (blk_below (g := gb291) (o := .cells #[.int .i64 a1_0, .int .i64 a1_1, .int .i64 a1_2] 37 (0, 0)) (by (with_reducible repeat (first | refine blk_drewN ?_ _ | refine blk_drew ?_ | refine blk_alloc ?_ _)); exact BK291.out) hb); have n4_ := Aside0.mk (blk_below (g := gb300) (o := .cells #[.int .i64 (wrap64 (-a1_0)), .int .i64 (wrap64 (-a1_1)), .int .i64 (wrap64 (-a1_2))] 37 (0, 0)) (by (with_reducible repeat (first | refine blk_drewN ?_ _ | refine blk_drew ?_ | refine blk_alloc ?_ _)); exact BK300.out) hb); have n5_ := Aside0.mk (blk_below (g := gb301) (o := .cells #[.int .i64 (wrap64 (a1_0 + (wrap64 (a3)))), .int .i64 a1_1, .int .i64 a1_2] 37 (0, 0)) (by (with_reducible repeat (first | refine blk_drewN ?_ _ | refine blk_drew ?_ | refine blk_alloc ?_ _)); exact BK301.out) hb); have n6_ := Aside0.mk (below_step (by repeat (first | (with_reducible first | exact HB.out | apply below_alloc | apply pw_below_drewN | apply below_drew1 | refine below_set ?_ GE290.out | refine below_set ?_ GE291.out | refine below_set ?_ GE300.out | refine below_set ?_ GE301.out) | exact HB.out)) hb); clear HO_12; clear HO304; clear BK290; clear BK291; clear BK300; clear BK301; clear HB; have HO_12 := n0_; have HO304 := n1_; have BK290 := n2_; have BK291 := n3_; have BK300 := n4_; have BK301 := n5_; have HB := n6_; clear n0_ n1_ n2_ n3_ n4_ n5_ n6_; (try clear hb); (try clear hb2); (try clear hk); (try clear hi))))
                      go_meet
                      case rel => exact ⟨_, (true), (by first | rfl | (simp; done) | (simp [*]; done)), H', ⟨by have := HJ6.out; have := HK2.out; first | omega | exact Nat.le_refl _⟩, ⟨by (with_reducible repeat (first | apply Kd.R_alloc | apply Kd.R_drewN | apply Kd.R_drew)); exact Kd.R_mono HO_12.out (fun _ hk => ⟨hk.2, ⟨hk.1.1.1, ⟨hk.1.1.2, hk.1.2⟩⟩⟩)⟩, ⟨by (with_reducible repeat (first | apply Kd.R_alloc | apply Kd.R_drewN | apply Kd.R_drew)); exact Kd.R_mono HO304.out (fun _ hk => ⟨hk.1.1.1.2, ⟨hk.1.1.2, ⟨hk.1.2, hk.2⟩⟩⟩)⟩, ⟨by (with_reducible repeat (first | refine blk_drewN ?_ _ | refine blk_drew ?_ | refine blk_alloc ?_ _)); exact BK290.out⟩, ⟨by (with_reducible repeat (first | refine blk_drewN ?_ _ | refine blk_drew ?_ | refine blk_alloc ?_ _)); exact BK291.out⟩, ⟨by (with_reducible repeat (first | refine blk_drewN ?_ _ | refine blk_drew ?_ | refine blk_alloc ?_ _)); exact BK300.out⟩, ⟨by (with_reducible repeat (first | refine blk_drewN ?_ _ | refine blk_drew ?_ | refine blk_alloc ?_ _)); exact BK301.out⟩, ⟨by repeat (first | (with_reducible first | exact HB.out | apply below_alloc | apply pw_below_drewN | apply below_drew1 | refine below_set ?_ GE290.out | refine below_set ?_ GE291.out | refine below_set ?_ GE300.out | refine below_set ?_ GE301.out) | exact HB.out)⟩⟩
                · replace c59 := Bool.eq_false_iff.mpr c59
                  subst c59
                  have H1 : (ambidexterlaw28_BrakingStoppingDistance.j2 k2 a3 true (Int.tmod (wrap64 (a2)) 3) t294 t297 t302 true a0_0 a0_1 a0_2 (wrap64 (-a1_0)) (wrap64 (-a1_1)) (wrap64 (-a1_2))) = some r := by rw [if_neg (show ¬ (false = true) by decide)] at H; exact H
                  clear H
                  have H := H1
                  clear H1
                  have H' := Aside0.mk H
                  clear H
                  go_wp2
                  repeat (go_quiet (fail); try go_wp2)
                  go_meet
                  case rel => exact ⟨_, (true), (by first | rfl | (simp; done) | (simp [*]; done)), H', ⟨by have := HJ6.out; have := HK2.out; first | omega | exact Nat.le_refl _⟩, ⟨by (with_reducible repeat (first | apply Kd.R_alloc | apply Kd.R_drewN | apply Kd.R_drew)); exact Kd.R_mono HO_12.out (fun _ hk => ⟨hk.2, ⟨hk.1.1.1, ⟨hk.1.1.2, hk.1.2⟩⟩⟩)⟩, ⟨by (with_reducible repeat (first | apply Kd.R_alloc | apply Kd.R_drewN | apply Kd.R_drew)); exact Kd.R_mono HO304.out (fun _ hk => ⟨hk.1.1.1.2, ⟨hk.1.1.2, ⟨hk.1.2, hk.2⟩⟩⟩)⟩, ⟨by (with_reducible repeat (first | refine blk_drewN ?_ _ | refine blk_drew ?_ | refine blk_alloc ?_ _)); exact BK290.out⟩, ⟨by (with_reducible repeat (first | refine blk_drewN ?_ _ | refine blk_drew ?_ | refine blk_alloc ?_ _)); exact BK291.out⟩, ⟨by (with_reducible repeat (first | refine blk_drewN ?_ _ | refine blk_drew ?_ | refine blk_alloc ?_ _)); exact BK300.out⟩, ⟨by (with_reducible repeat (first | refine blk_drewN ?_ _ | refine blk_drew ?_ | refine blk_alloc ?_ _)); exact BK301.out⟩, ⟨by repeat (first | (with_reducible first | exact HB.out | apply below_alloc | apply pw_below_drewN | apply below_drew1 | refine below_set ?_ GE290.out | refine below_set ?_ GE291.out | refine below_set ?_ GE300.out | refine below_set ?_ GE301.out) | exact HB.out)⟩⟩
              case rest =>
                clear HC43
                try clear c1
                try clear c2
                try clear p2
                try clear q2
                try clear hx2
                try clear c3
                try clear c4
                try clear c5
                try clear c6
                try clear p6
                try clear c7
                try clear c8
                try clear c9
                try clear c11
                try clear c15
                try clear c16
                try clear c16b0
                try clear c17
                try clear c19
                try clear c21
                try clear c24
                try clear p29
                try clear q29
                try clear hx29
                try clear c31
                try clear c31b0
                try clear c32
                try clear c32b0
                try clear c34
                try clear c34b0
                try clear c35
                try clear c37
                try clear c40
                try clear c45
                try clear c48
                try clear c49
                try clear c53
                try clear c54
                try clear c55
                try clear c59
                try clear c60
                try clear c60b0
                try clear c62
                try clear c62b0
                try clear c62b1
                try clear c63
                try clear c63b0
                try clear c63b1
                try clear c63b2
                try clear p64
                try clear c65
                try clear c66
                try clear c67
                try clear c69
                try clear c70
                try clear c75
                try clear c78
                try clear c79
                try clear c80
                try clear c82
                try clear c83
                try clear c87
                try clear c88
                try clear c89
                try clear c91
                try clear c92
                try clear hcz12_0
                try clear hcz12_1
                try clear hcz12_2
                try clear hcz13_0
                try clear hcz13_1
                try clear hcz13_2
                try clear hcz18_0
                try clear hcz18_1
                try clear hcz18_2
                try clear hcz20_0
                try clear hcz20_1
                try clear hcz20_2
                try clear hcz25_0
                try clear hcz25_1
                try clear hcz25_2
                try clear hcz26_0
                try clear hcz26_1
                try clear hcz26_2
                try clear hcz28_0
                try clear hcz28_1
                try clear hcz28_2
                try clear hcz29_0
                try clear hcz29_1
                try clear hcz29_2
                try clear hcz38_0
                try clear hcz38_1
                try clear hcz38_2
                try clear hcz41_0
                try clear hcz41_1
                try clear hcz41_2
                try clear hcz46_0
                try clear hcz46_1
                try clear hcz46_2
                try clear hcz50_0
                try clear hcz50_1
                try clear hcz50_2
                try clear hcz51_0
                try clear hcz51_1
                try clear hcz51_2
                try clear hcz56_0
                try clear hcz56_1
                try clear hcz56_2
                try clear hcz57_0
                try clear hcz57_1
                try clear hcz57_2
                try clear hcz68_0
                try clear hcz68_1
                try clear hcz68_2
                try clear hcz71_0
                try clear hcz71_1
                try clear hcz71_2
                try clear hcz74_0
                try clear hcz74_1
                try clear hcz74_2
                try clear hcz76_0
                try clear hcz76_1
                try clear hcz76_2
                try clear hcz81_0
                try clear hcz81_1
                try clear hcz81_2
                try clear hcz84_0
                try clear hcz84_1
                try clear hcz84_2
                try clear hcz90_0
                try clear hcz90_1
                try clear hcz90_2
                try clear hcz93_0
                try clear hcz93_1
                try clear hcz93_2
                try clear hfz12_0
                try clear hfz12_1
                try clear hfz12_2
                try clear hfz13_0
                try clear hfz13_1
                try clear hfz13_2
                try clear hfz18_0
                try clear hfz18_1
                try clear hfz18_2
                try clear hfz20_0
                try clear hfz20_1
                try clear hfz20_2
                try clear hfz25_0
                try clear hfz25_1
                try clear hfz25_2
                try clear hfz26_0
                try clear hfz26_1
                try clear hfz26_2
                try clear hfz28_0
                try clear hfz28_1
                try clear hfz28_2
                try clear hfz29_0
                try clear hfz29_1
                try clear hfz29_2
                try clear hfz38_0
                try clear hfz38_1
                try clear hfz38_2
                try clear hfz41_0
                try clear hfz41_1
                try clear hfz41_2
                try clear hfz46_0
                try clear hfz46_1
                try clear hfz46_2
                try clear hfz50_0
                try clear hfz50_1
                try clear hfz50_2
                try clear hfz51_0
                try clear hfz51_1
                try clear hfz51_2
                try clear hfz56_0
                try clear hfz56_1
                try clear hfz56_2
                try clear hfz57_0
                try clear hfz57_1
                try clear hfz57_2
                try clear hfz68_0
                try clear hfz68_1
                try clear hfz68_2
                try clear hfz71_0
                try clear hfz71_1
                try clear hfz71_2
                try clear hfz74_0
                try clear hfz74_1
                try clear hfz74_2
                try clear hfz76_0
                try clear hfz76_1
                try clear hfz76_2
                try clear hfz81_0
                try clear hfz81_1
                try clear hfz81_2
                try clear hfz84_0
                try clear hfz84_1
                try clear hfz84_2
                try clear hfz90_0
                try clear hfz90_1
                try clear hfz90_2
                try clear hfz93_0
                try clear hfz93_1
                try clear hfz93_2
                try clear hx298_0
                try clear hx298_1
                try clear hx298_2
                try clear hx299_0
                try clear hx299_1
                try clear hx299_2
                try clear p2
                try clear p298
                try clear p299
                try clear p6
                try clear q298
                try clear q299
                obtain ⟨kq, x136_42, rfl, HA, HJ42, HO_12, HO_19, BK290, BK291, BK300, BK301, HB⟩ := hcut
                cases kq with
                | zero => exact absurd HA.out (by simp [ambidexterlaw28_BrakingStoppingDistance.j2])
                | succ kj42 =>
                  have H := HA.out
                  clear HA
                  simp only [ambidexterlaw28_BrakingStoppingDistance.j2] at H
                  by_cases c95 : x136_42 = true
                  · subst c95
                    have H1 : (some false) = some r := by rw [if_pos rfl] at H; exact H
                    clear H
                    have H := H1
                    clear H1
                    exact absurd HT.out (by rw [← Option.some.inj H]; decide)
                  · replace c95 := Bool.eq_false_iff.mpr c95
                    subst c95
                    have H1 : (ambidexterlaw28_BrakingStoppingDistance.l1 kj42 a3 true (Int.tmod (wrap64 (a2)) 3) t294 t297 t302 0 a0_0 a0_1 a0_2 (wrap64 (-a1_0)) (wrap64 (-a1_1)) (wrap64 (-a1_2))) = some r := by rw [if_neg (show ¬ (false = true) by decide)] at H; exact H
                    clear H
                    have H := H1
                    clear H1
                    have H' := Aside0.mk H
                    clear H
                    go_wp2
                    repeat (go_quiet (fail); try go_wp2)
                    go_loopg [20] kj42 (fun kq v20 w' => ∃ (x20_4 : Int), v20 = .int .i64 x20_4 ∧ Aside0 (ambidexterlaw28_BrakingStoppingDistance.l1 kq a3 true (Int.tmod (wrap64 (a2)) 3) t294 t297 t302 x20_4 a0_0 a0_1 a0_2 (wrap64 (-a1_0)) (wrap64 (-a1_1)) (wrap64 (-a1_2)) = some r) ∧ Aside0 (kq ≤ kj42) ∧ Aside0 (Kd.R k37 37 w' w.heap.size (fun k_ => some k_ ≠ (v303 : Value).ownBlock ∧ k_ ≠ gb291 ∧ k_ ≠ gb300 ∧ k_ ≠ gb301) (.slice Ao44 t294.length co44) t294) ∧ Aside0 (Kd.R k37 37 w' w.heap.size (fun k_ => some k_ ≠ ((.slice Ao44 t294.length co44) : Value).ownBlock ∧ k_ ≠ gb291 ∧ k_ ≠ gb300 ∧ k_ ≠ gb301) v303 t302) ∧ Aside0 (w'.heap[gb290]? = some (.cells #[.int .i64 a0_0, .int .i64 a0_1, .int .i64 a0_2] 23 (0, 0))) ∧ Aside0 (w'.heap[gb291]? = some (.cells #[.int .i64 a1_0, .int .i64 a1_1, .int .i64 a1_2] 37 (0, 0))) ∧ Aside0 (w'.heap[gb300]? = some (.cells #[.int .i64 (wrap64 (-a1_0)), .int .i64 (wrap64 (-a1_1)), .int .i64 (wrap64 (-a1_2))] 37 (0, 0))) ∧ Aside0 (w'.heap[gb301]? = some (.cells #[.int .i64 (wrap64 (a1_0 + (wrap64 (a3)))), .int .i64 a1_1, .int .i64 a1_2] 37 (0, 0))) ∧ Aside0 (Below w.heap.size w w'))
                    case atStart => exact ⟨(0), (by first | rfl | (simp; done) | (simp [*]; done)), H', ⟨Nat.le_refl _⟩, ⟨by (with_reducible repeat (first | apply Kd.R_alloc | apply Kd.R_drewN | apply Kd.R_drew)); exact HO_12.out⟩, ⟨by (with_reducible repeat (first | apply Kd.R_alloc | apply Kd.R_drewN | apply Kd.R_drew)); exact HO_19.out⟩, ⟨by (with_reducible repeat (first | refine blk_drewN ?_ _ | refine blk_drew ?_ | refine blk_alloc ?_ _)); exact BK290.out⟩, ⟨by (with_reducible repeat (first | refine blk_drewN ?_ _ | refine blk_drew ?_ | refine blk_alloc ?_ _)); exact BK291.out⟩, ⟨by (with_reducible repeat (first | refine blk_drewN ?_ _ | refine blk_drew ?_ | refine blk_alloc ?_ _)); exact BK300.out⟩, ⟨by (with_reducible repeat (first | refine blk_drewN ?_ _ | refine blk_drew ?_ | refine blk_alloc ?_ _)); exact BK301.out⟩, ⟨by repeat (first | (with_reducible first | exact HB.out | apply below_alloc | apply pw_below_drewN | apply below_drew1 | refine below_set ?_ GE290.out | refine below_set ?_ GE291.out | refine below_set ?_ GE300.out | refine below_set ?_ GE301.out) | exact HB.out)⟩⟩
                    case round =>
                      clear H'
                      try clear c1
                      try clear c2
                      try clear p2
                      try clear q2
                      try clear hx2
                      try clear c3
                      try clear c4
                      try clear c5
                      try clear c6
                      try clear p6
                      try clear c7
                      try clear c8
                      try clear c9
                      try clear c11
                      try clear c15
                      try clear c16
                      try clear c16b0
                      try clear c17
                      try clear c19
                      try clear c21
                      try clear c24
                      try clear p29
                      try clear q29
                      try clear hx29
                      try clear c31
                      try clear c31b0
                      try clear c32
                      try clear c32b0
                      try clear c34
                      try clear c34b0
                      try clear c35
                      try clear c37
                      try clear c40
                      try clear c45
                      try clear c48
                      try clear c49
                      try clear c53
                      try clear c54
                      try clear c55
                      try clear c59
                      try clear c60
                      try clear c60b0
                      try clear c62
                      try clear c62b0
                      try clear c62b1
                      try clear c63
                      try clear c63b0
                      try clear c63b1
                      try clear c63b2
                      try clear p64
                      try clear c65
                      try clear c66
                      try clear c67
                      try clear c69
                      try clear c70
                      try clear c75
                      try clear c78
                      try clear c79
                      try clear c80
                      try clear c82
                      try clear c83
                      try clear c87
                      try clear c88
                      try clear c89
                      try clear c91
                      try clear c92
                      try clear c95
                      try clear hcz12_0
                      try clear hcz12_1
                      try clear hcz12_2
                      try clear hcz13_0
                      try clear hcz13_1
                      try clear hcz13_2
                      try clear hcz18_0
                      try clear hcz18_1
                      try clear hcz18_2
                      try clear hcz20_0
                      try clear hcz20_1
                      try clear hcz20_2
                      try clear hcz25_0
                      try clear hcz25_1
                      try clear hcz25_2
                      try clear hcz26_0
                      try clear hcz26_1
                      try clear hcz26_2
                      try clear hcz28_0
                      try clear hcz28_1
                      try clear hcz28_2
                      try clear hcz29_0
                      try clear hcz29_1
                      try clear hcz29_2
                      try clear hcz38_0
                      try clear hcz38_1
                      try clear hcz38_2
                      try clear hcz41_0
                      try clear hcz41_1
                      try clear hcz41_2
                      try clear hcz46_0
                      try clear hcz46_1
                      try clear hcz46_2
                      try clear hcz50_0
                      try clear hcz50_1
                      try clear hcz50_2
                      try clear hcz51_0
                      try clear hcz51_1
                      try clear hcz51_2
                      try clear hcz56_0
                      try clear hcz56_1
                      try clear hcz56_2
                      try clear hcz57_0
                      try clear hcz57_1
                      try clear hcz57_2
                      try clear hcz68_0
                      try clear hcz68_1
                      try clear hcz68_2
                      try clear hcz71_0
                      try clear hcz71_1
                      try clear hcz71_2
                      try clear hcz74_0
                      try clear hcz74_1
                      try clear hcz74_2
                      try clear hcz76_0
                      try clear hcz76_1
                      try clear hcz76_2
                      try clear hcz81_0
                      try clear hcz81_1
                      try clear hcz81_2
                      try clear hcz84_0
                      try clear hcz84_1
                      try clear hcz84_2
                      try clear hcz90_0
                      try clear hcz90_1
                      try clear hcz90_2
                      try clear hcz93_0
                      try clear hcz93_1
                      try clear hcz93_2
                      try clear hfz12_0
                      try clear hfz12_1
                      try clear hfz12_2
                      try clear hfz13_0
                      try clear hfz13_1
                      try clear hfz13_2
                      try clear hfz18_0
                      try clear hfz18_1
                      try clear hfz18_2
                      try clear hfz20_0
                      try clear hfz20_1
                      try clear hfz20_2
                      try clear hfz25_0
                      try clear hfz25_1
                      try clear hfz25_2
                      try clear hfz26_0
                      try clear hfz26_1
                      try clear hfz26_2
                      try clear hfz28_0
                      try clear hfz28_1
                      try clear hfz28_2
                      try clear hfz29_0
                      try clear hfz29_1
                      try clear hfz29_2
                      try clear hfz38_0
                      try clear hfz38_1
                      try clear hfz38_2
                      try clear hfz41_0
                      try clear hfz41_1
                      try clear hfz41_2
                      try clear hfz46_0
                      try clear hfz46_1
                      try clear hfz46_2
                      try clear hfz50_0
                      try clear hfz50_1
                      try clear hfz50_2
                      try clear hfz51_0
                      try clear hfz51_1
                      try clear hfz51_2
                      try clear hfz56_0
                      try clear hfz56_1
                      try clear hfz56_2
                      try clear hfz57_0
                      try clear hfz57_1
                      try clear hfz57_2
                      try clear hfz68_0
                      try clear hfz68_1
                      try clear hfz68_2
                      try clear hfz71_0
                      try clear hfz71_1
                      try clear hfz71_2
                      try clear hfz74_0
                      try clear hfz74_1
                      try clear hfz74_2
                      try clear hfz76_0
                      try clear hfz76_1
                      try clear hfz76_2
                      try clear hfz81_0
                      try clear hfz81_1
                      try clear hfz81_2
                      try clear hfz84_0
                      try clear hfz84_1
                      try clear hfz84_2
                      try clear hfz90_0
                      try clear hfz90_1
                      try clear hfz90_2
                      try clear hfz93_0
                      try clear hfz93_1
                      try clear hfz93_2
                      try clear hx298_0
                      try clear hx298_1
                      try clear hx298_2
                      try clear hx299_0
                      try clear hx299_1
                      try clear hx299_2
                      try clear p2
                      try clear p29
                      try clear p298
                      try clear p299
                      try clear p6
                      try clear p64
                      try clear q2
                      try clear q29
                      try clear q298
                      try clear q299
                      obtain ⟨x20_4, rfl, HA, HK4, HO_12, HO_19, BK290, BK291, BK300, BK301, HB⟩ := hrel
                      cases gk with
                      | zero => exact absurd HA.out (by simp [ambidexterlaw28_BrakingStoppingDistance.l1])
                      | succ k4 =>
                        have H := HA.out
                        clear HA
                        simp only [ambidexterlaw28_BrakingStoppingDistance.l1] at H
                        by_cases c96 : x20_4 < (t294.length : Int)
                        · rw [if_pos c96] at H
                          have c96b0 : decide (x20_4 < (t294.length : Int)) = true := decide_eq_true c96
                          clear c96
                          by_cases c97 : 0 ≤ x20_4
                          · rw [if_pos c97] at H
                            have c97b0 : decide (0 ≤ x20_4) = true := decide_eq_true c97
                            clear c97
                            by_cases c98 : x20_4 < (t302.length : Int)
                            · rw [if_pos c98] at H
                              have c98b0 : decide (x20_4 < (t302.length : Int)) = true := decide_eq_true c98
                              clear c98
                              by_cases c99 : ((rd_T37 t302 x20_4).f0) = (wrap64 (((rd_T37 t294 x20_4).f0) + (wrap64 (a3))))
                              · rw [if_pos c99] at H
                                have c99b0 : (((rd_T37 t302 x20_4).f0) == (wrap64 (((rd_T37 t294 x20_4).f0) + (wrap64 (a3))))) = true := beq_iff_eq.mpr c99
                                have c99b1 : (((rd_T37 t302 x20_4).f0) != (wrap64 (((rd_T37 t294 x20_4).f0) + (wrap64 (a3))))) = false := bne_eq_false_iff_eq.mpr c99
                                clear c99
                                by_cases c100 : ((rd_T37 t302 x20_4).f1) = ((rd_T37 t294 x20_4).f1)
                                · rw [if_pos c100] at H
                                  have c100b0 : (((rd_T37 t302 x20_4).f1) == ((rd_T37 t294 x20_4).f1)) = true := beq_iff_eq.mpr c100
                                  have c100b1 : (((rd_T37 t302 x20_4).f1) != ((rd_T37 t294 x20_4).f1)) = false := bne_eq_false_iff_eq.mpr c100
                                  clear c100
                                  by_cases c101 : ((rd_T37 t302 x20_4).f2) = ((rd_T37 t294 x20_4).f2)
                                  · rw [if_pos c101] at H
                                    have c101b0 : (((rd_T37 t302 x20_4).f2) == ((rd_T37 t294 x20_4).f2)) = true := beq_iff_eq.mpr c101
                                    have c101b1 : (((rd_T37 t302 x20_4).f2) != ((rd_T37 t294 x20_4).f2)) = false := bne_eq_false_iff_eq.mpr c101
                                    clear c101
                                    have H' := Aside0.mk H
                                    clear H
                                    obtain ⟨Ao102, co102, eo102⟩ := Kd.R_slice HO_19.out
                                    subst eo102
                                    have p307 : 0 ≤ (x20_4 : Int) := of_decide_eq_true (by first | (with_reducible assumption) | assumption)
                                    have q307 : x20_4 < (t302.length : Int) := of_decide_eq_true (by first | (with_reducible assumption) | assumption)
                                    obtain ⟨ad307, e307, hx307_0, hx307_1, hx307_2⟩ := at_T37 (Kd.R_reads' HO_19.out).2.2 x20_4 p307 q307
                                    cases e307
                                    replace p307 := eq_true p307
                                    replace q307 := eq_true q307
                                    have p308 : 0 ≤ (x20_4 : Int) := of_decide_eq_true (by first | (with_reducible assumption) | assumption)
                                    have q308 : x20_4 < (t294.length : Int) := of_decide_eq_true (by first | (with_reducible assumption) | assumption)
                                    obtain ⟨ad308, e308, hx308_0, hx308_1, hx308_2⟩ := at_T37 (Kd.R_reads' HO_12.out).2.2 x20_4 p308 q308
                                    cases e308
                                    replace p308 := eq_true p308
                                    replace q308 := eq_true q308
                                    have p309 : 0 ≤ (x20_4 : Int) := of_decide_eq_true (by first | (with_reducible assumption) | assumption)
                                    have q309 : x20_4 < (t302.length : Int) := of_decide_eq_true (by first | (with_reducible assumption) | assumption)
                                    obtain ⟨ad309, e309, hx309_0, hx309_1, hx309_2⟩ := at_T37 (Kd.R_reads' HO_19.out).2.2 x20_4 p309 q309
                                    obtain rfl : ad307 = ad309 := (by injection e309)
                                    replace p309 := eq_true p309
                                    replace q309 := eq_true q309
                                    have p310 : 0 ≤ (x20_4 : Int) := of_decide_eq_true (by first | (with_reducible assumption) | assumption)
                                    have q310 : x20_4 < (t294.length : Int) := of_decide_eq_true (by first | (with_reducible assumption) | assumption)
                                    obtain ⟨ad310, e310, hx310_0, hx310_1, hx310_2⟩ := at_T37 (Kd.R_reads' HO_12.out).2.2 x20_4 p310 q310
                                    obtain rfl : ad308 = ad310 := (by injection e310)
                                    replace p310 := eq_true p310
                                    replace q310 := eq_true q310
                                    have p311 : 0 ≤ (x20_4 : Int) := of_decide_eq_true (by first | (with_reducible assumption) | assumption)
                                    have q311 : x20_4 < (t302.length : Int) := of_decide_eq_true (by first | (with_reducible assumption) | assumption)
                                    obtain ⟨ad311, e311, hx311_0, hx311_1, hx311_2⟩ := at_T37 (Kd.R_reads' HO_19.out).2.2 x20_4 p311 q311
                                    obtain rfl : ad307 = ad311 := (by injection e311)
                                    replace p311 := eq_true p311
                                    replace q311 := eq_true q311
                                    have p312 : 0 ≤ (x20_4 : Int) := of_decide_eq_true (by first | (with_reducible assumption) | assumption)
                                    have q312 : x20_4 < (t294.length : Int) := of_decide_eq_true (by first | (with_reducible assumption) | assumption)
                                    obtain ⟨ad312, e312, hx312_0, hx312_1, hx312_2⟩ := at_T37 (Kd.R_reads' HO_12.out).2.2 x20_4 p312 q312
                                    obtain rfl : ad308 = ad312 := (by injection e312)
                                    replace p312 := eq_true p312
                                    replace q312 := eq_true q312
                                    go_wp2
                                    repeat (go_quiet (fail); try go_wp2)
                                    go_roundg k4
                                    case measure => have := HJ6.out; have := HK2.out; have := HJ42.out; have := HK4.out; omega
                                    case rel => exact ⟨(wrap64 (x20_4 + 1)), (by first | rfl | (simp; done) | (simp [*]; done)), H', ⟨by have := HJ6.out; have := HK2.out; have := HJ42.out; have := HK4.out; omega⟩, ⟨by (with_reducible repeat (first | apply Kd.R_alloc | apply Kd.R_drewN | apply Kd.R_drew)); exact HO_12.out⟩, ⟨by (with_reducible repeat (first | apply Kd.R_alloc | apply Kd.R_drewN | apply Kd.R_drew)); exact HO_19.out⟩, ⟨by (with_reducible repeat (first | refine blk_drewN ?_ _ | refine blk_drew ?_ | refine blk_alloc ?_ _)); exact BK290.out⟩, ⟨by (with_reducible repeat (first | refine blk_drewN ?_ _ | refine blk_drew ?_ | refine blk_alloc ?_ _)); exact BK291.out⟩, ⟨by (with_reducible repeat (first | refine blk_drewN ?_ _ | refine blk_drew ?_ | refine blk_alloc ?_ _)); exact BK300.out⟩, ⟨by (with_reducible repeat (first | refine blk_drewN ?_ _ | refine blk_drew ?_ | refine blk_alloc ?_ _)); exact BK301.out⟩, ⟨by repeat (first | (with_reducible first | exact HB.out | apply below_alloc | apply pw_below_drewN | apply below_drew1 | refine below_set ?_ GE290.out | refine below_set ?_ GE291.out | refine below_set ?_ GE300.out | refine below_set ?_ GE301.out) | exact HB.out)⟩⟩
                                  · rw [if_neg c101] at H
                                    have c101b0 : (((rd_T37 t302 x20_4).f2) == ((rd_T37 t294 x20_4).f2)) = false := beq_eq_false_iff_ne.mpr c101
                                    have c101b1 : (((rd_T37 t302 x20_4).f2) != ((rd_T37 t294 x20_4).f2)) = true := bne_iff_ne.mpr c101
                                    exact absurd HT.out (by rw [← Option.some.inj H]; decide)
                                · rw [if_neg c100] at H
                                  have c100b0 : (((rd_T37 t302 x20_4).f1) == ((rd_T37 t294 x20_4).f1)) = false := beq_eq_false_iff_ne.mpr c100
                                  have c100b1 : (((rd_T37 t302 x20_4).f1) != ((rd_T37 t294 x20_4).f1)) = true := bne_iff_ne.mpr c100
                                  exact absurd HT.out (by rw [← Option.some.inj H]; decide)
                              · rw [if_neg c99] at H
                                have c99b0 : (((rd_T37 t302 x20_4).f0) == (wrap64 (((rd_T37 t294 x20_4).f0) + (wrap64 (a3))))) = false := beq_eq_false_iff_ne.mpr c99
                                have c99b1 : (((rd_T37 t302 x20_4).f0) != (wrap64 (((rd_T37 t294 x20_4).f0) + (wrap64 (a3))))) = true := bne_iff_ne.mpr c99
                                exact absurd HT.out (by rw [← Option.some.inj H]; decide)
                            · rw [if_neg c98] at H
                              exact absurd H (by simp)
                          · rw [if_neg c97] at H
                            exact absurd H (by simp)
                        · rw [if_neg c96] at H
                          have c96b0 : decide (x20_4 < (t294.length : Int)) = false := decide_eq_false c96
                          clear c96
                          have H1 : (if (Int.tmod (wrap64 (a2)) 3) > 0 then (some true) else ((braking_Distance.f k4 a0_0 a0_1 a0_2 (wrap64 (-a1_0)) (wrap64 (-a1_1)) (wrap64 (-a1_2)) (Int.tmod (wrap64 (a2)) 3)).bind fun t313 => (some (t313 == t297)))) = some r := by first | (rw [if_pos rfl] at H; exact H) | (rw [if_pos True.intro] at H; exact H)
                          clear H
                          have H := H1
                          clear H1
                          by_cases c103 : (Int.tmod (wrap64 (a2)) 3) > 0
                          · rw [if_pos c103] at H
                            have c103b0 : decide (0 < (Int.tmod (wrap64 (a2)) 3)) = true := decide_eq_true c103
                            clear c103
                            obtain rfl := Option.some.inj H
                            go_wp2
                            repeat (go_quiet (fail); try go_wp2)
                            go_ret
                            exact ⟨by first | rfl | (simp [errW_none, errW_some] <;> rfl) | (simp [*, errW_none, errW_some] <;> rfl), by repeat (first | (with_reducible first | exact HB.out | apply below_alloc | apply pw_below_drewN | apply below_drew1 | refine below_set ?_ GE290.out | refine below_set ?_ GE291.out | refine below_set ?_ GE300.out | refine below_set ?_ GE301.out) | exact HB.out)⟩
                          · rw [if_neg c103] at H
                            have c103b0 : decide (0 < (Int.tmod (wrap64 (a2)) 3)) = false := decide_eq_false c103
                            clear c103
                            replace H := Option.bind_eq_some_iff.mp H
                            obtain ⟨t313, A1040, H⟩ := H
                            replace H : (some (t313 == t297)) = some r := H
                            have A104 := Aside0.mk A1040
                            clear A1040
                            obtain rfl := Option.some.inj H
                            have hnb105 := NB290_291.out
                            have hnc105 := NB291_290.out
                            have hnb106 := NB290_300.out
                            have hnc106 := NB300_290.out
                            have hnb107 := NB290_301.out
                            have hnc107 := NB301_290.out
                            have hcz108_0 : wr.cell? ⟨gb290, 0, none⟩ = some (.int .i64 a0_0) := (blk_cell BK290.out 0).trans rfl
                            have hcz108_1 : wr.cell? ⟨gb290, 1, none⟩ = some (.int .i64 a0_1) := (blk_cell BK290.out 1).trans rfl
                            have hcz108_2 : wr.cell? ⟨gb290, 2, none⟩ = some (.int .i64 a0_2) := (blk_cell BK290.out 2).trans rfl
                            have hfz108_0 := blk_frozen BK290.out 0
                            have hfz108_1 := blk_frozen BK290.out 1
                            have hfz108_2 := blk_frozen BK290.out 2
                            have hnb109 := NB300_291.out
                            have hnc109 := NB291_300.out
                            have hnb110 := NB300_301.out
                            have hnc110 := NB301_300.out
                            have hcz111_0 : wr.cell? ⟨gb300, 0, none⟩ = some (.int .i64 (wrap64 (-a1_0))) := (blk_cell BK300.out 0).trans rfl
                            have hcz111_1 : wr.cell? ⟨gb300, 1, none⟩ = some (.int .i64 (wrap64 (-a1_1))) := (blk_cell BK300.out 1).trans rfl
                            have hcz111_2 : wr.cell? ⟨gb300, 2, none⟩ = some (.int .i64 (wrap64 (-a1_2))) := (blk_cell BK300.out 2).trans rfl
                            have hfz111_0 := blk_frozen BK300.out 0
                            have hfz111_1 := blk_frozen BK300.out 1
                            have hfz111_2 := blk_frozen BK300.out 2
                            go_wp2_with (first | (go_at_call 31; (with_reducible refine (braking_Distance.calls k4 a0_0 a0_1 a0_2 (wrap64 (-a1_0)) (wrap64 (-a1_1)) (wrap64 (-a1_2)) (Int.tmod (wrap64 (a2)) 3) t313 _ A104.out).mono ?_); rintro e w112 ⟨rfl, hb⟩; have n0_ := Aside0.mk (Kd.R_below (by (with_reducible repeat (first | apply Kd.R_alloc | apply Kd.R_drewN | apply Kd.R_drew)); exact HO_12.out) hb); have n1_ := Aside0.mk (Kd.R_below (by (with_reducible repeat (first | apply Kd.R_alloc | apply Kd.R_drewN | apply Kd.R_drew)); exact HO_19.out) hb); have n2_ := Aside0.mk (blk_below (g := gb290) (o := .cells #[.int .i64 a0_0, .int .i64 a0_1, .int .i64 a0_2] 23 (0, 0)) (by (with_reducible repeat (first | refine blk_drewN ?_ _ | refine blk_drew ?_ | refine blk_alloc ?_ _)); exact BK290.out) hb); have n3_ := Aside0.mk (blk_below (g := gb291) (o := .cells #[.int .i64 a1_0, .int .i64 a1_1, .int .i64 a1_2] 37 (0, 0)) (by (with_reducible repeat (first | refine blk_drewN ?_ _ | refine blk_drew ?_ | refine blk_alloc ?_ _)); exact BK291.out) hb); have n4_ := Aside0.mk (blk_below (g := gb300) (o := .cells #[.int .i64 (wrap64 (-a1_0)), .int .i64 (wrap64 (-a1_1)), .int .i64 (wrap64 (-a1_2))] 37 (0, 0)) (by (with_reducible repeat (first | refine blk_drewN ?_ _ | refine blk_drew ?_ | refine blk_alloc ?_ _)); exact BK300.out) hb); have n5_ := Aside0.mk (blk_below (g := gb301) (o := .cells #[.int .i64 (wrap64 (a1_0 + (wrap64 (a3)))), .int .i64 a1_1, .int .i64 a1_2] 37 (0, 0)) (by (with_reducible repeat (first | refine blk_drewN ?_ _ | refine blk_drew ?_ | refine blk_alloc ?_ _)); exact BK301.out) hb); have n6_ := Aside0.mk (below_step (by repeat (first | (with_reducible first | exact HB.out | apply below_alloc | apply pw_below_drewN | apply below_drew1 | refine below_set ?_ GE290.out | refine below_set ?_ GE291.out | refine below_set ?_ GE300.out | refine below_set ?_ GE301.out) | exact HB.out)) hb); clear HO_12; clear HO_19; clear BK290; clear BK291; clear BK300; clear BK301; clear HB; have HO_12 := n0_; have HO_19 := n1_; have BK290 := n2_; have BK291 := n3_; have BK300 := n4_; have BK301 := n5_; have HB := n6_; clear n0_ n1_ n2_ n3_ n4_ n5_ n6_; (try clear hb); (try clear hb2); (try clear hk); (try clear hi)))
                            repeat (go_quiet (first | (go_at_call 31; (with_reducible refine (braking_Distance.calls k4 a0_0 a0_1 a0_2 (wrap64 (-a1_0)) (wrap64 (-a1_1)) (wrap64 (-a1_2)) (Int.tmod (wrap64 (a2)) 3) t313 _ A104.out).mono ?_); rintro e w112 ⟨rfl, hb⟩; have n0_ := Aside0.mk (Kd.R_below (by (with_reducible repeat (first | apply Kd.R_alloc | apply Kd.R_drewN | apply Kd.R_drew)); exact HO_12.out) hb); have n1_ := Aside0.mk (Kd.R_below (by (with_reducible repeat (first | apply Kd.R_alloc | apply Kd.R_drewN | apply Kd.R_drew)); exact HO_19.out) hb); have n2_ := Aside0.mk (blk_below (g := gb290) (o := .cells #[.int .i64 a0_0, .int .i64 a0_1, .int .i64 a0_2] 23 (0, 0)) (by (with_reducible repeat (first | refine blk_drewN ?_ _ | refine blk_drew ?_ | refine blk_alloc ?_ _)); exact BK290.out) hb); have n3_ := Aside0.mk (blk_below (g := gb291) (o := .cells #[.int .i64 a1_0, .int .i64 a1_1, .int .i64 a1_2] 37 (0, 0)) (by (with_reducible repeat (first | refine blk_drewN ?_ _ | refine blk_drew ?_ | refine blk_alloc ?_ _)); exact BK291.out) hb); have n4_ := Aside0.mk (blk_below (g := gb300) (o := .cells #[.int .i64 (wrap64 (-a1_0)), .int .i64 (wrap64 (-a1_1)), .int .i64 (wrap64 (-a1_2))] 37 (0, 0)) (by (with_reducible repeat (first | refine blk_drewN ?_ _ | refine blk_drew ?_ | refine blk_alloc ?_ _)); exact BK300.out) hb); have n5_ := Aside0.mk (blk_below (g := gb301) (o := .cells #[.int .i64 (wrap64 (a1_0 + (wrap64 (a3)))), .int .i64 a1_1, .int .i64 a1_2] 37 (0, 0)) (by (with_reducible repeat (first | refine blk_drewN ?_ _ | refine blk_drew ?_ | refine blk_alloc ?_ _)); exact BK301.out) hb); have n6_ := Aside0.mk (below_step (by repeat (first | (with_reducible first | exact HB.out | apply below_alloc | apply pw_below_drewN | apply below_drew1 | refine below_set ?_ GE290.out | refine below_set ?_ GE291.out | refine below_set ?_ GE300.out | refine below_set ?_ GE301.out) | exact HB.out)) hb); clear HO_12; clear HO_19; clear BK290; clear BK291; clear BK300; clear BK301; clear HB; have HO_12 := n0_; have HO_19 := n1_; have BK290 := n2_; have BK291 := n3_; have BK300 := n4_; have BK301 := n5_; have HB := n6_; clear n0_ n1_ n2_ n3_ n4_ n5_ n6_; (try clear hb); (try clear hb2); (try clear hk); (try clear hi))); try go_wp2_with (first | (go_at_call 31; (with_reducible refine (braking_Distance.calls k4 a0_0 a0_1 a0_2 (wrap64 (-a1_0)) (wrap64 (-a1_1)) (wrap64 (-a1_2)) (Int.tmod (wrap64 (a2)) 3) t313 _ A104.out).mono ?_); rintro e w112 ⟨rfl, hb⟩; have n0_ := Aside0.mk (Kd.R_below (by (with_reducible repeat (first | apply Kd.R_alloc | apply Kd.R_drewN | apply Kd.R_drew)); exact HO_12.out) hb); have n1_ := Aside0.mk (Kd.R_below (by (with_reducible repeat (first | apply Kd.R_alloc | apply Kd.R_drewN | apply Kd.R_drew)); exact HO_19.out) hb); have n2_ := Aside0.mk (blk_below (g := gb290) (o := .cells #[.int .i64 a0_0, .int .i64 a0_1, .int .i64 a0_2] 23 (0, 0)) (by (with_reducible repeat (first | refine blk_drewN ?_ _ | refine blk_drew ?_ | refine blk_alloc ?_ _)); exact BK290.out) hb); have n3_ := Aside0.mk (blk_below (g := gb291) (o := .cells #[.int .i64 a1_0, .int .i64 a1_1, .int .i64 a1_2] 37 (0, 0)) (by (with_reducible repeat (first | refine blk_drewN ?_ _ | refine blk_drew ?_ | refine blk_alloc ?_ _)); exact BK291.out) hb); have n4_ := Aside0.mk (blk_below (g := gb300) (o := .cells #[.int .i64 (wrap64 (-a1_0)), .int .i64 (wrap64 (-a1_1)), .int .i64 (wrap64 (-a1_2))] 37 (0, 0)) (by (with_reducible repeat (first | refine blk_drewN ?_ _ | refine blk_drew ?_ | refine blk_alloc ?_ _)); exact BK300.out) hb); have n5_ := Aside0.mk (blk_below (g := gb301) (o := .cells #[.int .i64 (wrap64 (a1_0 + (wrap64 (a3)))), .int .i64 a1_1, .int .i64 a1_2] 37 (0, 0)) (by (with_reducible repeat (first | refine blk_drewN ?_ _ | refine blk_drew ?_ | refine blk_alloc ?_ _)); exact BK301.out) hb); have n6_ := Aside0.mk (below_step (by repeat (first | (with_reducible first | exact HB.out | apply below_alloc | apply pw_below_drewN | apply below_drew1 | refine below_set ?_ GE290.out | refine below_set ?_ GE291.out | refine below_set ?_ GE300.out | refine below_set ?_ GE301.out) | exact HB.out)) hb); clear HO_12; clear HO_19; clear BK290; clear BK291; clear BK300; clear BK301; clear HB; have HO_12 := n0_; have HO_19 := n1_; have BK290 := n2_; have BK291 := n3_; have BK300 := n4_; have BK301 := n5_; have HB := n6_; clear n0_ n1_ n2_ n3_ n4_ n5_ n6_; (try clear hb); (try clear hb2); (try clear hk); (try clear hi))))
                            go_ret
                            exact ⟨by first | rfl | (simp [errW_none, errW_some] <;> rfl) | (simp [*, errW_none, errW_some] <;> rfl), by repeat (first | (with_reducible first | exact HB.out | apply below_alloc | apply pw_below_drewN | apply below_drew1 | refine below_set ?_ GE290.out | refine below_set ?_ GE291.out | refine below_set ?_ GE300.out | refine below_set ?_ GE301.out) | exact HB.out)⟩

end Go.Proofs.Ytjcefdockfbnaaa.P
