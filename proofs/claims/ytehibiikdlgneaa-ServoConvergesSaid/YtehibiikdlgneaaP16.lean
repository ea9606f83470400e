-- Written by this session's own program, for this seat. Lean checks it.
import Derived.Test.YtehibiikdlgneaaP0
import Derived.Test.YtehibiikdlgneaaP11
import Derived.Test.YtehibiikdlgneaaP12
namespace Go.Proofs.Ytehibiikdlgneaa.P
open Go.RowKit Go.Proofs.YtehibiikdlgneaaW.PrintWords Go.Proofs.YtehibiikdlgneaaW.PrintLast Go.Proofs.YtehibiikdlgneaaW.PrintMore
attribute [local go_sem] max2_int min2_int max_two min_two max_three min_three max_four min_four   -- for this text's walks alone
set_option linter.unusedVariables false
set_option linter.unusedSimpArgs false

/-! ### ambidexterlaw25_ServoConverges: function 11 -/
mutual
def ambidexterlaw25_ServoConverges.j0 : Nat → Int → Int → Bool → Int → Int → Int → Int → Int → Int → Int → Bool → Option (Bool)
  | 0, _, _, _, _, _, _, _, _, _, _, _ => none
  | k + 1, x1, x2, x7, x8, x9, x11, x521000, x521001, x521002, x521003, x521004 => ambidexterlaw25_ServoConverges.l0 k x1 x2 x7 x8 x9 (wrap64 ((wrap64 (Int.tdiv x11 128)) + 2)) 0 x521000 x521001 x521002 x521003 x521004
def ambidexterlaw25_ServoConverges.l0 : Nat → Int → Int → Bool → Int → Int → Int → Int → Int → Int → Int → Int → Bool → Option (Bool)
  | 0, _, _, _, _, _, _, _, _, _, _, _, _ => none
  | k + 1, x1, x2, x7, x8, x9, x12, x13, x521000, x521001, x521002, x521003, x521004 => if x13 < 8000 then (ambidexterlaw25_ServoConverges.j2 k x1 x2 x7 x8 x9 x12 x13 (decide (x13 < (wrap64 (x12 + (wrap64 (x2)))))) x521000 x521001 x521002 x521003 x521004) else (ambidexterlaw25_ServoConverges.j2 k x1 x2 x7 x8 x9 x12 x13 false x521000 x521001 x521002 x521003 x521004)
def ambidexterlaw25_ServoConverges.j2 : Nat → Int → Int → Bool → Int → Int → Int → Int → Bool → Int → Int → Int → Int → Bool → Option (Bool)
  | 0, _, _, _, _, _, _, _, _, _, _, _, _, _ => none
  | k + 1, x1, x2, x7, x8, x9, x12, x13, x45, x521000, x521001, x521002, x521003, x521004 => if x45 = true then ((ambidexterref24_Quant.f x8).bind fun t521 => ((servo_Step.f x521000 x521001 x521002 x521003 x521004 1 t521 (wrap64 (x1))).bind fun bt522 => (if (wrap64 (x9 - x8)) > 140 then (if bt522.2.2.2.2.2 = 128 then (if (wrap64 (x9 - x8)) < (-140) then (ambidexterlaw25_ServoConverges.j3 k x1 x2 x7 (wrap64 (x8 + bt522.2.2.2.2.2)) x9 x12 x13 (bt522.2.2.2.2.2 != (-128)) bt522.1 bt522.2.1 bt522.2.2.1 bt522.2.2.2.1 bt522.2.2.2.2.1) else (ambidexterlaw25_ServoConverges.j3 k x1 x2 x7 (wrap64 (x8 + bt522.2.2.2.2.2)) x9 x12 x13 false bt522.1 bt522.2.1 bt522.2.2.1 bt522.2.2.2.1 bt522.2.2.2.2.1)) else (ambidexterlaw25_ServoConverges.j3 k x1 x2 x7 (wrap64 (x8 + bt522.2.2.2.2.2)) x9 x12 x13 true bt522.1 bt522.2.1 bt522.2.2.1 bt522.2.2.2.1 bt522.2.2.2.2.1)) else (if (wrap64 (x9 - x8)) < (-140) then (ambidexterlaw25_ServoConverges.j3 k x1 x2 x7 (wrap64 (x8 + bt522.2.2.2.2.2)) x9 x12 x13 (bt522.2.2.2.2.2 != (-128)) bt522.1 bt522.2.1 bt522.2.2.1 bt522.2.2.2.1 bt522.2.2.2.2.1) else (ambidexterlaw25_ServoConverges.j3 k x1 x2 x7 (wrap64 (x8 + bt522.2.2.2.2.2)) x9 x12 x13 false bt522.1 bt522.2.1 bt522.2.2.1 bt522.2.2.2.1 bt522.2.2.2.2.1))))) else (some x7)
def ambidexterlaw25_ServoConverges.j3 : Nat → Int → Int → Bool → Int → Int → Int → Int → Bool → Int → Int → Int → Int → Bool → Option (Bool)
  | 0, _, _, _, _, _, _, _, _, _, _, _, _, _ => none
  | k + 1, x1, x2, x7, x8, x9, x12, x13, x77, x521000, x521001, x521002, x521003, x521004 => if x77 = true then (some false) else (if x13 ≥ x12 then ((ambidexterref24_Quant.f x8).bind fun t529 => (if t529 = (wrap64 (x1)) then (ambidexterlaw25_ServoConverges.l0 k x1 x2 x7 x8 x9 x12 (wrap64 (x13 + 1)) x521000 x521001 x521002 x521003 x521004) else (some false))) else (ambidexterlaw25_ServoConverges.l0 k x1 x2 x7 x8 x9 x12 (wrap64 (x13 + 1)) x521000 x521001 x521002 x521003 x521004))
end
def ambidexterlaw25_ServoConverges.f (k : Nat) (a0 : Int) (a1 : Int) (a2 : Int) : Option (Bool) := (ambidexterlaw25_head.f).bind fun t514 => ((servo_New.f (wrap64 (a0))).bind fun bt515 => (if (wrap64 ((wrap64 ((wrap64 (16 * (wrap64 (a1)))) + 8)) - (wrap64 (a0)))) < 0 then (ambidexterlaw25_ServoConverges.j0 k a1 a2 t514 (wrap64 (a0)) (wrap64 ((wrap64 (16 * (wrap64 (a1)))) + 8)) (wrap64 (-(wrap64 ((wrap64 ((wrap64 (16 * (wrap64 (a1)))) + 8)) - (wrap64 (a0)))))) bt515.1 bt515.2.1 bt515.2.2.1 bt515.2.2.2.1 bt515.2.2.2.2) else (ambidexterlaw25_ServoConverges.j0 k a1 a2 t514 (wrap64 (a0)) (wrap64 ((wrap64 (16 * (wrap64 (a1)))) + 8)) (wrap64 ((wrap64 ((wrap64 (16 * (wrap64 (a1)))) + 8)) - (wrap64 (a0)))) bt515.1 bt515.2.1 bt515.2.2.1 bt515.2.2.2.1 bt515.2.2.2.2)))
theorem ambidexterlaw25_ServoConverges.mono_l : ∀ k, (∀ y0 y1 y2 y3 y4 y5 y6 y7 y8 y9 y10, LeO (ambidexterlaw25_ServoConverges.j0 k y0 y1 y2 y3 y4 y5 y6 y7 y8 y9 y10) (ambidexterlaw25_ServoConverges.j0 (k + 1) y0 y1 y2 y3 y4 y5 y6 y7 y8 y9 y10)) ∧ (∀ y0 y1 y2 y3 y4 y5 y6 y7 y8 y9 y10 y11, LeO (ambidexterlaw25_ServoConverges.l0 k y0 y1 y2 y3 y4 y5 y6 y7 y8 y9 y10 y11) (ambidexterlaw25_ServoConverges.l0 (k + 1) y0 y1 y2 y3 y4 y5 y6 y7 y8 y9 y10 y11)) ∧ (∀ y0 y1 y2 y3 y4 y5 y6 y7 y8 y9 y10 y11 y12, LeO (ambidexterlaw25_ServoConverges.j2 k y0 y1 y2 y3 y4 y5 y6 y7 y8 y9 y10 y11 y12) (ambidexterlaw25_ServoConverges.j2 (k + 1) y0 y1 y2 y3 y4 y5 y6 y7 y8 y9 y10 y11 y12)) ∧ (∀ y0 y1 y2 y3 y4 y5 y6 y7 y8 y9 y10 y11 y12, LeO (ambidexterlaw25_ServoConverges.j3 k y0 y1 y2 y3 y4 y5 y6 y7 y8 y9 y10 y11 y12) (ambidexterlaw25_ServoConverges.j3 (k + 1) y0 y1 y2 y3 y4 y5 y6 y7 y8 y9 y10 y11 y12))
  | 0 => ⟨fun _ _ _ _ _ _ _ _ _ _ _ r h => by simp [ambidexterlaw25_ServoConverges.j0] at h, fun _ _ _ _ _ _ _ _ _ _ _ _ r h => by simp [ambidexterlaw25_ServoConverges.l0] at h, fun _ _ _ _ _ _ _ _ _ _ _ _ _ r h => by simp [ambidexterlaw25_ServoConverges.j2] at h, fun _ _ _ _ _ _ _ _ _ _ _ _ _ r h => by simp [ambidexterlaw25_ServoConverges.j3] at h⟩
  | k + 1 => by
    obtain ⟨ih0, ih1, ih2, ih3⟩ := ambidexterlaw25_ServoConverges.mono_l k
    refine ⟨?_, ?_, ?_, ?_⟩
    · intro y0 y1 y2 y3 y4 y5 y6 y7 y8 y9 y10
      unfold ambidexterlaw25_ServoConverges.j0
      repeat' first
      | (with_reducible exact ih0 _ _ _ _ _ _ _ _ _ _ _)
      | (with_reducible exact ih1 _ _ _ _ _ _ _ _ _ _ _ _)
      | (with_reducible exact ih2 _ _ _ _ _ _ _ _ _ _ _ _ _)
      | (with_reducible exact ih3 _ _ _ _ _ _ _ _ _ _ _ _ _)
      | (with_reducible exact LeO.refl _)
      | (with_reducible exact LeO.none _)
      | (with_reducible refine LeO.ite ?_ ?_)
      | (with_reducible refine LeO.bind ?_ (fun _ => ?_))
      | exact ih0 _ _ _ _ _ _ _ _ _ _ _
      | exact ih1 _ _ _ _ _ _ _ _ _ _ _ _
      | exact ih2 _ _ _ _ _ _ _ _ _ _ _ _ _
      | exact ih3 _ _ _ _ _ _ _ _ _ _ _ _ _
      | exact LeO.none _
      | refine LeO.ite ?_ ?_
      | refine LeO.bind ?_ (fun _ => ?_)
    · intro y0 y1 y2 y3 y4 y5 y6 y7 y8 y9 y10 y11
      unfold ambidexterlaw25_ServoConverges.l0
      repeat' first
      | (with_reducible exact ih0 _ _ _ _ _ _ _ _ _ _ _)
      | (with_reducible exact ih1 _ _ _ _ _ _ _ _ _ _ _ _)
      | (with_reducible exact ih2 _ _ _ _ _ _ _ _ _ _ _ _ _)
      | (with_reducible exact ih3 _ _ _ _ _ _ _ _ _ _ _ _ _)
      | (with_reducible exact LeO.refl _)
      | (with_reducible exact LeO.none _)
      | (with_reducible refine LeO.ite ?_ ?_)
      | (with_reducible refine LeO.bind ?_ (fun _ => ?_))
      | exact ih0 _ _ _ _ _ _ _ _ _ _ _
      | exact ih1 _ _ _ _ _ _ _ _ _ _ _ _
      | exact ih2 _ _ _ _ _ _ _ _ _ _ _ _ _
      | exact ih3 _ _ _ _ _ _ _ _ _ _ _ _ _
      | exact LeO.none _
      | refine LeO.ite ?_ ?_
      | refine LeO.bind ?_ (fun _ => ?_)
    · intro y0 y1 y2 y3 y4 y5 y6 y7 y8 y9 y10 y11 y12
      unfold ambidexterlaw25_ServoConverges.j2
      repeat' first
      | (with_reducible exact ih0 _ _ _ _ _ _ _ _ _ _ _)
      | (with_reducible exact ih1 _ _ _ _ _ _ _ _ _ _ _ _)
      | (with_reducible exact ih2 _ _ _ _ _ _ _ _ _ _ _ _ _)
      | (with_reducible exact ih3 _ _ _ _ _ _ _ _ _ _ _ _ _)
      | (with_reducible exact LeO.refl _)
      | (with_reducible exact LeO.none _)
      | (with_reducible refine LeO.ite ?_ ?_)
      | (with_reducible refine LeO.bind ?_ (fun _ => ?_))
      | exact ih0 _ _ _ _ _ _ _ _ _ _ _
      | exact ih1 _ _ _ _ _ _ _ _ _ _ _ _
      | exact ih2 _ _ _ _ _ _ _ _ _ _ _ _ _
      | exact ih3 _ _ _ _ _ _ _ _ _ _ _ _ _
      | exact LeO.none _
      | refine LeO.ite ?_ ?_
      | refine LeO.bind ?_ (fun _ => ?_)
    · intro y0 y1 y2 y3 y4 y5 y6 y7 y8 y9 y10 y11 y12
      unfold ambidexterlaw25_ServoConverges.j3
      repeat' first
      | (with_reducible exact ih0 _ _ _ _ _ _ _ _ _ _ _)
      | (with_reducible exact ih1 _ _ _ _ _ _ _ _ _ _ _ _)
      | (with_reducible exact ih2 _ _ _ _ _ _ _ _ _ _ _ _ _)
      | (with_reducible exact ih3 _ _ _ _ _ _ _ _ _ _ _ _ _)
      | (with_reducible exact LeO.refl _)
      | (with_reducible exact LeO.none _)
      | (with_reducible refine LeO.ite ?_ ?_)
      | (with_reducible refine LeO.bind ?_ (fun _ => ?_))
      | exact ih0 _ _ _ _ _ _ _ _ _ _ _
      | exact ih1 _ _ _ _ _ _ _ _ _ _ _ _
      | exact ih2 _ _ _ _ _ _ _ _ _ _ _ _ _
      | exact ih3 _ _ _ _ _ _ _ _ _ _ _ _ _
      | exact LeO.none _
      | refine LeO.ite ?_ ?_
      | refine LeO.bind ?_ (fun _ => ?_)
theorem ambidexterlaw25_ServoConverges.mono : ∀ a0 a1 a2 k, LeO (ambidexterlaw25_ServoConverges.f k a0 a1 a2) (ambidexterlaw25_ServoConverges.f (k + 1) a0 a1 a2) := by
  intro a0 a1 a2 k
  obtain ⟨ih0, ih1, ih2, ih3⟩ := ambidexterlaw25_ServoConverges.mono_l k
  unfold ambidexterlaw25_ServoConverges.f
  repeat' first
      | (with_reducible exact ih0 _ _ _ _ _ _ _ _ _ _ _)
      | (with_reducible exact ih1 _ _ _ _ _ _ _ _ _ _ _ _)
      | (with_reducible exact ih2 _ _ _ _ _ _ _ _ _ _ _ _ _)
      | (with_reducible exact ih3 _ _ _ _ _ _ _ _ _ _ _ _ _)
      | (with_reducible exact LeO.refl _)
      | (with_reducible exact LeO.none _)
      | (with_reducible refine LeO.ite ?_ ?_)
      | (with_reducible refine LeO.bind ?_ (fun _ => ?_))
      | exact ih0 _ _ _ _ _ _ _ _ _ _ _
      | exact ih1 _ _ _ _ _ _ _ _ _ _ _ _
      | exact ih2 _ _ _ _ _ _ _ _ _ _ _ _ _
      | exact ih3 _ _ _ _ _ _ _ _ _ _ _ _ _
      | exact LeO.none _
      | refine LeO.ite ?_ ?_
      | refine LeO.bind ?_ (fun _ => ?_)
def ambidexterlaw25_ServoConverges.T12 : Bool × List (List Nat × List Nat) := (true, [([], []), ([], []), ([1], [1]), ([], []), ([3], [3]), ([0, 2, 4, 2], [0, 2, 4]), ([5], [5]), ([6], [6]), ([6], [6]), ([], []), ([9, 7, 5, 0, 1, 2, 3, 4, 5, 6, 7, 9], [7, 9]), ([8, 10, 0, 1, 2, 3, 4, 5, 6, 7, 8, 9, 10], [8])])
def ambidexterlaw25_ServoConverges.B12 : List Nat := [0, 0, 2, 0, 8, 31, 63, 127, 127, 0, 767, 2047]
theorem ambidexterlaw25_ServoConverges.tab12 : rtab .any (opsOf Try.f11 12) = ambidexterlaw25_ServoConverges.T12 := by kernel_rfl
theorem ambidexterlaw25_ServoConverges.bits12 : waitsOk ambidexterlaw25_ServoConverges.T12.2 ambidexterlaw25_ServoConverges.B12 = true := by kernel_rfl
set_option maxHeartbeats 8000000 in
set_option maxRecDepth 100000 in
theorem ambidexterlaw25_ServoConverges.calls0 (k : Nat) (a0 : Int) (a1 : Int) (a2 : Int) (r : Bool) (w : World) (h : ambidexterlaw25_ServoConverges.f k a0 a1 a2 = some r) (hT : r = true) :
    Calls Try.prog 11 #[.int .i16 a0, .int .i16 a1, .int .u8 a2] w fun e w' => e = .returned (.bool r) ∧ Below w.heap.size w w' := by
  have hu49 := Try.underlying49
  have HB := Aside0.mk (Below.refl w.heap.size w)
  have H : ((ambidexterlaw25_head.f).bind fun t514 => ((servo_New.f (wrap64 (a0))).bind fun bt515 => (if (wrap64 ((wrap64 ((wrap64 (16 * (wrap64 (a1)))) + 8)) - (wrap64 (a0)))) < 0 then (ambidexterlaw25_ServoConverges.j0 k a1 a2 t514 (wrap64 (a0)) (wrap64 ((wrap64 (16 * (wrap64 (a1)))) + 8)) (wrap64 (-(wrap64 ((wrap64 ((wrap64 (16 * (wrap64 (a1)))) + 8)) - (wrap64 (a0)))))) bt515.1 bt515.2.1 bt515.2.2.1 bt515.2.2.2.1 bt515.2.2.2.2) else (ambidexterlaw25_ServoConverges.j0 k a1 a2 t514 (wrap64 (a0)) (wrap64 ((wrap64 (16 * (wrap64 (a1)))) + 8)) (wrap64 ((wrap64 ((wrap64 (16 * (wrap64 (a1)))) + 8)) - (wrap64 (a0)))) bt515.1 bt515.2.1 bt515.2.2.1 bt515.2.2.2.1 bt515.2.2.2.2)))) = some r := h
  clear h
  have HT := Aside0.mk hT
  clear hT
  replace H := Option.bind_eq_some_iff.mp H
  obtain ⟨t514, A40, H⟩ := H
  obtain rfl := ambidexterlaw25_head.is_true A40
  replace H : ((servo_New.f (wrap64 (a0))).bind fun bt515 => (if (wrap64 ((wrap64 ((wrap64 (16 * (wrap64 (a1)))) + 8)) - (wrap64 (a0)))) < 0 then (ambidexterlaw25_ServoConverges.j0 k a1 a2 true (wrap64 (a0)) (wrap64 ((wrap64 (16 * (wrap64 (a1)))) + 8)) (wrap64 (-(wrap64 ((wrap64 ((wrap64 (16 * (wrap64 (a1)))) + 8)) - (wrap64 (a0)))))) bt515.1 bt515.2.1 bt515.2.2.1 bt515.2.2.2.1 bt515.2.2.2.2) else (ambidexterlaw25_ServoConverges.j0 k a1 a2 true (wrap64 (a0)) (wrap64 ((wrap64 (16 * (wrap64 (a1)))) + 8)) (wrap64 ((wrap64 ((wrap64 (16 * (wrap64 (a1)))) + 8)) - (wrap64 (a0)))) bt515.1 bt515.2.1 bt515.2.2.1 bt515.2.2.2.1 bt515.2.2.2.2))) = some r := H
  have A4 := Aside0.mk A40
  clear A40
  replace H := Option.bind_eq_some_iff.mp H
  obtain ⟨⟨t515, t516, t517, t518, t519⟩, A50, H⟩ := H
  replace H : (if (wrap64 ((wrap64 ((wrap64 (16 * (wrap64 (a1)))) + 8)) - (wrap64 (a0)))) < 0 then (ambidexterlaw25_ServoConverges.j0 k a1 a2 true (wrap64 (a0)) (wrap64 ((wrap64 (16 * (wrap64 (a1)))) + 8)) (wrap64 (-(wrap64 ((wrap64 ((wrap64 (16 * (wrap64 (a1)))) + 8)) - (wrap64 (a0)))))) t515 t516 t517 t518 t519) else (ambidexterlaw25_ServoConverges.j0 k a1 a2 true (wrap64 (a0)) (wrap64 ((wrap64 (16 * (wrap64 (a1)))) + 8)) (wrap64 ((wrap64 ((wrap64 (16 * (wrap64 (a1)))) + 8)) - (wrap64 (a0)))) t515 t516 t517 t518 t519)) = some r := H
  have A5 := Aside0.mk A50
  clear A50
  have HC6 := Aside0.mk H
  clear H
  go_enter Try.func11, Try.ntmps11
  go_upto_if 30 with (first | ((with_reducible refine gate_callee (f := 29) rfl ?_); refine goesL_ (some 17) rfl rfl Try.func29 (by kernel_rfl) rfl #[] rfl (by (try simp only [List.map_toArray, List.map_cons, List.map_nil]); first | done | rfl | (simp only [List.length_drop, List.length_take]; rfl)) ?_; (with_reducible refine (ambidexterlaw25_head.calls  true _ A4.out).mono ?_); rintro e w7 ⟨rfl, hb⟩; refine ⟨_, rfl, ?_⟩; have n0_ := Aside0.mk (below_step (by repeat (first | (with_reducible first | exact HB.out | apply below_alloc | apply pw_below_drewN | apply below_drew1) | exact HB.out)) hb); clear HB; have HB := n0_; clear n0_; (try clear hb); (try clear hb2); (try clear hk); (try clear hi)) | ((with_reducible refine gate_callee (f := 30) rfl ?_); refine goesL_ (some 25) rfl rfl Try.func30 (by kernel_rfl) rfl #[.int .i64 (wrap64 (a0))] rfl (by (try simp only [List.map_toArray, List.map_cons, List.map_nil]); first | done | rfl | (simp only [List.length_drop, List.length_take]; rfl)) ?_; (with_reducible refine (servo_New.calls (wrap64 (a0)) t515 t516 t517 t518 t519 _ A5.out).mono ?_); rintro e w8 ⟨rfl, hb⟩; refine ⟨_, rfl, ?_⟩; have n0_ := Aside0.mk (below_step (by repeat (first | (with_reducible first | exact HB.out | apply below_alloc | apply pw_below_drewN | apply below_drew1) | exact HB.out)) hb); clear HB; have HB := n0_; clear n0_; (try clear hb); (try clear hb2); (try clear hk); (try clear hi)) | ((with_reducible refine gate_dst (N := 10) rfl ?_); refine box_event ?hg (N := 10) ?hd (cs := #[.int .i64 0, .int .i64 0, .int .i64 0, .int .i64 0, .bool false]) (t := 49) ?hr ?_; (case hd => rfl); (case hg => rfl); (case hr => first | (go_simp; done) | (go_simp; rfl)); intro gb520 hg w9 hbox hb; have n0_ := Aside0.mk (below_step (by repeat (first | (with_reducible first | exact HB.out | apply below_alloc | apply pw_below_drewN | apply below_drew1) | exact HB.out)) hb); have n1_ := Aside0.mk (hbox); have n2_ := Aside0.mk ((by rw [hg]; exact (below_size (by repeat (first | (with_reducible first | exact HB.out | apply below_alloc | apply pw_below_drewN | apply below_drew1) | exact HB.out))) : w.heap.size ≤ gb520)); have n3_ := Aside0.mk ((by rw [hg]; exact (below_size (by repeat (first | (with_reducible first | exact HB.out | apply below_alloc | apply pw_below_drewN | apply below_drew1) | exact HB.out))) : w.heap.size ≤ gb520)); clear HB; have HB := n0_; have BK520 := n1_; have GW520 := n2_; have GE520 := n3_; clear n0_ n1_ n2_ n3_; clear hb hbox hg; have hcz10_0 : w9.cell? ⟨gb520, 0, none⟩ = some (.int .i64 0) := (blk_cell BK520.out 0).trans rfl; have hcz10_1 : w9.cell? ⟨gb520, 1, none⟩ = some (.int .i64 0) := (blk_cell BK520.out 1).trans rfl; have hcz10_2 : w9.cell? ⟨gb520, 2, none⟩ = some (.int .i64 0) := (blk_cell BK520.out 2).trans rfl; have hcz10_3 : w9.cell? ⟨gb520, 3, none⟩ = some (.int .i64 0) := (blk_cell BK520.out 3).trans rfl; have hcz10_4 : w9.cell? ⟨gb520, 4, none⟩ = some (.bool false) := (blk_cell BK520.out 4).trans rfl; have hfz10_0 := blk_frozen BK520.out 0; have hfz10_1 := blk_frozen BK520.out 1; have hfz10_2 := blk_frozen BK520.out 2; have hfz10_3 := blk_frozen BK520.out 3; have hfz10_4 := blk_frozen BK520.out 4))
  (try simp only [Act.put, List.setIfInBounds_toArray, List.set_cons_zero, List.set_cons_succ])
  go_cut [11] (fun v11 wc => ∃ (kq : Nat) (x11_5 : Int), v11 = .int .i64 x11_5 ∧ Aside0 (ambidexterlaw25_ServoConverges.j0 kq a1 a2 true (wrap64 (a0)) (wrap64 ((wrap64 (16 * (wrap64 (a1)))) + 8)) x11_5 t515 t516 t517 t518 t519 = some r) ∧ Aside0 (kq ≤ k) ∧ Aside0 (wc.heap[gb520]? = some (.cells #[.int .i64 t515, .int .i64 t516, .int .i64 t517, .int .i64 t518, .bool t519] 49 (0, 0))) ∧ Aside0 (Below w.heap.size w wc))
  case first =>
    have H := HC6.out
    clear HC6
    by_cases c11 : (wrap64 ((wrap64 ((wrap64 (16 * (wrap64 (a1)))) + 8)) - (wrap64 (a0)))) < 0
    · rw [if_pos c11] at H
      have c11b0 : decide ((wrap64 ((wrap64 ((wrap64 (16 * (wrap64 (a1)))) + 8)) - (wrap64 (a0)))) < 0) = true := decide_eq_true c11
      clear c11
      (first | rw [c11b0] | (simp only [i64_w, i32_w]; rw [c11b0]) | skip)
      have H' := Aside0.mk H
      clear H
      go_wp2
      go_meet
      case rel => exact ⟨_, (wrap64 (-(wrap64 ((wrap64 ((wrap64 (16 * (wrap64 (a1)))) + 8)) - (wrap64 (a0)))))), (by first | rfl | (simp; done) | (simp [*]; done)), H', ⟨by first | omega | exact Nat.le_refl _⟩, ⟨by (with_reducible repeat (first | refine blk_drewN ?_ _ | refine blk_drew ?_ | refine blk_alloc ?_ _)); refine blk_put (cs := #[.int .i64 t515, .int .i64 t516, .int .i64 t517, .int .i64 t518, .bool false]) ?_ 4 _ rfl; (with_reducible repeat (first | refine blk_drewN ?_ _ | refine blk_drew ?_ | refine blk_alloc ?_ _)); refine blk_put (cs := #[.int .i64 t515, .int .i64 t516, .int .i64 t517, .int .i64 0, .bool false]) ?_ 3 _ rfl; (with_reducible repeat (first | refine blk_drewN ?_ _ | refine blk_drew ?_ | refine blk_alloc ?_ _)); refine blk_put (cs := #[.int .i64 t515, .int .i64 t516, .int .i64 0, .int .i64 0, .bool false]) ?_ 2 _ rfl; (with_reducible repeat (first | refine blk_drewN ?_ _ | refine blk_drew ?_ | refine blk_alloc ?_ _)); refine blk_put (cs := #[.int .i64 t515, .int .i64 0, .int .i64 0, .int .i64 0, .bool false]) ?_ 1 _ rfl; (with_reducible repeat (first | refine blk_drewN ?_ _ | refine blk_drew ?_ | refine blk_alloc ?_ _)); refine blk_put (cs := #[.int .i64 0, .int .i64 0, .int .i64 0, .int .i64 0, .bool false]) ?_ 0 _ rfl; (with_reducible repeat (first | refine blk_drewN ?_ _ | refine blk_drew ?_ | refine blk_alloc ?_ _)); exact BK520.out⟩, ⟨by repeat (first | (with_reducible first | exact HB.out | apply below_alloc | apply pw_below_drewN | apply below_drew1 | refine below_set ?_ GE520.out) | exact HB.out)⟩⟩
    · rw [if_neg c11] at H
      have c11b0 : decide ((wrap64 ((wrap64 ((wrap64 (16 * (wrap64 (a1)))) + 8)) - (wrap64 (a0)))) < 0) = false := decide_eq_false c11
      clear c11
      (first | rw [c11b0] | (simp only [i64_w, i32_w]; rw [c11b0]) | skip)
      have H' := Aside0.mk H
      clear H
      go_wp2
      go_meet
      case rel => exact ⟨_, (wrap64 ((wrap64 ((wrap64 (16 * (wrap64 (a1)))) + 8)) - (wrap64 (a0)))), (by first | rfl | (simp; done) | (simp [*]; done)), H', ⟨by first | omega | exact Nat.le_refl _⟩, ⟨by (with_reducible repeat (first | refine blk_drewN ?_ _ | refine blk_drew ?_ | refine blk_alloc ?_ _)); refine blk_put (cs := #[.int .i64 t515, .int .i64 t516, .int .i64 t517, .int .i64 t518, .bool false]) ?_ 4 _ rfl; (with_reducible repeat (first | refine blk_drewN ?_ _ | refine blk_drew ?_ | refine blk_alloc ?_ _)); refine blk_put (cs := #[.int .i64 t515, .int .i64 t516, .int .i64 t517, .int .i64 0, .bool false]) ?_ 3 _ rfl; (with_reducible repeat (first | refine blk_drewN ?_ _ | refine blk_drew ?_ | refine blk_alloc ?_ _)); refine blk_put (cs := #[.int .i64 t515, .int .i64 t516, .int .i64 0, .int .i64 0, .bool false]) ?_ 2 _ rfl; (with_reducible repeat (first | refine blk_drewN ?_ _ | refine blk_drew ?_ | refine blk_alloc ?_ _)); refine blk_put (cs := #[.int .i64 t515, .int .i64 0, .int .i64 0, .int .i64 0, .bool false]) ?_ 1 _ rfl; (with_reducible repeat (first | refine blk_drewN ?_ _ | refine blk_drew ?_ | refine blk_alloc ?_ _)); refine blk_put (cs := #[.int .i64 0, .int .i64 0, .int .i64 0, .int .i64 0, .bool false]) ?_ 0 _ rfl; (with_reducible repeat (first | refine blk_drewN ?_ _ | refine blk_drew ?_ | refine blk_alloc ?_ _)); exact BK520.out⟩, ⟨by repeat (first | (with_reducible first | exact HB.out | apply below_alloc | apply pw_below_drewN | apply below_drew1 | refine below_set ?_ GE520.out) | exact HB.out)⟩⟩
  case rest =>
    clear HC6
    try clear c1
    try clear c2
    try clear p2
    try clear c3
    try clear p6
    try clear c11
    try clear c11b0
    try clear hcz10_0
    try clear hcz10_1
    try clear hcz10_2
    try clear hcz10_3
    try clear hcz10_4
    try clear hfz10_0
    try clear hfz10_1
    try clear hfz10_2
    try clear hfz10_3
    try clear hfz10_4
    obtain ⟨kq, x11_5, rfl, HA, HJ5, BK520, HB⟩ := hcut
    cases kq with
    | zero => exact absurd HA.out (by simp [ambidexterlaw25_ServoConverges.j0])
    | succ kj5 =>
      have H := HA.out
      clear HA
      simp only [ambidexterlaw25_ServoConverges.j0] at H
      have H' := Aside0.mk H
      clear H
      go_wp2
      go_loopg [8, 13] kj5 (fun kq v8 v13 w' => ∃ (x8_2 : Int) (x13_2 : Int) (x521000_2 : Int) (x521001_2 : Int) (x521002_2 : Int) (x521003_2 : Int) (x521004_2 : Bool), v8 = .int .i64 x8_2 ∧ v13 = .int .i64 x13_2 ∧ Aside0 (ambidexterlaw25_ServoConverges.l0 kq a1 a2 true x8_2 (wrap64 ((wrap64 (16 * (wrap64 (a1)))) + 8)) (wrap64 ((wrap64 (Int.tdiv x11_5 128)) + 2)) x13_2 x521000_2 x521001_2 x521002_2 x521003_2 x521004_2 = some r) ∧ Aside0 (kq ≤ kj5) ∧ Aside0 (w'.heap[gb520]? = some (.cells #[.int .i64 x521000_2, .int .i64 x521001_2, .int .i64 x521002_2, .int .i64 x521003_2, .bool x521004_2] 49 (0, 0))) ∧ Aside0 (Below w.heap.size w w'))
      case atStart => exact ⟨((wrap64 (a0))), (0), (t515), (t516), (t517), (t518), (t519), (by first | rfl | (simp; done) | (simp [*]; done)), (by first | rfl | (simp; done) | (simp [*]; done)), H', ⟨Nat.le_refl _⟩, ⟨by (with_reducible repeat (first | refine blk_drewN ?_ _ | refine blk_drew ?_ | refine blk_alloc ?_ _)); exact BK520.out⟩, ⟨by repeat (first | (with_reducible first | exact HB.out | apply below_alloc | apply pw_below_drewN | apply below_drew1 | refine below_set ?_ GE520.out) | exact HB.out)⟩⟩
      case round =>
        clear H'
        try clear c1
        try clear c2
        try clear p2
        try clear c3
        try clear p6
        try clear c11
        try clear c11b0
        try clear hcz10_0
        try clear hcz10_1
        try clear hcz10_2
        try clear hcz10_3
        try clear hcz10_4
        try clear hfz10_0
        try clear hfz10_1
        try clear hfz10_2
        try clear hfz10_3
        try clear hfz10_4
        try clear p2
        try clear p6
        obtain ⟨x8_2, x13_2, x521000_2, x521001_2, x521002_2, x521003_2, x521004_2, rfl, rfl, HA, HK2, BK520, HB⟩ := hrel
        cases gk with
        | zero => exact absurd HA.out (by simp [ambidexterlaw25_ServoConverges.l0])
        | succ k2 =>
          have H := HA.out
          clear HA
          simp only [ambidexterlaw25_ServoConverges.l0] at H
          have HC12 := Aside0.mk H
          clear H
          go_upto_region 10 with (fail)
          go_cut [45] (fun v45 wc => ∃ (kq : Nat) (x45_11 : Bool), v45 = .bool x45_11 ∧ Aside0 (ambidexterlaw25_ServoConverges.j2 kq a1 a2 true x8_2 (wrap64 ((wrap64 (16 * (wrap64 (a1)))) + 8)) (wrap64 ((wrap64 (Int.tdiv x11_5 128)) + 2)) x13_2 x45_11 x521000_2 x521001_2 x521002_2 x521003_2 x521004_2 = some r) ∧ Aside0 (kq ≤ k2) ∧ Aside0 (wc.heap[gb520]? = some (.cells #[.int .i64 x521000_2, .int .i64 x521001_2, .int .i64 x521002_2, .int .i64 x521003_2, .bool x521004_2] 49 (0, 0))) ∧ Aside0 (Below w.heap.size w wc))
          case first =>
            have H := HC12.out
            clear HC12
            by_cases c13 : x13_2 < 8000
            · rw [if_pos c13] at H
              have c13b0 : decide (x13_2 < 8000) = true := decide_eq_true c13
              clear c13
              (first | rw [c13b0] | (simp only [i64_w, i32_w]; rw [c13b0]) | skip)
              have H' := Aside0.mk H
              clear H
              go_wp2
              go_meet
              case rel => exact ⟨_, (decide (x13_2 < (wrap64 ((wrap64 ((wrap64 (Int.tdiv x11_5 128)) + 2)) + (wrap64 (a2)))))), (by first | rfl | (simp; done) | (simp [*]; done)), H', ⟨by have := HJ5.out; have := HK2.out; first | omega | exact Nat.le_refl _⟩, ⟨by (with_reducible repeat (first | refine blk_drewN ?_ _ | refine blk_drew ?_ | refine blk_alloc ?_ _)); exact BK520.out⟩, ⟨by repeat (first | (with_reducible first | exact HB.out | apply below_alloc | apply pw_below_drewN | apply below_drew1 | refine below_set ?_ GE520.out) | exact HB.out)⟩⟩
            · rw [if_neg c13] at H
              have c13b0 : decide (x13_2 < 8000) = false := decide_eq_false c13
              clear c13
              (first | rw [c13b0] | (simp only [i64_w, i32_w]; rw [c13b0]) | skip)
              have H' := Aside0.mk H
              clear H
              go_wp2
              go_meet
              case rel => exact ⟨_, (false), (by first | rfl | (simp; done) | (simp [*]; done)), H', ⟨by have := HJ5.out; have := HK2.out; first | omega | exact Nat.le_refl _⟩, ⟨by (with_reducible repeat (first | refine blk_drewN ?_ _ | refine blk_drew ?_ | refine blk_alloc ?_ _)); exact BK520.out⟩, ⟨by repeat (first | (with_reducible first | exact HB.out | apply below_alloc | apply pw_below_drewN | apply below_drew1 | refine below_set ?_ GE520.out) | exact HB.out)⟩⟩
          case rest =>
            clear HC12
            try clear c1
            try clear c2
            try clear p2
            try clear c3
            try clear p6
            try clear c11
            try clear c11b0
            try clear c13
            try clear c13b0
            try clear hcz10_0
            try clear hcz10_1
            try clear hcz10_2
            try clear hcz10_3
            try clear hcz10_4
            try clear hfz10_0
            try clear hfz10_1
            try clear hfz10_2
            try clear hfz10_3
            try clear hfz10_4
            try clear p2
            try clear p6
            obtain ⟨kq, x45_11, rfl, HA, HJ11, BK520, HB⟩ := hcut
            cases kq with
            | zero => exact absurd HA.out (by simp [ambidexterlaw25_ServoConverges.j2])
            | succ kj11 =>
              have H := HA.out
              clear HA
              simp only [ambidexterlaw25_ServoConverges.j2] at H
              by_cases c14 : x45_11 = true
              · subst c14
                have H1 : ((ambidexterref24_Quant.f x8_2).bind fun t521 => ((servo_Step.f x521000_2 x521001_2 x521002_2 x521003_2 x521004_2 1 t521 (wrap64 (a1))).bind fun bt522 => (if (wrap64 ((wrap64 ((wrap64 (16 * (wrap64 (a1)))) + 8)) - x8_2)) > 140 then (if bt522.2.2.2.2.2 = 128 then (if (wrap64 ((wrap64 ((wrap64 (16 * (wrap64 (a1)))) + 8)) - x8_2)) < (-140) then (ambidexterlaw25_ServoConverges.j3 kj11 a1 a2 true (wrap64 (x8_2 + bt522.2.2.2.2.2)) (wrap64 ((wrap64 (16 * (wrap64 (a1)))) + 8)) (wrap64 ((wrap64 (Int.tdiv x11_5 128)) + 2)) x13_2 (bt522.2.2.2.2.2 != (-128)) bt522.1 bt522.2.1 bt522.2.2.1 bt522.2.2.2.1 bt522.2.2.2.2.1) else (ambidexterlaw25_ServoConverges.j3 kj11 a1 a2 true (wrap64 (x8_2 + bt522.2.2.2.2.2)) (wrap64 ((wrap64 (16 * (wrap64 (a1)))) + 8)) (wrap64 ((wrap64 (Int.tdiv x11_5 128)) + 2)) x13_2 false bt522.1 bt522.2.1 bt522.2.2.1 bt522.2.2.2.1 bt522.2.2.2.2.1)) else (ambidexterlaw25_ServoConverges.j3 kj11 a1 a2 true (wrap64 (x8_2 + bt522.2.2.2.2.2)) (wrap64 ((wrap64 (16 * (wrap64 (a1)))) + 8)) (wrap64 ((wrap64 (Int.tdiv x11_5 128)) + 2)) x13_2 true bt522.1 bt522.2.1 bt522.2.2.1 bt522.2.2.2.1 bt522.2.2.2.2.1)) else (if (wrap64 ((wrap64 ((wrap64 (16 * (wrap64 (a1)))) + 8)) - x8_2)) < (-140) then (ambidexterlaw25_ServoConverges.j3 kj11 a1 a2 true (wrap64 (x8_2 + bt522.2.2.2.2.2)) (wrap64 ((wrap64 (16 * (wrap64 (a1)))) + 8)) (wrap64 ((wrap64 (Int.tdiv x11_5 128)) + 2)) x13_2 (bt522.2.2.2.2.2 != (-128)) bt522.1 bt522.2.1 bt522.2.2.1 bt522.2.2.2.1 bt522.2.2.2.2.1) else (ambidexterlaw25_ServoConverges.j3 kj11 a1 a2 true (wrap64 (x8_2 + bt522.2.2.2.2.2)) (wrap64 ((wrap64 (16 * (wrap64 (a1)))) + 8)) (wrap64 ((wrap64 (Int.tdiv x11_5 128)) + 2)) x13_2 false bt522.1 bt522.2.1 bt522.2.2.1 bt522.2.2.2.1 bt522.2.2.2.2.1))))) = some r := by rw [if_pos rfl] at H; exact H
                clear H
                have H := H1
                clear H1
                replace H := Option.bind_eq_some_iff.mp H
                obtain ⟨t521, A150, H⟩ := H
                replace H : ((servo_Step.f x521000_2 x521001_2 x521002_2 x521003_2 x521004_2 1 t521 (wrap64 (a1))).bind fun bt522 => (if (wrap64 ((wrap64 ((wrap64 (16 * (wrap64 (a1)))) + 8)) - x8_2)) > 140 then (if bt522.2.2.2.2.2 = 128 then (if (wrap64 ((wrap64 ((wrap64 (16 * (wrap64 (a1)))) + 8)) - x8_2)) < (-140) then (ambidexterlaw25_ServoConverges.j3 kj11 a1 a2 true (wrap64 (x8_2 + bt522.2.2.2.2.2)) (wrap64 ((wrap64 (16 * (wrap64 (a1)))) + 8)) (wrap64 ((wrap64 (Int.tdiv x11_5 128)) + 2)) x13_2 (bt522.2.2.2.2.2 != (-128)) bt522.1 bt522.2.1 bt522.2.2.1 bt522.2.2.2.1 bt522.2.2.2.2.1) else (ambidexterlaw25_ServoConverges.j3 kj11 a1 a2 true (wrap64 (x8_2 + bt522.2.2.2.2.2)) (wrap64 ((wrap64 (16 * (wrap64 (a1)))) + 8)) (wrap64 ((wrap64 (Int.tdiv x11_5 128)) + 2)) x13_2 false bt522.1 bt522.2.1 bt522.2.2.1 bt522.2.2.2.1 bt522.2.2.2.2.1)) else (ambidexterlaw25_ServoConverges.j3 kj11 a1 a2 true (wrap64 (x8_2 + bt522.2.2.2.2.2)) (wrap64 ((wrap64 (16 * (wrap64 (a1)))) + 8)) (wrap64 ((wrap64 (Int.tdiv x11_5 128)) + 2)) x13_2 true bt522.1 bt522.2.1 bt522.2.2.1 bt522.2.2.2.1 bt522.2.2.2.2.1)) else (if (wrap64 ((wrap64 ((wrap64 (16 * (wrap64 (a1)))) + 8)) - x8_2)) < (-140) then (ambidexterlaw25_ServoConverges.j3 kj11 a1 a2 true (wrap64 (x8_2 + bt522.2.2.2.2.2)) (wrap64 ((wrap64 (16 * (wrap64 (a1)))) + 8)) (wrap64 ((wrap64 (Int.tdiv x11_5 128)) + 2)) x13_2 (bt522.2.2.2.2.2 != (-128)) bt522.1 bt522.2.1 bt522.2.2.1 bt522.2.2.2.1 bt522.2.2.2.2.1) else (ambidexterlaw25_ServoConverges.j3 kj11 a1 a2 true (wrap64 (x8_2 + bt522.2.2.2.2.2)) (wrap64 ((wrap64 (16 * (wrap64 (a1)))) + 8)) (wrap64 ((wrap64 (Int.tdiv x11_5 128)) + 2)) x13_2 false bt522.1 bt522.2.1 bt522.2.2.1 bt522.2.2.2.1 bt522.2.2.2.2.1)))) = some r := H
                have A15 := Aside0.mk A150
                clear A150
                replace H := Option.bind_eq_some_iff.mp H
                obtain ⟨⟨t522, t523, t524, t525, t526, t527⟩, A160, H⟩ := H
                replace H : (if (wrap64 ((wrap64 ((wrap64 (16 * (wrap64 (a1)))) + 8)) - x8_2)) > 140 then (if t527 = 128 then (if (wrap64 ((wrap64 ((wrap64 (16 * (wrap64 (a1)))) + 8)) - x8_2)) < (-140) then (ambidexterlaw25_ServoConverges.j3 kj11 a1 a2 true (wrap64 (x8_2 + t527)) (wrap64 ((wrap64 (16 * (wrap64 (a1)))) + 8)) (wrap64 ((wrap64 (Int.tdiv x11_5 128)) + 2)) x13_2 (t527 != (-128)) t522 t523 t524 t525 t526) else (ambidexterlaw25_ServoConverges.j3 kj11 a1 a2 true (wrap64 (x8_2 + t527)) (wrap64 ((wrap64 (16 * (wrap64 (a1)))) + 8)) (wrap64 ((wrap64 (Int.tdiv x11_5 128)) + 2)) x13_2 false t522 t523 t524 t525 t526)) else (ambidexterlaw25_ServoConverges.j3 kj11 a1 a2 true (wrap64 (x8_2 + t527)) (wrap64 ((wrap64 (16 * (wrap64 (a1)))) + 8)) (wrap64 ((wrap64 (Int.tdiv x11_5 128)) + 2)) x13_2 true t522 t523 t524 t525 t526)) else (if (wrap64 ((wrap64 ((wrap64 (16 * (wrap64 (a1)))) + 8)) - x8_2)) < (-140) then (ambidexterlaw25_ServoConverges.j3 kj11 a1 a2 true (wrap64 (x8_2 + t527)) (wrap64 ((wrap64 (16 * (wrap64 (a1)))) + 8)) (wrap64 ((wrap64 (Int.tdiv x11_5 128)) + 2)) x13_2 (t527 != (-128)) t522 t523 t524 t525 t526) else (ambidexterlaw25_ServoConverges.j3 kj11 a1 a2 true (wrap64 (x8_2 + t527)) (wrap64 ((wrap64 (16 * (wrap64 (a1)))) + 8)) (wrap64 ((wrap64 (Int.tdiv x11_5 128)) + 2)) x13_2 false t522 t523 t524 t525 t526))) = some r := H
                have A16 := Aside0.mk A160
                clear A160
                have HC17 := Aside0.mk H
                clear H
                try go_wp2
                have n0_ := Aside0.mk (blk_drew BK520.out)
                have n1_ := Aside0.mk (below_drew1 HB.out)
                clear BK520
                clear HB
                have BK520 := n0_
                have HB := n1_
                clear n0_ n1_
                refine start_ (n := 12) (S := fun w' => w'.cell? ⟨gb520, 0, none⟩ = some (.int .i64 x521000_2) ∧ w'.cell? ⟨gb520, 1, none⟩ = some (.int .i64 x521001_2) ∧ w'.cell? ⟨gb520, 2, none⟩ = some (.int .i64 x521002_2) ∧ w'.cell? ⟨gb520, 3, none⟩ = some (.int .i64 x521003_2) ∧ w'.cell? ⟨gb520, 4, none⟩ = some (.bool x521004_2)) (ds := []) #[false, false, false, false, false, false, false, false, false, false, false, false] (by kernel_rfl) rfl rfl ⟨(blk_cell BK520.out 0).trans rfl, (blk_cell BK520.out 1).trans rfl, (blk_cell BK520.out 2).trans rfl, (blk_cell BK520.out 3).trans rfl, (blk_cell BK520.out 4).trans rfl⟩ (fun hHeld => ?_); refine with_tabW ambidexterlaw25_ServoConverges.tab12 ambidexterlaw25_ServoConverges.bits12 (fun HT_ HW_ => ?_)
                generalize wc.drew = w18 at BK520 HB hHeld ⊢
                refine pure_ (i := 1) (N := some 50) (v := ?_) (a' := ?_) #[false, true, false, false, false, false, false, false, false, false, false, false] rfl rfl (any_of HT_.out (by kernel_rfl)) (fun _ _ _ h => h) (Or.inl ⟨by rfl, ?_⟩) ?_ ?_
                rotate_left
                · intro w'
                  go_simp
                  with_reducible rfl
                rotate_left
                · simp only [Act.put, List.setIfInBounds_toArray, List.set_cons_zero, List.set_cons_succ, i64_w, i32_w]
                  rfl
                refine pure_ (i := 3) (N := some 52) (v := ?_) (a' := ?_) #[false, true, false, true, false, false, false, false, false, false, false, false] rfl rfl (any_of HT_.out (by kernel_rfl)) (fun _ _ _ h => h) (Or.inl ⟨by rfl, ?_⟩) ?_ ?_
                rotate_left
                · intro w'
                  go_simp
                  with_reducible rfl
                rotate_left
                · simp only [Act.put, List.setIfInBounds_toArray, List.set_cons_zero, List.set_cons_succ, i64_w, i32_w]
                  rfl
                refine pure_ (i := 4) (N := some 53) (v := ?_) (a' := ?_) #[false, true, false, true, true, false, false, false, false, false, false, false] rfl rfl (any_of HT_.out (by kernel_rfl)) (fun _ _ _ h => h) (Or.inl ⟨by rfl, ?_⟩) ?_ ?_
                rotate_left
                · intro w'
                  go_simp
                  with_reducible rfl
                rotate_left
                · simp only [Act.put, List.setIfInBounds_toArray, List.set_cons_zero, List.set_cons_succ, i64_w, i32_w]
                  rfl
                refine take_ (i := 0) (N := some 49) (v := ?_) (a' := ?_) #[true, true, false, true, true, false, false, false, false, false, false, false] rfl rfl (take_ofW HT_.out HW_.out (by kernel_rfl)) (fun _ _ _ h => h) (Or.inl ⟨by rfl, ?_⟩) hHeld ?_ ?_
                rotate_left
                · rintro w' ⟨s0, s1, s2, s3, s4⟩
                  go_simp
                  with_reducible rfl
                rotate_left
                · simp only [Act.put, List.setIfInBounds_toArray, List.set_cons_zero, List.set_cons_succ, i64_w, i32_w]
                  rfl
                refine join_ (σ := Nat) 2 #[true, true, true, true, true, true, true, true, true, true, false, false] (fun s_ => [(51, .int .i64 t521), (54, .tuple #[.agg #[.int .i64 t522, .int .i64 t523, .int .i64 t524, .int .i64 t525, .bool t526], .int .i64 t527]), (14, .pointer (some ⟨s_, 0, none⟩)), (48, .tuple #[.agg #[.int .i64 t522, .int .i64 t523, .int .i64 t524, .int .i64 t525, .bool t526], .int .i64 t527]), (55, .agg #[.int .i64 t522, .int .i64 t523, .int .i64 t524, .int .i64 t525, .bool t526]), (56, .int .i64 t527)]) (fun s_ w' => (w'.cell? ⟨gb520, 0, none⟩ = some (.int .i64 x521000_2) ∧ w'.cell? ⟨gb520, 1, none⟩ = some (.int .i64 x521001_2) ∧ w'.cell? ⟨gb520, 2, none⟩ = some (.int .i64 x521002_2) ∧ w'.cell? ⟨gb520, 3, none⟩ = some (.int .i64 x521003_2) ∧ w'.cell? ⟨gb520, 4, none⟩ = some (.bool x521004_2)) ∧ (w'.heap[gb520]? = some (.cells #[.int .i64 x521000_2, .int .i64 x521001_2, .int .i64 x521002_2, .int .i64 x521003_2, .bool x521004_2] 49 (0, 0))) ∧ (w'.heap[s_]? = some (.cells #[.int .i64 0, .int .i64 0, .int .i64 0, .int .i64 0, .bool false] 49 (0, 0))) ∧ (w.heap.size ≤ s_) ∧ (w.heap.size ≤ s_) ∧ (gb520 ≠ s_) ∧ (s_ ≠ gb520) ∧ (Below w.heap.size w w')) ?_ ?_
                rotate_left
                · intro hCont
                  refine two_ (i := 2) (j := 9) (Ni := some 51) (Nj := some 14) #[true, true, true, true, true, false, false, false, false, false, false, false] #[true, true, false, true, true, false, false, false, false, true, false, false] rfl rfl rfl rfl (two_of HT_.out (by kernel_rfl)) (by decide) (by decide) (fun K hK => ?_) (fun K hK => ?_)
                  · skip
                    refine goes_ Try.func36 (by kernel_rfl) rfl #[.int .i64 x8_2] (by rfl) rfl rfl (by (try simp only [List.map_toArray, List.map_cons, List.map_nil]); first | done | rfl | (simp only [List.length_drop, List.length_take]; rfl)) ?_
                    with_reducible refine (ambidexterref24_Quant.calls x8_2 t521 _ A15.out).mono ?_
                    rintro e w' ⟨rfl, ⟨nd, rfl⟩⟩
                    refine ⟨_, rfl, ?_⟩
                    refine hK.out _ _ ⟨(blk_cell BK520.out 0).trans rfl, (blk_cell BK520.out 1).trans rfl, (blk_cell BK520.out 2).trans rfl, (blk_cell BK520.out 3).trans rfl, (blk_cell BK520.out 4).trans rfl⟩ (fun hHeld => ?_)
                    clear hK K
                    refine norm_ (a' := ?_) ?_ ?_
                    rotate_left
                    · show Act.put _ (some 51) _ = _
                      simp only [Act.put, List.setIfInBounds_toArray, List.set_cons_zero, List.set_cons_succ, i64_w, i32_w]
                      rfl
                    refine two_ (i := 5) (j := 9) (Ni := some 54) (Nj := some 14) #[true, true, true, true, true, true, false, false, false, false, false, false] #[true, true, true, true, true, false, false, false, false, true, false, false] rfl rfl rfl rfl (two_of HT_.out (by kernel_rfl)) (by decide) (by decide) (fun K hK => ?_) (fun K hK => ?_)
                    · skip
                      refine goes_ Try.func32 (by kernel_rfl) rfl #[.agg #[.int .i64 x521000_2, .int .i64 x521001_2, .int .i64 x521002_2, .int .i64 x521003_2, .bool x521004_2], .int .i64 1, .int .i64 t521, .int .i64 (wrap64 (a1))] (by rfl) rfl rfl (by (try simp only [List.map_toArray, List.map_cons, List.map_nil]); first | done | rfl | (simp only [List.length_drop, List.length_take]; rfl)) ?_
                      with_reducible refine (servo_Step.calls x521000_2 x521001_2 x521002_2 x521003_2 x521004_2 1 t521 (wrap64 (a1)) t522 t523 t524 t525 t526 t527 _ A16.out).mono ?_
                      rintro e w19 ⟨rfl, hb⟩
                      refine ⟨_, rfl, ?_⟩
                      have n0_ := Aside0.mk (blk_below (g := gb520) (o := .cells #[.int .i64 x521000_2, .int .i64 x521001_2, .int .i64 x521002_2, .int .i64 x521003_2, .bool x521004_2] 49 (0, 0)) (by (with_reducible repeat (first | refine blk_drewN ?_ _ | refine blk_drew ?_ | refine blk_alloc ?_ _)); exact BK520.out) hb)
                      have n1_ := Aside0.mk (below_step (by repeat (first | (with_reducible first | exact HB.out | apply below_alloc | apply pw_below_drewN | apply below_drew1 | refine below_set ?_ GE520.out) | exact HB.out)) hb)
                      clear BK520
                      clear HB
                      have BK520 := n0_
                      have HB := n1_
                      clear n0_ n1_
                      (try clear hb)
                      (try clear hb2)
                      (try clear hk)
                      (try clear hi)
                      refine hK.out _ _ ⟨(blk_cell BK520.out 0).trans rfl, (blk_cell BK520.out 1).trans rfl, (blk_cell BK520.out 2).trans rfl, (blk_cell BK520.out 3).trans rfl, (blk_cell BK520.out 4).trans rfl⟩ (fun hHeld => ?_)
                      clear hK K
                      refine norm_ (a' := ?_) ?_ ?_
                      rotate_left
                      · show Act.put _ (some 54) _ = _
                        simp only [Act.put, List.setIfInBounds_toArray, List.set_cons_zero, List.set_cons_succ, i64_w, i32_w]
                        rfl
                      refine pure_ (i := 6) (N := some 48) (v := ?_) (a' := ?_) #[true, true, true, true, true, true, true, false, false, false, false, false] rfl rfl (any_of HT_.out (by kernel_rfl)) (fun _ _ _ h => h) (Or.inl ⟨by rfl, ?_⟩) ?_ ?_
                      rotate_left
                      · intro w'
                        go_simp
                        with_reducible rfl
                      rotate_left
                      · simp only [Act.put, List.setIfInBounds_toArray, List.set_cons_zero, List.set_cons_succ, i64_w, i32_w]
                        rfl
                      refine pure_ (i := 7) (N := some 55) (v := ?_) (a' := ?_) #[true, true, true, true, true, true, true, true, false, false, false, false] rfl rfl (any_of HT_.out (by kernel_rfl)) (fun _ _ _ h => h) (Or.inl ⟨by rfl, ?_⟩) ?_ ?_
                      rotate_left
                      · intro w'
                        go_simp
                        with_reducible rfl
                      rotate_left
                      · simp only [Act.put, List.setIfInBounds_toArray, List.set_cons_zero, List.set_cons_succ, i64_w, i32_w]
                        rfl
                      refine pure_ (i := 8) (N := some 56) (v := ?_) (a' := ?_) #[true, true, true, true, true, true, true, true, true, false, false, false] rfl rfl (any_of HT_.out (by kernel_rfl)) (fun _ _ _ h => h) (Or.inl ⟨by rfl, ?_⟩) ?_ ?_
                      rotate_left
                      · intro w'
                        go_simp
                        with_reducible rfl
                      rotate_left
                      · simp only [Act.put, List.setIfInBounds_toArray, List.set_cons_zero, List.set_cons_succ, i64_w, i32_w]
                        rfl
                      refine one_ (i := 9) (N := some 14) #[true, true, true, true, true, true, true, true, true, true, false, false] rfl rfl (one_of HT_.out (by kernel_rfl)) (by decide) (fun K hK => ?_)
                      refine box_step ?hg (N := 14) ?hd (cs := #[.int .i64 0, .int .i64 0, .int .i64 0, .int .i64 0, .bool false]) (t := 49) ?hr ?_; (case hd => rfl); (case hg => rfl); (case hr => first | (go_simp; done) | (go_simp; rfl))
                      intro gb528 hg w20 hbox hb
                      have n0_ := Aside0.mk (blk_below (g := gb520) (o := .cells #[.int .i64 x521000_2, .int .i64 x521001_2, .int .i64 x521002_2, .int .i64 x521003_2, .bool x521004_2] 49 (0, 0)) (by (with_reducible repeat (first | refine blk_drewN ?_ _ | refine blk_drew ?_ | refine blk_alloc ?_ _)); exact BK520.out) hb)
                      have n1_ := Aside0.mk (below_step (by repeat (first | (with_reducible first | exact HB.out | apply below_alloc | apply pw_below_drewN | apply below_drew1 | refine below_set ?_ GE520.out) | exact HB.out)) hb)
                      have n2_ := Aside0.mk (hbox)
                      have n3_ := Aside0.mk ((by rw [hg]; exact (below_size (by repeat (first | (with_reducible first | exact HB.out | apply below_alloc | apply pw_below_drewN | apply below_drew1 | refine below_set ?_ GE520.out) | exact HB.out))) : w.heap.size ≤ gb528))
                      have n4_ := Aside0.mk ((by rw [hg]; exact (below_size (by repeat (first | (with_reducible first | exact HB.out | apply below_alloc | apply pw_below_drewN | apply below_drew1 | refine below_set ?_ GE520.out) | exact HB.out))) : w.heap.size ≤ gb528))
                      have n5_ := Aside0.mk ((by rw [hg]; exact Nat.ne_of_lt (blk_lt (g := gb520) (o := .cells #[.int .i64 x521000_2, .int .i64 x521001_2, .int .i64 x521002_2, .int .i64 x521003_2, .bool x521004_2] 49 (0, 0)) (by (with_reducible repeat (first | refine blk_drewN ?_ _ | refine blk_drew ?_ | refine blk_alloc ?_ _)); exact BK520.out)) : gb520 ≠ gb528))
                      have n6_ := Aside0.mk ((by rw [hg]; exact Nat.ne_of_gt (blk_lt (g := gb520) (o := .cells #[.int .i64 x521000_2, .int .i64 x521001_2, .int .i64 x521002_2, .int .i64 x521003_2, .bool x521004_2] 49 (0, 0)) (by (with_reducible repeat (first | refine blk_drewN ?_ _ | refine blk_drew ?_ | refine blk_alloc ?_ _)); exact BK520.out)) : gb528 ≠ gb520))
                      clear BK520
                      clear HB
                      have BK520 := n0_
                      have HB := n1_
                      have BK528 := n2_
                      have GW528 := n3_
                      have GE528 := n4_
                      have NB520_528 := n5_
                      have NB528_520 := n6_
                      clear n0_ n1_ n2_ n3_ n4_ n5_ n6_
                      clear hb hbox hg
                      refine hK.out _ _ ⟨(blk_cell BK520.out 0).trans rfl, (blk_cell BK520.out 1).trans rfl, (blk_cell BK520.out 2).trans rfl, (blk_cell BK520.out 3).trans rfl, (blk_cell BK520.out 4).trans rfl⟩ (fun hHeld => ?_)
                      clear hK K
                      refine norm_ (a' := ?_) ?_ ?_
                      rotate_left
                      · show Act.put _ (some 14) _ = _
                        simp only [Act.put, List.setIfInBounds_toArray, List.set_cons_zero, List.set_cons_succ, i64_w, i32_w]
                        rfl
                      exact norm_ (by simp only [putAll, Act.put, List.setIfInBounds_toArray, List.set_cons_zero, List.set_cons_succ]) (hCont (gb528) _ ⟨hHeld, (by (with_reducible repeat (first | refine blk_drewN ?_ _ | refine blk_drew ?_ | refine blk_alloc ?_ _)); exact BK520.out), (by (with_reducible repeat (first | refine blk_drewN ?_ _ | refine blk_drew ?_ | refine blk_alloc ?_ _)); exact BK528.out), GW528.out, GE528.out, NB520_528.out, NB528_520.out, (by repeat (first | (with_reducible first | exact HB.out | apply below_alloc | apply pw_below_drewN | apply below_drew1 | refine below_set ?_ GE520.out | refine below_set ?_ GE528.out) | exact HB.out))⟩)
                    · skip
                      refine box_step ?hg (N := 14) ?hd (cs := #[.int .i64 0, .int .i64 0, .int .i64 0, .int .i64 0, .bool false]) (t := 49) ?hr ?_; (case hd => rfl); (case hg => rfl); (case hr => first | (go_simp; done) | (go_simp; rfl))
                      intro gb528 hg w19 hbox hb
                      have n0_ := Aside0.mk (blk_below (g := gb520) (o := .cells #[.int .i64 x521000_2, .int .i64 x521001_2, .int .i64 x521002_2, .int .i64 x521003_2, .bool x521004_2] 49 (0, 0)) (by (with_reducible repeat (first | refine blk_drewN ?_ _ | refine blk_drew ?_ | refine blk_alloc ?_ _)); exact BK520.out) hb)
                      have n1_ := Aside0.mk (below_step (by repeat (first | (with_reducible first | exact HB.out | apply below_alloc | apply pw_below_drewN | apply below_drew1 | refine below_set ?_ GE520.out) | exact HB.out)) hb)
                      have n2_ := Aside0.mk (hbox)
                      have n3_ := Aside0.mk ((by rw [hg]; exact (below_size (by repeat (first | (with_reducible first | exact HB.out | apply below_alloc | apply pw_below_drewN | apply below_drew1 | refine below_set ?_ GE520.out) | exact HB.out))) : w.heap.size ≤ gb528))
                      have n4_ := Aside0.mk ((by rw [hg]; exact (below_size (by repeat (first | (with_reducible first | exact HB.out | apply below_alloc | apply pw_below_drewN | apply below_drew1 | refine below_set ?_ GE520.out) | exact HB.out))) : w.heap.size ≤ gb528))
                      have n5_ := Aside0.mk ((by rw [hg]; exact Nat.ne_of_lt (blk_lt (g := gb520) (o := .cells #[.int .i64 x521000_2, .int .i64 x521001_2, .int .i64 x521002_2, .int .i64 x521003_2, .bool x521004_2] 49 (0, 0)) (by (with_reducible repeat (first | refine blk_drewN ?_ _ | refine blk_drew ?_ | refine blk_alloc ?_ _)); exact BK520.out)) : gb520 ≠ gb528))
                      have n6_ := Aside0.mk ((by rw [hg]; exact Nat.ne_of_gt (blk_lt (g := gb520) (o := .cells #[.int .i64 x521000_2, .int .i64 x521001_2, .int .i64 x521002_2, .int .i64 x521003_2, .bool x521004_2] 49 (0, 0)) (by (with_reducible repeat (first | refine blk_drewN ?_ _ | refine blk_drew ?_ | refine blk_alloc ?_ _)); exact BK520.out)) : gb528 ≠ gb520))
                      clear BK520
                      clear HB
                      have BK520 := n0_
                      have HB := n1_
                      have BK528 := n2_
                      have GW528 := n3_
                      have GE528 := n4_
                      have NB520_528 := n5_
                      have NB528_520 := n6_
                      clear n0_ n1_ n2_ n3_ n4_ n5_ n6_
                      clear hb hbox hg
                      refine hK.out _ _ ⟨(blk_cell BK520.out 0).trans rfl, (blk_cell BK520.out 1).trans rfl, (blk_cell BK520.out 2).trans rfl, (blk_cell BK520.out 3).trans rfl, (blk_cell BK520.out 4).trans rfl⟩ (fun hHeld => ?_)
                      clear hK K
                      refine norm_ (a' := ?_) ?_ ?_
                      rotate_left
                      · show Act.put _ (some 14) _ = _
                        simp only [Act.put, List.setIfInBounds_toArray, List.set_cons_zero, List.set_cons_succ, i64_w, i32_w]
                        rfl
                      refine one_ (i := 5) (N := some 54) #[true, true, true, true, true, true, false, false, false, true, false, false] rfl rfl (one_of HT_.out (by kernel_rfl)) (by decide) (fun K hK => ?_)
                      refine goes_ Try.func32 (by kernel_rfl) rfl #[.agg #[.int .i64 x521000_2, .int .i64 x521001_2, .int .i64 x521002_2, .int .i64 x521003_2, .bool x521004_2], .int .i64 1, .int .i64 t521, .int .i64 (wrap64 (a1))] (by rfl) rfl rfl (by (try simp only [List.map_toArray, List.map_cons, List.map_nil]); first | done | rfl | (simp only [List.length_drop, List.length_take]; rfl)) ?_
                      with_reducible refine (servo_Step.calls x521000_2 x521001_2 x521002_2 x521003_2 x521004_2 1 t521 (wrap64 (a1)) t522 t523 t524 t525 t526 t527 _ A16.out).mono ?_
                      rintro e w20 ⟨rfl, hb⟩
                      refine ⟨_, rfl, ?_⟩
                      have n0_ := Aside0.mk (blk_below (g := gb520) (o := .cells #[.int .i64 x521000_2, .int .i64 x521001_2, .int .i64 x521002_2, .int .i64 x521003_2, .bool x521004_2] 49 (0, 0)) (by (with_reducible repeat (first | refine blk_drewN ?_ _ | refine blk_drew ?_ | refine blk_alloc ?_ _)); exact BK520.out) hb)
                      have n1_ := Aside0.mk (blk_below (g := gb528) (o := .cells #[.int .i64 0, .int .i64 0, .int .i64 0, .int .i64 0, .bool false] 49 (0, 0)) (by (with_reducible repeat (first | refine blk_drewN ?_ _ | refine blk_drew ?_ | refine blk_alloc ?_ _)); exact BK528.out) hb)
                      have n2_ := Aside0.mk (below_step (by repeat (first | (with_reducible first | exact HB.out | apply below_alloc | apply pw_below_drewN | apply below_drew1 | refine below_set ?_ GE520.out | refine below_set ?_ GE528.out) | exact HB.out)) hb)
                      clear BK520
                      clear BK528
                      clear HB
                      have BK520 := n0_
                      have BK528 := n1_
                      have HB := n2_
                      clear n0_ n1_ n2_
                      (try clear hb)
                      (try clear hb2)
                      (try clear hk)
                      (try clear hi)
                      refine hK.out _ _ ⟨(blk_cell BK520.out 0).trans rfl, (blk_cell BK520.out 1).trans rfl, (blk_cell BK520.out 2).trans rfl, (blk_cell BK520.out 3).trans rfl, (blk_cell BK520.out 4).trans rfl⟩ (fun hHeld => ?_)
                      clear hK K
                      refine norm_ (a' := ?_) ?_ ?_
                      rotate_left
                      · show Act.put _ (some 54) _ = _
                        simp only [Act.put, List.setIfInBounds_toArray, List.set_cons_zero, List.set_cons_succ, i64_w, i32_w]
                        rfl
                      refine pure_ (i := 6) (N := some 48) (v := ?_) (a' := ?_) #[true, true, true, true, true, true, true, false, false, true, false, false] rfl rfl (any_of HT_.out (by kernel_rfl)) (fun _ _ _ h => h) (Or.inl ⟨by rfl, ?_⟩) ?_ ?_
                      rotate_left
                      · intro w'
                        go_simp
                        with_reducible rfl
                      rotate_left
                      · simp only [Act.put, List.setIfInBounds_toArray, List.set_cons_zero, List.set_cons_succ, i64_w, i32_w]
                        rfl
                      refine pure_ (i := 7) (N := some 55) (v := ?_) (a' := ?_) #[true, true, true, true, true, true, true, true, false, true, false, false] rfl rfl (any_of HT_.out (by kernel_rfl)) (fun _ _ _ h => h) (Or.inl ⟨by rfl, ?_⟩) ?_ ?_
                      rotate_left
                      · intro w'
                        go_simp
                        with_reducible rfl
                      rotate_left
                      · simp only [Act.put, List.setIfInBounds_toArray, List.set_cons_zero, List.set_cons_succ, i64_w, i32_w]
                        rfl
                      refine pure_ (i := 8) (N := some 56) (v := ?_) (a' := ?_) #[true, true, true, true, true, true, true, true, true, true, false, false] rfl rfl (any_of HT_.out (by kernel_rfl)) (fun _ _ _ h => h) (Or.inl ⟨by rfl, ?_⟩) ?_ ?_
                      rotate_left
                      · intro w'
                        go_simp
                        with_reducible rfl
                      rotate_left
                      · simp only [Act.put, List.setIfInBounds_toArray, List.set_cons_zero, List.set_cons_succ, i64_w, i32_w]
                        rfl
                      exact norm_ (by simp only [putAll, Act.put, List.setIfInBounds_toArray, List.set_cons_zero, List.set_cons_succ]) (hCont (gb528) _ ⟨hHeld, (by (with_reducible repeat (first | refine blk_drewN ?_ _ | refine blk_drew ?_ | refine blk_alloc ?_ _)); exact BK520.out), (by (with_reducible repeat (first | refine blk_drewN ?_ _ | refine blk_drew ?_ | refine blk_alloc ?_ _)); exact BK528.out), GW528.out, GE528.out, NB520_528.out, NB528_520.out, (by repeat (first | (with_reducible first | exact HB.out | apply below_alloc | apply pw_below_drewN | apply below_drew1 | refine below_set ?_ GE520.out | refine below_set ?_ GE528.out) | exact HB.out))⟩)
                  · skip
                    refine box_step ?hg (N := 14) ?hd (cs := #[.int .i64 0, .int .i64 0, .int .i64 0, .int .i64 0, .bool false]) (t := 49) ?hr ?_; (case hd => rfl); (case hg => rfl); (case hr => first | (go_simp; done) | (go_simp; rfl))
                    intro gb528 hg w19 hbox hb
                    have n0_ := Aside0.mk (blk_below (g := gb520) (o := .cells #[.int .i64 x521000_2, .int .i64 x521001_2, .int .i64 x521002_2, .int .i64 x521003_2, .bool x521004_2] 49 (0, 0)) (by (with_reducible repeat (first | refine blk_drewN ?_ _ | refine blk_drew ?_ | refine blk_alloc ?_ _)); exact BK520.out) hb)
                    have n1_ := Aside0.mk (below_step (by repeat (first | (with_reducible first | exact HB.out | apply below_alloc | apply pw_below_drewN | apply below_drew1 | refine below_set ?_ GE520.out) | exact HB.out)) hb)
                    have n2_ := Aside0.mk (hbox)
                    have n3_ := Aside0.mk ((by rw [hg]; exact (below_size (by repeat (first | (with_reducible first | exact HB.out | apply below_alloc | apply pw_below_drewN | apply below_drew1 | refine below_set ?_ GE520.out) | exact HB.out))) : w.heap.size ≤ gb528))
                    have n4_ := Aside0.mk ((by rw [hg]; exact (below_size (by repeat (first | (with_reducible first | exact HB.out | apply below_alloc | apply pw_below_drewN | apply below_drew1 | refine below_set ?_ GE520.out) | exact HB.out))) : w.heap.size ≤ gb528))
                    have n5_ := Aside0.mk ((by rw [hg]; exact Nat.ne_of_lt (blk_lt (g := gb520) (o := .cells #[.int .i64 x521000_2, .int .i64 x521001_2, .int .i64 x521002_2, .int .i64 x521003_2, .bool x521004_2] 49 (0, 0)) (by (with_reducible repeat (first | refine blk_drewN ?_ _ | refine blk_drew ?_ | refine blk_alloc ?_ _)); exact BK520.out)) : gb520 ≠ gb528))
                    have n6_ := Aside0.mk ((by rw [hg]; exact Nat.ne_of_gt (blk_lt (g := gb520) (o := .cells #[.int .i64 x521000_2, .int .i64 x521001_2, .int .i64 x521002_2, .int .i64 x521003_2, .bool x521004_2] 49 (0, 0)) (by (with_reducible repeat (first | refine blk_drewN ?_ _ | refine blk_drew ?_ | refine blk_alloc ?_ _)); exact BK520.out)) : gb528 ≠ gb520))
                    clear BK520
                    clear HB
                    have BK520 := n0_
                    have HB := n1_
                    have BK528 := n2_
                    have GW528 := n3_
                    have GE528 := n4_
                    have NB520_528 := n5_
                    have NB528_520 := n6_
                    clear n0_ n1_ n2_ n3_ n4_ n5_ n6_
                    clear hb hbox hg
                    refine hK.out _ _ ⟨(blk_cell BK520.out 0).trans rfl, (blk_cell BK520.out 1).trans rfl, (blk_cell BK520.out 2).trans rfl, (blk_cell BK520.out 3).trans rfl, (blk_cell BK520.out 4).trans rfl⟩ (fun hHeld => ?_)
                    clear hK K
                    refine norm_ (a' := ?_) ?_ ?_
                    rotate_left
                    · show Act.put _ (some 14) _ = _
                      simp only [Act.put, List.setIfInBounds_toArray, List.set_cons_zero, List.set_cons_succ, i64_w, i32_w]
                      rfl
                    refine one_ (i := 2) (N := some 51) #[true, true, true, true, true, false, false, false, false, true, false, false] rfl rfl (one_of HT_.out (by kernel_rfl)) (by decide) (fun K hK => ?_)
                    refine goes_ Try.func36 (by kernel_rfl) rfl #[.int .i64 x8_2] (by rfl) rfl rfl (by (try simp only [List.map_toArray, List.map_cons, List.map_nil]); first | done | rfl | (simp only [List.length_drop, List.length_take]; rfl)) ?_
                    with_reducible refine (ambidexterref24_Quant.calls x8_2 t521 _ A15.out).mono ?_
                    rintro e w' ⟨rfl, ⟨nd, rfl⟩⟩
                    refine ⟨_, rfl, ?_⟩
                    refine hK.out _ _ ⟨(blk_cell BK520.out 0).trans rfl, (blk_cell BK520.out 1).trans rfl, (blk_cell BK520.out 2).trans rfl, (blk_cell BK520.out 3).trans rfl, (blk_cell BK520.out 4).trans rfl⟩ (fun hHeld => ?_)
                    clear hK K
                    refine norm_ (a' := ?_) ?_ ?_
                    rotate_left
                    · show Act.put _ (some 51) _ = _
                      simp only [Act.put, List.setIfInBounds_toArray, List.set_cons_zero, List.set_cons_succ, i64_w, i32_w]
                      rfl
                    refine one_ (i := 5) (N := some 54) #[true, true, true, true, true, true, false, false, false, true, false, false] rfl rfl (one_of HT_.out (by kernel_rfl)) (by decide) (fun K hK => ?_)
                    refine goes_ Try.func32 (by kernel_rfl) rfl #[.agg #[.int .i64 x521000_2, .int .i64 x521001_2, .int .i64 x521002_2, .int .i64 x521003_2, .bool x521004_2], .int .i64 1, .int .i64 t521, .int .i64 (wrap64 (a1))] (by rfl) rfl rfl (by (try simp only [List.map_toArray, List.map_cons, List.map_nil]); first | done | rfl | (simp only [List.length_drop, List.length_take]; rfl)) ?_
                    with_reducible refine (servo_Step.calls x521000_2 x521001_2 x521002_2 x521003_2 x521004_2 1 t521 (wrap64 (a1)) t522 t523 t524 t525 t526 t527 _ A16.out).mono ?_
                    rintro e w20 ⟨rfl, hb⟩
                    refine ⟨_, rfl, ?_⟩
                    have n0_ := Aside0.mk (blk_below (g := gb520) (o := .cells #[.int .i64 x521000_2, .int .i64 x521001_2, .int .i64 x521002_2, .int .i64 x521003_2, .bool x521004_2] 49 (0, 0)) (by (with_reducible repeat (first | refine blk_drewN ?_ _ | refine blk_drew ?_ | refine blk_alloc ?_ _)); exact BK520.out) hb)
                    have n1_ := Aside0.mk (blk_below (g := gb528) (o := .cells #[.int .i64 0, .int .i64 0, .int .i64 0, .int .i64 0, .bool false] 49 (0, 0)) (by (with_reducible repeat (first | refine blk_drewN ?_ _ | refine blk_drew ?_ | refine blk_alloc ?_ _)); exact BK528.out) hb)
                    have n2_ := Aside0.mk (below_step (by repeat (first | (with_reducible first | exact HB.out | apply below_alloc | apply pw_below_drewN | apply below_drew1 | refine below_set ?_ GE520.out | refine below_set ?_ GE528.out) | exact HB.out)) hb)
                    clear BK520
                    clear BK528
                    clear HB
                    have BK520 := n0_
                    have BK528 := n1_
                    have HB := n2_
                    clear n0_ n1_ n2_
                    (try clear hb)
                    (try clear hb2)
                    (try clear hk)
                    (try clear hi)
                    refine hK.out _ _ ⟨(blk_cell BK520.out 0).trans rfl, (blk_cell BK520.out 1).trans rfl, (blk_cell BK520.out 2).trans rfl, (blk_cell BK520.out 3).trans rfl, (blk_cell BK520.out 4).trans rfl⟩ (fun hHeld => ?_)
                    clear hK K
                    refine norm_ (a' := ?_) ?_ ?_
                    rotate_left
                    · show Act.put _ (some 54) _ = _
                      simp only [Act.put, List.setIfInBounds_toArray, List.set_cons_zero, List.set_cons_succ, i64_w, i32_w]
                      rfl
                    refine pure_ (i := 6) (N := some 48) (v := ?_) (a' := ?_) #[true, true, true, true, true, true, true, false, false, true, false, false] rfl rfl (any_of HT_.out (by kernel_rfl)) (fun _ _ _ h => h) (Or.inl ⟨by rfl, ?_⟩) ?_ ?_
                    rotate_left
                    · intro w'
                      go_simp
                      with_reducible rfl
                    rotate_left
                    · simp only [Act.put, List.setIfInBounds_toArray, List.set_cons_zero, List.set_cons_succ, i64_w, i32_w]
                      rfl
                    refine pure_ (i := 7) (N := some 55) (v := ?_) (a' := ?_) #[true, true, true, true, true, true, true, true, false, true, false, false] rfl rfl (any_of HT_.out (by kernel_rfl)) (fun _ _ _ h => h) (Or.inl ⟨by rfl, ?_⟩) ?_ ?_
                    rotate_left
                    · intro w'
                      go_simp
                      with_reducible rfl
                    rotate_left
                    · simp only [Act.put, List.setIfInBounds_toArray, List.set_cons_zero, List.set_cons_succ, i64_w, i32_w]
                      rfl
                    refine pure_ (i := 8) (N := some 56) (v := ?_) (a' := ?_) #[true, true, true, true, true, true, true, true, true, true, false, false] rfl rfl (any_of HT_.out (by kernel_rfl)) (fun _ _ _ h => h) (Or.inl ⟨by rfl, ?_⟩) ?_ ?_
                    rotate_left
                    · intro w'
                      go_simp
                      with_reducible rfl
                    rotate_left
                    · simp only [Act.put, List.setIfInBounds_toArray, List.set_cons_zero, List.set_cons_succ, i64_w, i32_w]
                      rfl
                    exact norm_ (by simp only [putAll, Act.put, List.setIfInBounds_toArray, List.set_cons_zero, List.set_cons_succ]) (hCont (gb528) _ ⟨hHeld, (by (with_reducible repeat (first | refine blk_drewN ?_ _ | refine blk_drew ?_ | refine blk_alloc ?_ _)); exact BK520.out), (by (with_reducible repeat (first | refine blk_drewN ?_ _ | refine blk_drew ?_ | refine blk_alloc ?_ _)); exact BK528.out), GW528.out, GE528.out, NB520_528.out, NB528_520.out, (by repeat (first | (with_reducible first | exact HB.out | apply below_alloc | apply pw_below_drewN | apply below_drew1 | refine below_set ?_ GE520.out | refine below_set ?_ GE528.out) | exact HB.out))⟩)
                rintro gb528 w21 ⟨hS_, h0_, h1_, h2_, h3_, h4_, h5_, h6_⟩
                have n0_ : Aside0 (w21.heap[gb520]? = some (.cells #[.int .i64 x521000_2, .int .i64 x521001_2, .int .i64 x521002_2, .int .i64 x521003_2, .bool x521004_2] 49 (0, 0))) := ⟨h0_⟩
                have n1_ : Aside0 (w21.heap[gb528]? = some (.cells #[.int .i64 0, .int .i64 0, .int .i64 0, .int .i64 0, .bool false] 49 (0, 0))) := ⟨h1_⟩
                have n2_ : Aside0 (w.heap.size ≤ gb528) := ⟨h2_⟩
                have n3_ : Aside0 (w.heap.size ≤ gb528) := ⟨h3_⟩
                have n4_ : Aside0 (gb520 ≠ gb528) := ⟨h4_⟩
                have n5_ : Aside0 (gb528 ≠ gb520) := ⟨h5_⟩
                have n6_ : Aside0 (Below w.heap.size w w21) := ⟨h6_⟩
                clear BK520
                clear HB
                clear h0_ h1_ h2_ h3_ h4_ h5_ h6_
                have BK520 := n0_
                have BK528 := n1_
                have GW528 := n2_
                have GE528 := n3_
                have NB520_528 := n4_
                have NB528_520 := n5_
                have HB := n6_
                clear n0_ n1_ n2_ n3_ n4_ n5_ n6_
                have hHeld : w21.cell? ⟨gb520, 0, none⟩ = some (.int .i64 x521000_2) ∧ w21.cell? ⟨gb520, 1, none⟩ = some (.int .i64 x521001_2) ∧ w21.cell? ⟨gb520, 2, none⟩ = some (.int .i64 x521002_2) ∧ w21.cell? ⟨gb520, 3, none⟩ = some (.int .i64 x521003_2) ∧ w21.cell? ⟨gb520, 4, none⟩ = some (.bool x521004_2) := hS_
                refine norm_ (a' := ?_) ?_ ?_
                rotate_left
                · simp only [putAll, Act.put, List.setIfInBounds_toArray, List.set_cons_zero, List.set_cons_succ]
                  rfl
                refine one_ (i := 10) (N := none) #[true, true, true, true, true, true, true, true, true, true, true, false] rfl rfl (one_of HT_.out (by kernel_rfl)) (by decide) (fun K hK => ?_)
                have hs22 : w21.cell? ⟨gb528, 0, none⟩ = some (.int .i64 0) := (blk_cell BK528.out 0).trans rfl
                have hfs22 := blk_frozen BK528.out 0
                have hns22_0 := NB520_528.out
                have hms22_0 := NB528_520.out
                have hs23 : w21.cell? ⟨gb528, 1, none⟩ = some (.int .i64 0) := (blk_cell BK528.out 1).trans rfl
                have hfs23 := blk_frozen BK528.out 1
                have hns23_0 := NB520_528.out
                have hms23_0 := NB528_520.out
                have hs24 : w21.cell? ⟨gb528, 2, none⟩ = some (.int .i64 0) := (blk_cell BK528.out 2).trans rfl
                have hfs24 := blk_frozen BK528.out 2
                have hns24_0 := NB520_528.out
                have hms24_0 := NB528_520.out
                have hs25 : w21.cell? ⟨gb528, 3, none⟩ = some (.int .i64 0) := (blk_cell BK528.out 3).trans rfl
                have hfs25 := blk_frozen BK528.out 3
                have hns25_0 := NB520_528.out
                have hms25_0 := NB528_520.out
                have hs26 : w21.cell? ⟨gb528, 4, none⟩ = some (.bool false) := (blk_cell BK528.out 4).trans rfl
                have hfs26 := blk_frozen BK528.out 4
                have hns26_0 := NB520_528.out
                have hms26_0 := NB528_520.out
                refine skip_ (w1 := ?_) (by rfl) rfl ?_ ?_
                rotate_left
                · go_simp
                  rfl
                refine hK.out _ _ ⟨((cell_far (p := ⟨gb528, _, none⟩) NB520_528.out _).trans (((cell_far (p := ⟨gb528, _, none⟩) NB520_528.out _).trans (((cell_far (p := ⟨gb528, _, none⟩) NB520_528.out _).trans (((cell_far (p := ⟨gb528, _, none⟩) NB520_528.out _).trans (((cell_far (p := ⟨gb528, _, none⟩) NB520_528.out _).trans (hHeld.1)))))))))), ((cell_far (p := ⟨gb528, _, none⟩) NB520_528.out _).trans (((cell_far (p := ⟨gb528, _, none⟩) NB520_528.out _).trans (((cell_far (p := ⟨gb528, _, none⟩) NB520_528.out _).trans (((cell_far (p := ⟨gb528, _, none⟩) NB520_528.out _).trans (((cell_far (p := ⟨gb528, _, none⟩) NB520_528.out _).trans (hHeld.2.1)))))))))), ((cell_far (p := ⟨gb528, _, none⟩) NB520_528.out _).trans (((cell_far (p := ⟨gb528, _, none⟩) NB520_528.out _).trans (((cell_far (p := ⟨gb528, _, none⟩) NB520_528.out _).trans (((cell_far (p := ⟨gb528, _, none⟩) NB520_528.out _).trans (((cell_far (p := ⟨gb528, _, none⟩) NB520_528.out _).trans (hHeld.2.2.1)))))))))), ((cell_far (p := ⟨gb528, _, none⟩) NB520_528.out _).trans (((cell_far (p := ⟨gb528, _, none⟩) NB520_528.out _).trans (((cell_far (p := ⟨gb528, _, none⟩) NB520_528.out _).trans (((cell_far (p := ⟨gb528, _, none⟩) NB520_528.out _).trans (((cell_far (p := ⟨gb528, _, none⟩) NB520_528.out _).trans (hHeld.2.2.2.1)))))))))), ((cell_far (p := ⟨gb528, _, none⟩) NB520_528.out _).trans (((cell_far (p := ⟨gb528, _, none⟩) NB520_528.out _).trans (((cell_far (p := ⟨gb528, _, none⟩) NB520_528.out _).trans (((cell_far (p := ⟨gb528, _, none⟩) NB520_528.out _).trans (((cell_far (p := ⟨gb528, _, none⟩) NB520_528.out _).trans (hHeld.2.2.2.2))))))))))⟩ (fun hHeld => ?_)
                clear hK K
                refine pure_ (i := 11) (N := some 15) (v := ?_) (a' := ?_) #[true, true, true, true, true, true, true, true, true, true, true, true] rfl rfl (any_of HT_.out (by kernel_rfl)) (fun _ _ _ h => h) (Or.inl ⟨by rfl, ?_⟩) ?_ ?_
                rotate_left
                · intro w'
                  go_simp
                  with_reducible rfl
                rotate_left
                · simp only [Act.put, List.setIfInBounds_toArray, List.set_cons_zero, List.set_cons_succ, i64_w, i32_w]
                  rfl
                refine done_ (done_of HT_.out (by kernel_rfl)) ?_
                have hnb27 := NB528_520.out
                have hnc27 := NB520_528.out
                have hcz28_0 : w21.cell? ⟨gb528, 0, none⟩ = some (.int .i64 0) := (blk_cell BK528.out 0).trans rfl
                have hcz28_1 : w21.cell? ⟨gb528, 1, none⟩ = some (.int .i64 0) := (blk_cell BK528.out 1).trans rfl
                have hcz28_2 : w21.cell? ⟨gb528, 2, none⟩ = some (.int .i64 0) := (blk_cell BK528.out 2).trans rfl
                have hcz28_3 : w21.cell? ⟨gb528, 3, none⟩ = some (.int .i64 0) := (blk_cell BK528.out 3).trans rfl
                have hcz28_4 : w21.cell? ⟨gb528, 4, none⟩ = some (.bool false) := (blk_cell BK528.out 4).trans rfl
                have hfz28_0 := blk_frozen BK528.out 0
                have hfz28_1 := blk_frozen BK528.out 1
                have hfz28_2 := blk_frozen BK528.out 2
                have hfz28_3 := blk_frozen BK528.out 3
                have hfz28_4 := blk_frozen BK528.out 4
                have hcz29_0 : w21.cell? ⟨gb520, 0, none⟩ = some (.int .i64 x521000_2) := (blk_cell BK520.out 0).trans rfl
                have hcz29_1 : w21.cell? ⟨gb520, 1, none⟩ = some (.int .i64 x521001_2) := (blk_cell BK520.out 1).trans rfl
                have hcz29_2 : w21.cell? ⟨gb520, 2, none⟩ = some (.int .i64 x521002_2) := (blk_cell BK520.out 2).trans rfl
                have hcz29_3 : w21.cell? ⟨gb520, 3, none⟩ = some (.int .i64 x521003_2) := (blk_cell BK520.out 3).trans rfl
                have hcz29_4 : w21.cell? ⟨gb520, 4, none⟩ = some (.bool x521004_2) := (blk_cell BK520.out 4).trans rfl
                have hfz29_0 := blk_frozen BK520.out 0
                have hfz29_1 := blk_frozen BK520.out 1
                have hfz29_2 := blk_frozen BK520.out 2
                have hfz29_3 := blk_frozen BK520.out 3
                have hfz29_4 := blk_frozen BK520.out 4
                go_upto_region 16 with (fail)
                go_cut [77] (fun v77 wc => ∃ (kq : Nat) (x77_16 : Bool), v77 = .bool x77_16 ∧ Aside0 (ambidexterlaw25_ServoConverges.j3 kq a1 a2 true (wrap64 (x8_2 + t527)) (wrap64 ((wrap64 (16 * (wrap64 (a1)))) + 8)) (wrap64 ((wrap64 (Int.tdiv x11_5 128)) + 2)) x13_2 x77_16 t522 t523 t524 t525 t526 = some r) ∧ Aside0 (kq ≤ kj11) ∧ Aside0 (wc.heap[gb520]? = some (.cells #[.int .i64 t522, .int .i64 t523, .int .i64 t524, .int .i64 t525, .bool t526] 49 (0, 0))) ∧ Aside0 (wc.heap[gb528]? = some (.cells #[.int .i64 t522, .int .i64 t523, .int .i64 t524, .int .i64 t525, .bool t526] 49 (0, 0))) ∧ Aside0 (Below w.heap.size w wc))
                case first =>
                  have H := HC17.out
                  clear HC17
                  by_cases c30 : (wrap64 ((wrap64 ((wrap64 (16 * (wrap64 (a1)))) + 8)) - x8_2)) > 140
                  · rw [if_pos c30] at H
                    have c30b0 : decide (140 < (wrap64 ((wrap64 ((wrap64 (16 * (wrap64 (a1)))) + 8)) - x8_2))) = true := decide_eq_true c30
                    clear c30
                    (first | rw [c30b0] | (simp only [i64_w, i32_w]; rw [c30b0]) | skip)
                    by_cases c31 : t527 = 128
                    · rw [if_pos c31] at H
                      have c31b0 : (t527 == 128) = true := beq_iff_eq.mpr c31
                      have c31b1 : (t527 != 128) = false := bne_eq_false_iff_eq.mpr c31
                      clear c31
                      by_cases c32 : (wrap64 ((wrap64 ((wrap64 (16 * (wrap64 (a1)))) + 8)) - x8_2)) < (-140)
                      · rw [if_pos c32] at H
                        have c32b0 : decide ((wrap64 ((wrap64 ((wrap64 (16 * (wrap64 (a1)))) + 8)) - x8_2)) < (-140)) = true := decide_eq_true c32
                        clear c32
                        have H' := Aside0.mk H
                        clear H
                        go_wp2
                        go_meet
                        case rel => exact ⟨_, ((t527 != (-128))), (by first | rfl | (simp; done) | (simp [*]; done)), H', ⟨by have := HJ5.out; have := HK2.out; have := HJ11.out; first | omega | exact Nat.le_refl _⟩, ⟨by (with_reducible repeat (first | refine blk_drewN ?_ _ | refine blk_drew ?_ | refine blk_alloc ?_ _)); refine blk_put (cs := #[.int .i64 t522, .int .i64 t523, .int .i64 t524, .int .i64 t525, .bool x521004_2]) ?_ 4 _ rfl; (with_reducible repeat (first | refine blk_drewN ?_ _ | refine blk_drew ?_ | refine blk_alloc ?_ _)); refine blk_put (cs := #[.int .i64 t522, .int .i64 t523, .int .i64 t524, .int .i64 x521003_2, .bool x521004_2]) ?_ 3 _ rfl; (with_reducible repeat (first | refine blk_drewN ?_ _ | refine blk_drew ?_ | refine blk_alloc ?_ _)); refine blk_put (cs := #[.int .i64 t522, .int .i64 t523, .int .i64 x521002_2, .int .i64 x521003_2, .bool x521004_2]) ?_ 2 _ rfl; (with_reducible repeat (first | refine blk_drewN ?_ _ | refine blk_drew ?_ | refine blk_alloc ?_ _)); refine blk_put (cs := #[.int .i64 t522, .int .i64 x521001_2, .int .i64 x521002_2, .int .i64 x521003_2, .bool x521004_2]) ?_ 1 _ rfl; (with_reducible repeat (first | refine blk_drewN ?_ _ | refine blk_drew ?_ | refine blk_alloc ?_ _)); refine blk_put (cs := #[.int .i64 x521000_2, .int .i64 x521001_2, .int .i64 x521002_2, .int .i64 x521003_2, .bool x521004_2]) ?_ 0 _ rfl; (with_reducible repeat (first | refine blk_drewN ?_ _ | refine blk_drew ?_ | refine blk_alloc ?_ _)); refine blk_far ?_ NB520_528.out _; (with_reducible repeat (first | refine blk_drewN ?_ _ | refine blk_drew ?_ | refine blk_alloc ?_ _)); refine blk_far ?_ NB520_528.out _; (with_reducible repeat (first | refine blk_drewN ?_ _ | refine blk_drew ?_ | refine blk_alloc ?_ _)); refine blk_far ?_ NB520_528.out _; (with_reducible repeat (first | refine blk_drewN ?_ _ | refine blk_drew ?_ | refine blk_alloc ?_ _)); refine blk_far ?_ NB520_528.out _; (with_reducible repeat (first | refine blk_drewN ?_ _ | refine blk_drew ?_ | refine blk_alloc ?_ _)); refine blk_far ?_ NB520_528.out _; (with_reducible repeat (first | refine blk_drewN ?_ _ | refine blk_drew ?_ | refine blk_alloc ?_ _)); exact BK520.out⟩, ⟨by (with_reducible repeat (first | refine blk_drewN ?_ _ | refine blk_drew ?_ | refine blk_alloc ?_ _)); refine blk_far ?_ NB528_520.out _; (with_reducible repeat (first | refine blk_drewN ?_ _ | refine blk_drew ?_ | refine blk_alloc ?_ _)); refine blk_far ?_ NB528_520.out _; (with_reducible repeat (first | refine blk_drewN ?_ _ | refine blk_drew ?_ | refine blk_alloc ?_ _)); refine blk_far ?_ NB528_520.out _; (with_reducible repeat (first | refine blk_drewN ?_ _ | refine blk_drew ?_ | refine blk_alloc ?_ _)); refine blk_far ?_ NB528_520.out _; (with_reducible repeat (first | refine blk_drewN ?_ _ | refine blk_drew ?_ | refine blk_alloc ?_ _)); refine blk_far ?_ NB528_520.out _; (with_reducible repeat (first | refine blk_drewN ?_ _ | refine blk_drew ?_ | refine blk_alloc ?_ _)); refine blk_put (cs := #[.int .i64 t522, .int .i64 t523, .int .i64 t524, .int .i64 t525, .bool false]) ?_ 4 _ rfl; (with_reducible repeat (first | refine blk_drewN ?_ _ | refine blk_drew ?_ | refine blk_alloc ?_ _)); refine blk_put (cs := #[.int .i64 t522, .int .i64 t523, .int .i64 t524, .int .i64 0, .bool false]) ?_ 3 _ rfl; (with_reducible repeat (first | refine blk_drewN ?_ _ | refine blk_drew ?_ | refine blk_alloc ?_ _)); refine blk_put (cs := #[.int .i64 t522, .int .i64 t523, .int .i64 0, .int .i64 0, .bool false]) ?_ 2 _ rfl; (with_reducible repeat (first | refine blk_drewN ?_ _ | refine blk_drew ?_ | refine blk_alloc ?_ _)); refine blk_put (cs := #[.int .i64 t522, .int .i64 0, .int .i64 0, .int .i64 0, .bool false]) ?_ 1 _ rfl; (with_reducible repeat (first | refine blk_drewN ?_ _ | refine blk_drew ?_ | refine blk_alloc ?_ _)); refine blk_put (cs := #[.int .i64 0, .int .i64 0, .int .i64 0, .int .i64 0, .bool false]) ?_ 0 _ rfl; (with_reducible repeat (first | refine blk_drewN ?_ _ | refine blk_drew ?_ | refine blk_alloc ?_ _)); exact BK528.out⟩, ⟨by repeat (first | (with_reducible first | exact HB.out | apply below_alloc | apply pw_below_drewN | apply below_drew1 | refine below_set ?_ GE520.out | refine below_set ?_ GE528.out) | exact HB.out)⟩⟩
                      · rw [if_neg c32] at H
                        have c32b0 : decide ((wrap64 ((wrap64 ((wrap64 (16 * (wrap64 (a1)))) + 8)) - x8_2)) < (-140)) = false := decide_eq_false c32
                        clear c32
                        have H' := Aside0.mk H
                        clear H
                        go_wp2
                        go_meet
                        case rel => exact ⟨_, (false), (by first | rfl | (simp; done) | (simp [*]; done)), H', ⟨by have := HJ5.out; have := HK2.out; have := HJ11.out; first | omega | exact Nat.le_refl _⟩, ⟨by (with_reducible repeat (first | refine blk_drewN ?_ _ | refine blk_drew ?_ | refine blk_alloc ?_ _)); refine blk_put (cs := #[.int .i64 t522, .int .i64 t523, .int .i64 t524, .int .i64 t525, .bool x521004_2]) ?_ 4 _ rfl; (with_reducible repeat (first | refine blk_drewN ?_ _ | refine blk_drew ?_ | refine blk_alloc ?_ _)); refine blk_put (cs := #[.int .i64 t522, .int .i64 t523, .int .i64 t524, .int .i64 x521003_2, .bool x521004_2]) ?_ 3 _ rfl; (with_reducible repeat (first | refine blk_drewN ?_ _ | refine blk_drew ?_ | refine blk_alloc ?_ _)); refine blk_put (cs := #[.int .i64 t522, .int .i64 t523, .int .i64 x521002_2, .int .i64 x521003_2, .bool x521004_2]) ?_ 2 _ rfl; (with_reducible repeat (first | refine blk_drewN ?_ _ | refine blk_drew ?_ | refine blk_alloc ?_ _)); refine blk_put (cs := #[.int .i64 t522, .int .i64 x521001_2, .int .i64 x521002_2, .int .i64 x521003_2, .bool x521004_2]) ?_ 1 _ rfl; (with_reducible repeat (first | refine blk_drewN ?_ _ | refine blk_drew ?_ | refine blk_alloc ?_ _)); refine blk_put (cs := #[.int .i64 x521000_2, .int .i64 x521001_2, .int .i64 x521002_2, .int .i64 x521003_2, .bool x521004_2]) ?_ 0 _ rfl; (with_reducible repeat (first | refine blk_drewN ?_ _ | refine blk_drew ?_ | refine blk_alloc ?_ _)); refine blk_far ?_ NB520_528.out _; (with_reducible repeat (first | refine blk_drewN ?_ _ | refine blk_drew ?_ | refine blk_alloc ?_ _)); refine blk_far ?_ NB520_528.out _; (with_reducible repeat (first | refine blk_drewN ?_ _ | refine blk_drew ?_ | refine blk_alloc ?_ _)); refine blk_far ?_ NB520_528.out _; (with_reducible repeat (first | refine blk_drewN ?_ _ | refine blk_drew ?_ | refine blk_alloc ?_ _)); refine blk_far ?_ NB520_528.out _; (with_reducible repeat (first | refine blk_drewN ?_ _ | refine blk_drew ?_ | refine blk_alloc ?_ _)); refine blk_far ?_ NB520_528.out _; (with_reducible repeat (first | refine blk_drewN ?_ _ | refine blk_drew ?_ | refine blk_alloc ?_ _)); exact BK520.out⟩, ⟨by (with_reducible repeat (first | refine blk_drewN ?_ _ | refine blk_drew ?_ | refine blk_alloc ?_ _)); refine blk_far ?_ NB528_520.out _; (with_reducible repeat (first | refine blk_drewN ?_ _ | refine blk_drew ?_ | refine blk_alloc ?_ _)); refine blk_far ?_ NB528_520.out _; (with_reducible repeat (first | refine blk_drewN ?_ _ | refine blk_drew ?_ | refine blk_alloc ?_ _)); refine blk_far ?_ NB528_520.out _; (with_reducible repeat (first | refine blk_drewN ?_ _ | refine blk_drew ?_ | refine blk_alloc ?_ _)); refine blk_far ?_ NB528_520.out _; (with_reducible repeat (first | refine blk_drewN ?_ _ | refine blk_drew ?_ | refine blk_alloc ?_ _)); refine blk_far ?_ NB528_520.out _; (with_reducible repeat (first | refine blk_drewN ?_ _ | refine blk_drew ?_ | refine blk_alloc ?_ _)); refine blk_put (cs := #[.int .i64 t522, .int .i64 t523, .int .i64 t524, .int .i64 t525, .bool false]) ?_ 4 _ rfl; (with_reducible repeat (first | refine blk_drewN ?_ _ | refine blk_drew ?_ | refine blk_alloc ?_ _)); refine blk_put (cs := #[.int .i64 t522, .int .i64 t523, .int .i64 t524, .int .i64 0, .bool false]) ?_ 3 _ rfl; (with_reducible repeat (first | refine blk_drewN ?_ _ | refine blk_drew ?_ | refine blk_alloc ?_ _)); refine blk_put (cs := #[.int .i64 t522, .int .i64 t523, .int .i64 0, .int .i64 0, .bool false]) ?_ 2 _ rfl; (with_reducible repeat (first | refine blk_drewN ?_ _ | refine blk_drew ?_ | refine blk_alloc ?_ _)); refine blk_put (cs := #[.int .i64 t522, .int .i64 0, .int .i64 0, .int .i64 0, .bool false]) ?_ 1 _ rfl; (with_reducible repeat (first | refine blk_drewN ?_ _ | refine blk_drew ?_ | refine blk_alloc ?_ _)); refine blk_put (cs := #[.int .i64 0, .int .i64 0, .int .i64 0, .int .i64 0, .bool false]) ?_ 0 _ rfl; (with_reducible repeat (first | refine blk_drewN ?_ _ | refine blk_drew ?_ | refine blk_alloc ?_ _)); exact BK528.out⟩, ⟨by repeat (first | (with_reducible first | exact HB.out | apply below_alloc | apply pw_below_drewN | apply below_drew1 | refine below_set ?_ GE520.out | refine below_set ?_ GE528.out) | exact HB.out)⟩⟩
                    · rw [if_neg c31] at H
                      have c31b0 : (t527 == 128) = false := beq_eq_false_iff_ne.mpr c31
                      have c31b1 : (t527 != 128) = true := bne_iff_ne.mpr c31
                      have H' := Aside0.mk H
                      clear H
                      go_wp2
                      go_meet
                      case rel => exact ⟨_, (true), (by first | rfl | (simp; done) | (simp [*]; done)), H', ⟨by have := HJ5.out; have := HK2.out; have := HJ11.out; first | omega | exact Nat.le_refl _⟩, ⟨by (with_reducible repeat (first | refine blk_drewN ?_ _ | refine blk_drew ?_ | refine blk_alloc ?_ _)); refine blk_put (cs := #[.int .i64 t522, .int .i64 t523, .int .i64 t524, .int .i64 t525, .bool x521004_2]) ?_ 4 _ rfl; (with_reducible repeat (first | refine blk_drewN ?_ _ | refine blk_drew ?_ | refine blk_alloc ?_ _)); refine blk_put (cs := #[.int .i64 t522, .int .i64 t523, .int .i64 t524, .int .i64 x521003_2, .bool x521004_2]) ?_ 3 _ rfl; (with_reducible repeat (first | refine blk_drewN ?_ _ | refine blk_drew ?_ | refine blk_alloc ?_ _)); refine blk_put (cs := #[.int .i64 t522, .int .i64 t523, .int .i64 x521002_2, .int .i64 x521003_2, .bool x521004_2]) ?_ 2 _ rfl; (with_reducible repeat (first | refine blk_drewN ?_ _ | refine blk_drew ?_ | refine blk_alloc ?_ _)); refine blk_put (cs := #[.int .i64 t522, .int .i64 x521001_2, .int .i64 x521002_2, .int .i64 x521003_2, .bool x521004_2]) ?_ 1 _ rfl; (with_reducible repeat (first | refine blk_drewN ?_ _ | refine blk_drew ?_ | refine blk_alloc ?_ _)); refine blk_put (cs := #[.int .i64 x521000_2, .int .i64 x521001_2, .int .i64 x521002_2, .int .i64 x521003_2, .bool x521004_2]) ?_ 0 _ rfl; (with_reducible repeat (first | refine blk_drewN ?_ _ | refine blk_drew ?_ | refine blk_alloc ?_ _)); refine blk_far ?_ NB520_528.out _; (with_reducible repeat (first | refine blk_drewN ?_ _ | refine blk_drew ?_ | refine blk_alloc ?_ _)); refine blk_far ?_ NB520_528.out _; (with_reducible repeat (first | refine blk_drewN ?_ _ | refine blk_drew ?_ | refine blk_alloc ?_ _)); refine blk_far ?_ NB520_528.out _; (with_reducible repeat (first | refine blk_drewN ?_ _ | refine blk_drew ?_ | refine blk_alloc ?_ _)); refine blk_far ?_ NB520_528.out _; (with_reducible repeat (first | refine blk_drewN ?_ _ | refine blk_drew ?_ | refine blk_alloc ?_ _)); refine blk_far ?_ NB520_528.out _; (with_reducible repeat (first | refine blk_drewN ?_ _ | refine blk_drew ?_ | refine blk_alloc ?_ _)); exact BK520.out⟩, ⟨by (with_reducible repeat (first | refine blk_drewN ?_ _ | refine blk_drew ?_ | refine blk_alloc ?_ _)); refine blk_far ?_ NB528_520.out _; (with_reducible repeat (first | refine blk_drewN ?_ _ | refine blk_drew ?_ | refine blk_alloc ?_ _)); refine blk_far ?_ NB528_520.out _; (with_reducible repeat (first | refine blk_drewN ?_ _ | refine blk_drew ?_ | refine blk_alloc ?_ _)); refine blk_far ?_ NB528_520.out _; (with_reducible repeat (first | refine blk_drewN ?_ _ | refine blk_drew ?_ | refine blk_alloc ?_ _)); refine blk_far ?_ NB528_520.out _; (with_reducible repeat (first | refine blk_drewN ?_ _ | refine blk_drew ?_ | refine blk_alloc ?_ _)); refine blk_far ?_ NB528_520.out _; (with_reducible repeat (first | refine blk_drewN ?_ _ | refine blk_drew ?_ | refine blk_alloc ?_ _)); refine blk_put (cs := #[.int .i64 t522, .int .i64 t523, .int .i64 t524, .int .i64 t525, .bool false]) ?_ 4 _ rfl; (with_reducible repeat (first | refine blk_drewN ?_ _ | refine blk_drew ?_ | refine blk_alloc ?_ _)); refine blk_put (cs := #[.int .i64 t522, .int .i64 t523, .int .i64 t524, .int .i64 0, .bool false]) ?_ 3 _ rfl; (with_reducible repeat (first | refine blk_drewN ?_ _ | refine blk_drew ?_ | refine blk_alloc ?_ _)); refine blk_put (cs := #[.int .i64 t522, .int .i64 t523, .int .i64 0, .int .i64 0, .bool false]) ?_ 2 _ rfl; (with_reducible repeat (first | refine blk_drewN ?_ _ | refine blk_drew ?_ | refine blk_alloc ?_ _)); refine blk_put (cs := #[.int .i64 t522, .int .i64 0, .int .i64 0, .int .i64 0, .bool false]) ?_ 1 _ rfl; (with_reducible repeat (first | refine blk_drewN ?_ _ | refine blk_drew ?_ | refine blk_alloc ?_ _)); refine blk_put (cs := #[.int .i64 0, .int .i64 0, .int .i64 0, .int .i64 0, .bool false]) ?_ 0 _ rfl; (with_reducible repeat (first | refine blk_drewN ?_ _ | refine blk_drew ?_ | refine blk_alloc ?_ _)); exact BK528.out⟩, ⟨by repeat (first | (with_reducible first | exact HB.out | apply below_alloc | apply pw_below_drewN | apply below_drew1 | refine below_set ?_ GE520.out | refine below_set ?_ GE528.out) | exact HB.out)⟩⟩
                  · rw [if_neg c30] at H
                    have c30b0 : decide (140 < (wrap64 ((wrap64 ((wrap64 (16 * (wrap64 (a1)))) + 8)) - x8_2))) = false := decide_eq_false c30
                    clear c30
                    (first | rw [c30b0] | (simp only [i64_w, i32_w]; rw [c30b0]) | skip)
                    by_cases c33 : (wrap64 ((wrap64 ((wrap64 (16 * (wrap64 (a1)))) + 8)) - x8_2)) < (-140)
                    · rw [if_pos c33] at H
                      have c33b0 : decide ((wrap64 ((wrap64 ((wrap64 (16 * (wrap64 (a1)))) + 8)) - x8_2)) < (-140)) = true := decide_eq_true c33
                      clear c33
                      have H' := Aside0.mk H
                      clear H
                      go_wp2
                      go_meet
                      case rel => exact ⟨_, ((t527 != (-128))), (by first | rfl | (simp; done) | (simp [*]; done)), H', ⟨by have := HJ5.out; have := HK2.out; have := HJ11.out; first | omega | exact Nat.le_refl _⟩, ⟨by (with_reducible repeat (first | refine blk_drewN ?_ _ | refine blk_drew ?_ | refine blk_alloc ?_ _)); refine blk_put (cs := #[.int .i64 t522, .int .i64 t523, .int .i64 t524, .int .i64 t525, .bool x521004_2]) ?_ 4 _ rfl; (with_reducible repeat (first | refine blk_drewN ?_ _ | refine blk_drew ?_ | refine blk_alloc ?_ _)); refine blk_put (cs := #[.int .i64 t522, .int .i64 t523, .int .i64 t524, .int .i64 x521003_2, .bool x521004_2]) ?_ 3 _ rfl; (with_reducible repeat (first | refine blk_drewN ?_ _ | refine blk_drew ?_ | refine blk_alloc ?_ _)); refine blk_put (cs := #[.int .i64 t522, .int .i64 t523, .int .i64 x521002_2, .int .i64 x521003_2, .bool x521004_2]) ?_ 2 _ rfl; (with_reducible repeat (first | refine blk_drewN ?_ _ | refine blk_drew ?_ | refine blk_alloc ?_ _)); refine blk_put (cs := #[.int .i64 t522, .int .i64 x521001_2, .int .i64 x521002_2, .int .i64 x521003_2, .bool x521004_2]) ?_ 1 _ rfl; (with_reducible repeat (first | refine blk_drewN ?_ _ | refine blk_drew ?_ | refine blk_alloc ?_ _)); refine blk_put (cs := #[.int .i64 x521000_2, .int .i64 x521001_2, .int .i64 x521002_2, .int .i64 x521003_2, .bool x521004_2]) ?_ 0 _ rfl; (with_reducible repeat (first | refine blk_drewN ?_ _ | refine blk_drew ?_ | refine blk_alloc ?_ _)); refine blk_far ?_ NB520_528.out _; (with_reducible repeat (first | refine blk_drewN ?_ _ | refine blk_drew ?_ | refine blk_alloc ?_ _)); refine blk_far ?_ NB520_528.out _; (with_reducible repeat (first | refine blk_drewN ?_ _ | refine blk_drew ?_ | refine blk_alloc ?_ _)); refine blk_far ?_ NB520_528.out _; (with_reducible repeat (first | refine blk_drewN ?_ _ | refine blk_drew ?_ | refine blk_alloc ?_ _)); refine blk_far ?_ NB520_528.out _; (with_reducible repeat (first | refine blk_drewN ?_ _ | refine blk_drew ?_ | refine blk_alloc ?_ _)); refine blk_far ?_ NB520_528.out _; (with_reducible repeat (first | refine blk_drewN ?_ _ | refine blk_drew ?_ | refine blk_alloc ?_ _)); exact BK520.out⟩, ⟨by (with_reducible repeat (first | refine blk_drewN ?_ _ | refine blk_drew ?_ | refine blk_alloc ?_ _)); refine blk_far ?_ NB528_520.out _; (with_reducible repeat (first | refine blk_drewN ?_ _ | refine blk_drew ?_ | refine blk_alloc ?_ _)); refine blk_far ?_ NB528_520.out _; (with_reducible repeat (first | refine blk_drewN ?_ _ | refine blk_drew ?_ | refine blk_alloc ?_ _)); refine blk_far ?_ NB528_520.out _; (with_reducible repeat (first | refine blk_drewN ?_ _ | refine blk_drew ?_ | refine blk_alloc ?_ _)); refine blk_far ?_ NB528_520.out _; (with_reducible repeat (first | refine blk_drewN ?_ _ | refine blk_drew ?_ | refine blk_alloc ?_ _)); refine blk_far ?_ NB528_520.out _; (with_reducible repeat (first | refine blk_drewN ?_ _ | refine blk_drew ?_ | refine blk_alloc ?_ _)); refine blk_put (cs := #[.int .i64 t522, .int .i64 t523, .int .i64 t524, .int .i64 t525, .bool false]) ?_ 4 _ rfl; (with_reducible repeat (first | refine blk_drewN ?_ _ | refine blk_drew ?_ | refine blk_alloc ?_ _)); refine blk_put (cs := #[.int .i64 t522, .int .i64 t523, .int .i64 t524, .int .i64 0, .bool false]) ?_ 3 _ rfl; (with_reducible repeat (first | refine blk_drewN ?_ _ | refine blk_drew ?_ | refine blk_alloc ?_ _)); refine blk_put (cs := #[.int .i64 t522, .int .i64 t523, .int .i64 0, .int .i64 0, .bool false]) ?_ 2 _ rfl; (with_reducible repeat (first | refine blk_drewN ?_ _ | refine blk_drew ?_ | refine blk_alloc ?_ _)); refine blk_put (cs := #[.int .i64 t522, .int .i64 0, .int .i64 0, .int .i64 0, .bool false]) ?_ 1 _ rfl; (with_reducible repeat (first | refine blk_drewN ?_ _ | refine blk_drew ?_ | refine blk_alloc ?_ _)); refine blk_put (cs := #[.int .i64 0, .int .i64 0, .int .i64 0, .int .i64 0, .bool false]) ?_ 0 _ rfl; (with_reducible repeat (first | refine blk_drewN ?_ _ | refine blk_drew ?_ | refine blk_alloc ?_ _)); exact BK528.out⟩, ⟨by repeat (first | (with_reducible first | exact HB.out | apply below_alloc | apply pw_below_drewN | apply below_drew1 | refine below_set ?_ GE520.out | refine below_set ?_ GE528.out) | exact HB.out)⟩⟩
                    · rw [if_neg c33] at H
                      have c33b0 : decide ((wrap64 ((wrap64 ((wrap64 (16 * (wrap64 (a1)))) + 8)) - x8_2)) < (-140)) = false := decide_eq_false c33
                      clear c33
                      have H' := Aside0.mk H
                      clear H
                      go_wp2
                      go_meet
                      case rel => exact ⟨_, (false), (by first | rfl | (simp; done) | (simp [*]; done)), H', ⟨by have := HJ5.out; have := HK2.out; have := HJ11.out; first | omega | exact Nat.le_refl _⟩, ⟨by (with_reducible repeat (first | refine blk_drewN ?_ _ | refine blk_drew ?_ | refine blk_alloc ?_ _)); refine blk_put (cs := #[.int .i64 t522, .int .i64 t523, .int .i64 t524, .int .i64 t525, .bool x521004_2]) ?_ 4 _ rfl; (with_reducible repeat (first | refine blk_drewN ?_ _ | refine blk_drew ?_ | refine blk_alloc ?_ _)); refine blk_put (cs := #[.int .i64 t522, .int .i64 t523, .int .i64 t524, .int .i64 x521003_2, .bool x521004_2]) ?_ 3 _ rfl; (with_reducible repeat (first | refine blk_drewN ?_ _ | refine blk_drew ?_ | refine blk_alloc ?_ _)); refine blk_put (cs := #[.int .i64 t522, .int .i64 t523, .int .i64 x521002_2, .int .i64 x521003_2, .bool x521004_2]) ?_ 2 _ rfl; (with_reducible repeat (first | refine blk_drewN ?_ _ | refine blk_drew ?_ | refine blk_alloc ?_ _)); refine blk_put (cs := #[.int .i64 t522, .int .i64 x521001_2, .int .i64 x521002_2, .int .i64 x521003_2, .bool x521004_2]) ?_ 1 _ rfl; (with_reducible repeat (first | refine blk_drewN ?_ _ | refine blk_drew ?_ | refine blk_alloc ?_ _)); refine blk_put (cs := #[.int .i64 x521000_2, .int .i64 x521001_2, .int .i64 x521002_2, .int .i64 x521003_2, .bool x521004_2]) ?_ 0 _ rfl; (with_reducible repeat (first | refine blk_drewN ?_ _ | refine blk_drew ?_ | refine blk_alloc ?_ _)); refine blk_far ?_ NB520_528.out _; (with_reducible repeat (first | refine blk_drewN ?_ _ | refine blk_drew ?_ | refine blk_alloc ?_ _)); refine blk_far ?_ NB520_528.out _; (with_reducible repeat (first | refine blk_drewN ?_ _ | refine blk_drew ?_ | refine blk_alloc ?_ _)); refine blk_far ?_ NB520_528.out _; (with_reducible repeat (first | refine blk_drewN ?_ _ | refine blk_drew ?_ | refine blk_alloc ?_ _)); refine blk_far ?_ NB520_528.out _; (with_reducible repeat (first | refine blk_drewN ?_ _ | refine blk_drew ?_ | refine blk_alloc ?_ _)); refine blk_far ?_ NB520_528.out _; (with_reducible repeat (first | refine blk_drewN ?_ _ | refine blk_drew ?_ | refine blk_alloc ?_ _)); exact BK520.out⟩, ⟨by (with_reducible repeat (first | refine blk_drewN ?_ _ | refine blk_drew ?_ | refine blk_alloc ?_ _)); refine blk_far ?_ NB528_520.out _; (with_reducible repeat (first | refine blk_drewN ?_ _ | refine blk_drew ?_ | refine blk_alloc ?_ _)); refine blk_far ?_ NB528_520.out _; (with_reducible repeat (first | refine blk_drewN ?_ _ | refine blk_drew ?_ | refine blk_alloc ?_ _)); refine blk_far ?_ NB528_520.out _; (with_reducible repeat (first | refine blk_drewN ?_ _ | refine blk_drew ?_ | refine blk_alloc ?_ _)); refine blk_far ?_ NB528_520.out _; (with_reducible repeat (first | refine blk_drewN ?_ _ | refine blk_drew ?_ | refine blk_alloc ?_ _)); refine blk_far ?_ NB528_520.out _; (with_reducible repeat (first | refine blk_drewN ?_ _ | refine blk_drew ?_ | refine blk_alloc ?_ _)); refine blk_put (cs := #[.int .i64 t522, .int .i64 t523, .int .i64 t524, .int .i64 t525, .bool false]) ?_ 4 _ rfl; (with_reducible repeat (first | refine blk_drewN ?_ _ | refine blk_drew ?_ | refine blk_alloc ?_ _)); refine blk_put (cs := #[.int .i64 t522, .int .i64 t523, .int .i64 t524, .int .i64 0, .bool false]) ?_ 3 _ rfl; (with_reducible repeat (first | refine blk_drewN ?_ _ | refine blk_drew ?_ | refine blk_alloc ?_ _)); refine blk_put (cs := #[.int .i64 t522, .int .i64 t523, .int .i64 0, .int .i64 0, .bool false]) ?_ 2 _ rfl; (with_reducible repeat (first | refine blk_drewN ?_ _ | refine blk_drew ?_ | refine blk_alloc ?_ _)); refine blk_put (cs := #[.int .i64 t522, .int .i64 0, .int .i64 0, .int .i64 0, .bool false]) ?_ 1 _ rfl; (with_reducible repeat (first | refine blk_drewN ?_ _ | refine blk_drew ?_ | refine blk_alloc ?_ _)); refine blk_put (cs := #[.int .i64 0, .int .i64 0, .int .i64 0, .int .i64 0, .bool false]) ?_ 0 _ rfl; (with_reducible repeat (first | refine blk_drewN ?_ _ | refine blk_drew ?_ | refine blk_alloc ?_ _)); exact BK528.out⟩, ⟨by repeat (first | (with_reducible first | exact HB.out | apply below_alloc | apply pw_below_drewN | apply below_drew1 | refine below_set ?_ GE520.out | refine below_set ?_ GE528.out) | exact HB.out)⟩⟩
                case rest =>
                  clear HC17
                  try clear c1
                  try clear c2
                  try clear p2
                  try clear c3
                  try clear p6
                  try clear c11
                  try clear c11b0
                  try clear c13
                  try clear c13b0
                  try clear c14
                  try clear c27
                  try clear c30
                  try clear c30b0
                  try clear c31
                  try clear c31b0
                  try clear c31b1
                  try clear c32
                  try clear c32b0
                  try clear c33
                  try clear c33b0
                  try clear hcz10_0
                  try clear hcz10_1
                  try clear hcz10_2
                  try clear hcz10_3
                  try clear hcz10_4
                  try clear hcz28_0
                  try clear hcz28_1
                  try clear hcz28_2
                  try clear hcz28_3
                  try clear hcz28_4
                  try clear hcz29_0
                  try clear hcz29_1
                  try clear hcz29_2
                  try clear hcz29_3
                  try clear hcz29_4
                  try clear hfz10_0
                  try clear hfz10_1
                  try clear hfz10_2
                  try clear hfz10_3
                  try clear hfz10_4
                  try clear hfz28_0
                  try clear hfz28_1
                  try clear hfz28_2
                  try clear hfz28_3
                  try clear hfz28_4
                  try clear hfz29_0
                  try clear hfz29_1
                  try clear hfz29_2
                  try clear hfz29_3
                  try clear hfz29_4
                  try clear p2
                  try clear p6
                  obtain ⟨kq, x77_16, rfl, HA, HJ16, BK520, BK528, HB⟩ := hcut
                  cases kq with
                  | zero => exact absurd HA.out (by simp [ambidexterlaw25_ServoConverges.j3])
                  | succ kj16 =>
                    have H := HA.out
                    clear HA
                    simp only [ambidexterlaw25_ServoConverges.j3] at H
                    by_cases c34 : x77_16 = true
                    · subst c34
                      have H1 : (some false) = some r := by rw [if_pos rfl] at H; exact H
                      clear H
                      have H := H1
                      clear H1
                      exact absurd HT.out (by rw [← Option.some.inj H]; decide)
                    · replace c34 := Bool.eq_false_iff.mpr c34
                      subst c34
                      have H1 : (if x13_2 ≥ (wrap64 ((wrap64 (Int.tdiv x11_5 128)) + 2)) then ((ambidexterref24_Quant.f (wrap64 (x8_2 + t527))).bind fun t529 => (if t529 = (wrap64 (a1)) then (ambidexterlaw25_ServoConverges.l0 kj16 a1 a2 true (wrap64 (x8_2 + t527)) (wrap64 ((wrap64 (16 * (wrap64 (a1)))) + 8)) (wrap64 ((wrap64 (Int.tdiv x11_5 128)) + 2)) (wrap64 (x13_2 + 1)) t522 t523 t524 t525 t526) else (some false))) else (ambidexterlaw25_ServoConverges.l0 kj16 a1 a2 true (wrap64 (x8_2 + t527)) (wrap64 ((wrap64 (16 * (wrap64 (a1)))) + 8)) (wrap64 ((wrap64 (Int.tdiv x11_5 128)) + 2)) (wrap64 (x13_2 + 1)) t522 t523 t524 t525 t526)) = some r := by rw [if_neg (show ¬ (false = true) by decide)] at H; exact H
                      clear H
                      have H := H1
                      clear H1
                      by_cases c35 : x13_2 ≥ (wrap64 ((wrap64 (Int.tdiv x11_5 128)) + 2))
                      · rw [if_pos c35] at H
                        have c35b0 : decide ((wrap64 ((wrap64 (Int.tdiv x11_5 128)) + 2)) ≤ x13_2) = true := decide_eq_true c35
                        clear c35
                        replace H := Option.bind_eq_some_iff.mp H
                        obtain ⟨t529, A360, H⟩ := H
                        replace H : (if t529 = (wrap64 (a1)) then (ambidexterlaw25_ServoConverges.l0 kj16 a1 a2 true (wrap64 (x8_2 + t527)) (wrap64 ((wrap64 (16 * (wrap64 (a1)))) + 8)) (wrap64 ((wrap64 (Int.tdiv x11_5 128)) + 2)) (wrap64 (x13_2 + 1)) t522 t523 t524 t525 t526) else (some false)) = some r := H
                        have A36 := Aside0.mk A360
                        clear A360
                        by_cases c37 : t529 = (wrap64 (a1))
                        · rw [if_pos c37] at H
                          have c37b0 : (t529 == (wrap64 (a1))) = true := beq_iff_eq.mpr c37
                          have c37b1 : (t529 != (wrap64 (a1))) = false := bne_eq_false_iff_eq.mpr c37
                          clear c37
                          have H' := Aside0.mk H
                          clear H
                          go_wp2_with (first | (go_at_call 36; (with_reducible refine (ambidexterref24_Quant.calls (wrap64 (x8_2 + t527)) t529 _ A36.out).mono ?_); rintro e w' ⟨rfl, ⟨nd, rfl⟩⟩))
                          go_roundg kj16
                          case measure => have := HJ5.out; have := HK2.out; have := HJ11.out; have := HJ16.out; omega
                          case rel => exact ⟨((wrap64 (x8_2 + t527))), (wrap64 (x13_2 + 1)), (t522), (t523), (t524), (t525), (t526), (by first | rfl | (simp; done) | (simp [*]; done)), (by first | rfl | (simp; done) | (simp [*]; done)), H', ⟨by have := HJ5.out; have := HK2.out; have := HJ11.out; have := HJ16.out; omega⟩, ⟨by (with_reducible repeat (first | refine blk_drewN ?_ _ | refine blk_drew ?_ | refine blk_alloc ?_ _)); exact BK520.out⟩, ⟨by repeat (first | (with_reducible first | exact HB.out | apply below_alloc | apply pw_below_drewN | apply below_drew1 | refine below_set ?_ GE520.out | refine below_set ?_ GE528.out) | exact HB.out)⟩⟩
                        · rw [if_neg c37] at H
                          have c37b0 : (t529 == (wrap64 (a1))) = false := beq_eq_false_iff_ne.mpr c37
                          have c37b1 : (t529 != (wrap64 (a1))) = true := bne_iff_ne.mpr c37
                          exact absurd HT.out (by rw [← Option.some.inj H]; decide)
                      · rw [if_neg c35] at H
                        have c35b0 : decide ((wrap64 ((wrap64 (Int.tdiv x11_5 128)) + 2)) ≤ x13_2) = false := decide_eq_false c35
                        clear c35
                        have H' := Aside0.mk H
                        clear H
                        go_wp2
                        go_roundg kj16
                        case measure => have := HJ5.out; have := HK2.out; have := HJ11.out; have := HJ16.out; omega
                        case rel => exact ⟨((wrap64 (x8_2 + t527))), (wrap64 (x13_2 + 1)), (t522), (t523), (t524), (t525), (t526), (by first | rfl | (simp; done) | (simp [*]; done)), (by first | rfl | (simp; done) | (simp [*]; done)), H', ⟨by have := HJ5.out; have := HK2.out; have := HJ11.out; have := HJ16.out; omega⟩, ⟨by (with_reducible repeat (first | refine blk_drewN ?_ _ | refine blk_drew ?_ | refine blk_alloc ?_ _)); exact BK520.out⟩, ⟨by repeat (first | (with_reducible first | exact HB.out | apply below_alloc | apply pw_below_drewN | apply below_drew1 | refine below_set ?_ GE520.out | refine below_set ?_ GE528.out) | exact HB.out)⟩⟩
              · replace c14 := Bool.eq_false_iff.mpr c14
                subst c14
                have H1 : (some true) = some r := by rw [if_neg (show ¬ (false = true) by decide)] at H; exact H
                clear H
                have H := H1
                clear H1
                obtain rfl := Option.some.inj H
                go_wp2
                go_ret
                exact ⟨by first | rfl | (simp [errW_none, errW_some] <;> rfl) | (simp [*, errW_none, errW_some] <;> rfl), by repeat (first | (with_reducible first | exact HB.out | apply below_alloc | apply pw_below_drewN | apply below_drew1 | refine below_set ?_ GE520.out) | exact HB.out)⟩

end Go.Proofs.Ytehibiikdlgneaa.P
