-- Written by this session's own program, for this seat. Lean checks it.
import Derived.Test.YtehibiikdlgneaaP0
import Derived.Test.YtehibiikdlgneaaP11
import Derived.Test.YtehibiikdlgneaaP12
import Derived.Test.YtehibiikdlgneaaXFar
namespace Go.Proofs.Ytehibiikdlgneaa.P
open Go.RowKit Go.Proofs.YtehibiikdlgneaaW.PrintWords Go.Proofs.YtehibiikdlgneaaW.PrintLast Go.Proofs.YtehibiikdlgneaaW.PrintMore
attribute [local go_sem] max2_int min2_int max_two min_two max_three min_three max_four min_four   -- for this text's walks alone
set_option linter.unusedVariables false
set_option linter.unusedSimpArgs false

/-! ### ambidexterlaw25_ServoTracksTarget: function 10 -/
mutual
def ambidexterlaw25_ServoTracksTarget.l0 : Nat → List (S54) → Bool → Int → Int → Int → Int → Int → Int → Int → Bool → Option (Bool)
 | 0, _, _, _, _, _, _, _, _, _, _ => none
 | k + 1, x1, x5, x6, x8, x9, x502000, x502001, x502002, x502003, x502004 => if x9 < (x1.length : Int) then (if 0 ≤ x9 then (if x8 ≥ 6 then (ambidexterlaw25_ServoTracksTarget.j1 k x1 x5 x6 x8 x9 1 x502000 x502001 x502002 x502003 x502004) else (ambidexterlaw25_ServoTracksTarget.j1 k x1 x5 x6 x8 x9 (wrap64 ((Int.tmod (wrap64 ((rd_T54 x1 x9).f0)) 3) + 1)) x502000 x502001 x502002 x502003 x502004)) else (none)) else (some x5)
def ambidexterlaw25_ServoTracksTarget.j1 : Nat → List (S54) → Bool → Int → Int → Int → Int → Int → Int → Int → Int → Bool → Option (Bool)
 | 0, _, _, _, _, _, _, _, _, _, _, _ => none
 | k + 1, x1, x5, x6, x8, x9, x10, x502000, x502001, x502002, x502003, x502004 => if x10 = 1 then (ambidexterlaw25_ServoTracksTarget.j2 k x1 x5 x6 0 x9 x10 x502000 x502001 x502002 x502003 x502004) else (ambidexterlaw25_ServoTracksTarget.j2 k x1 x5 x6 (wrap64 (x8 + 1)) x9 x10 x502000 x502001 x502002 x502003 x502004)
def ambidexterlaw25_ServoTracksTarget.j2 : Nat → List (S54) → Bool → Int → Int → Int → Int → Int → Int → Int → Int → Bool → Option (Bool)
 | 0, _, _, _, _, _, _, _, _, _, _, _ => none
 | k + 1, x1, x5, x6, x8, x9, x10, x502000, x502001, x502002, x502003, x502004 => (ambidexterref24_Quant.f x6).bind fun t503 => (if 0 ≤ x9 then (if x9 < (x1.length : Int) then ((servo_Step.f x502000 x502001 x502002 x502003 x502004 x10 t503 (wrap64 ((rd_T54 x1 x9).f2))).bind fun bt505 => (if bt505.2.2.2.2.1 = true then (some false) else (if bt505.2.2.2.2.2 < 128 then (if bt505.2.2.2.2.2 > (-128) then ((ambidexterref24_Quant.f (wrap64 (x6 + bt505.2.2.2.2.2))).bind fun t512 => (if t512 = (wrap64 ((rd_T54 x1 x9).f2)) then (ambidexterlaw25_ServoTracksTarget.l0 k x1 x5 (wrap64 (x6 + bt505.2.2.2.2.2)) x8 (wrap64 (x9 + 1)) bt505.1 bt505.2.1 bt505.2.2.1 bt505.2.2.2.1 bt505.2.2.2.2.1) else (some false))) else (ambidexterlaw25_ServoTracksTarget.l0 k x1 x5 (wrap64 (x6 + bt505.2.2.2.2.2)) x8 (wrap64 (x9 + 1)) bt505.1 bt505.2.1 bt505.2.2.1 bt505.2.2.2.1 bt505.2.2.2.2.1)) else (ambidexterlaw25_ServoTracksTarget.l0 k x1 x5 (wrap64 (x6 + bt505.2.2.2.2.2)) x8 (wrap64 (x9 + 1)) bt505.1 bt505.2.1 bt505.2.2.1 bt505.2.2.2.1 bt505.2.2.2.2.1)))) else (none)) else (none))
end
def ambidexterlaw25_ServoTracksTarget.f (k : Nat) (a0 : Int) (l1 : List (S54)) : Option (Bool) := (ambidexterlaw25_head.f).bind fun t495 => (if (l1.length : Int) > 300 then (some t495) else ((servo_New.f (wrap64 (a0))).bind fun bt496 => (ambidexterlaw25_ServoTracksTarget.l0 k l1 t495 (wrap64 (a0)) 0 0 bt496.1 bt496.2.1 bt496.2.2.1 bt496.2.2.2.1 bt496.2.2.2.2)))
theorem ambidexterlaw25_ServoTracksTarget.mono_l : ∀ k, (∀ y0 y1 y2 y3 y4 y5 y6 y7 y8 y9, LeO (ambidexterlaw25_ServoTracksTarget.l0 k y0 y1 y2 y3 y4 y5 y6 y7 y8 y9) (ambidexterlaw25_ServoTracksTarget.l0 (k + 1) y0 y1 y2 y3 y4 y5 y6 y7 y8 y9)) ∧ (∀ y0 y1 y2 y3 y4 y5 y6 y7 y8 y9 y10, LeO (ambidexterlaw25_ServoTracksTarget.j1 k y0 y1 y2 y3 y4 y5 y6 y7 y8 y9 y10) (ambidexterlaw25_ServoTracksTarget.j1 (k + 1) y0 y1 y2 y3 y4 y5 y6 y7 y8 y9 y10)) ∧ (∀ y0 y1 y2 y3 y4 y5 y6 y7 y8 y9 y10, LeO (ambidexterlaw25_ServoTracksTarget.j2 k y0 y1 y2 y3 y4 y5 y6 y7 y8 y9 y10) (ambidexterlaw25_ServoTracksTarget.j2 (k + 1) y0 y1 y2 y3 y4 y5 y6 y7 y8 y9 y10))
 | 0 => ⟨fun _ _ _ _ _ _ _ _ _ _ r h => by simp [ambidexterlaw25_ServoTracksTarget.l0] at h, fun _ _ _ _ _ _ _ _ _ _ _ r h => by simp [ambidexterlaw25_ServoTracksTarget.j1] at h, fun _ _ _ _ _ _ _ _ _ _ _ r h => by simp [ambidexterlaw25_ServoTracksTarget.j2] at h⟩
 | k + 1 => by
  obtain ⟨ih0, ih1, ih2⟩ := ambidexterlaw25_ServoTracksTarget.mono_l k
  refine ⟨?_, ?_, ?_⟩
  ·
   intro y0 y1 y2 y3 y4 y5 y6 y7 y8 y9
   unfold ambidexterlaw25_ServoTracksTarget.l0
   repeat' first
   | (with_reducible exact ih0 _ _ _ _ _ _ _ _ _ _)
   | (with_reducible exact ih1 _ _ _ _ _ _ _ _ _ _ _)
   | (with_reducible exact ih2 _ _ _ _ _ _ _ _ _ _ _)
   | (with_reducible exact LeO.refl _)
   | (with_reducible exact LeO.none _)
   | (with_reducible refine LeO.ite ?_ ?_)
   | (with_reducible refine LeO.bind ?_ (fun _ => ?_))
   | exact ih0 _ _ _ _ _ _ _ _ _ _
   | exact ih1 _ _ _ _ _ _ _ _ _ _ _
   | exact ih2 _ _ _ _ _ _ _ _ _ _ _
   | exact LeO.none _
   | refine LeO.ite ?_ ?_
   | refine LeO.bind ?_ (fun _ => ?_)
  ·
   intro y0 y1 y2 y3 y4 y5 y6 y7 y8 y9 y10
   unfold ambidexterlaw25_ServoTracksTarget.j1
   repeat' first
   | (with_reducible exact ih0 _ _ _ _ _ _ _ _ _ _)
   | (with_reducible exact ih1 _ _ _ _ _ _ _ _ _ _ _)
   | (with_reducible exact ih2 _ _ _ _ _ _ _ _ _ _ _)
   | (with_reducible exact LeO.refl _)
   | (with_reducible exact LeO.none _)
   | (with_reducible refine LeO.ite ?_ ?_)
   | (with_reducible refine LeO.bind ?_ (fun _ => ?_))
   | exact ih0 _ _ _ _ _ _ _ _ _ _
   | exact ih1 _ _ _ _ _ _ _ _ _ _ _
   | exact ih2 _ _ _ _ _ _ _ _ _ _ _
   | exact LeO.none _
   | refine LeO.ite ?_ ?_
   | refine LeO.bind ?_ (fun _ => ?_)
  ·
   intro y0 y1 y2 y3 y4 y5 y6 y7 y8 y9 y10
   unfold ambidexterlaw25_ServoTracksTarget.j2
   repeat' first
   | (with_reducible exact ih0 _ _ _ _ _ _ _ _ _ _)
   | (with_reducible exact ih1 _ _ _ _ _ _ _ _ _ _ _)
   | (with_reducible exact ih2 _ _ _ _ _ _ _ _ _ _ _)
   | (with_reducible exact LeO.refl _)
   | (with_reducible exact LeO.none _)
   | (with_reducible refine LeO.ite ?_ ?_)
   | (with_reducible refine LeO.bind ?_ (fun _ => ?_))
   | exact ih0 _ _ _ _ _ _ _ _ _ _
   | exact ih1 _ _ _ _ _ _ _ _ _ _ _
   | exact ih2 _ _ _ _ _ _ _ _ _ _ _
   | exact LeO.none _
   | refine LeO.ite ?_ ?_
   | refine LeO.bind ?_ (fun _ => ?_)
theorem ambidexterlaw25_ServoTracksTarget.mono : ∀ a0 a1 k, LeO (ambidexterlaw25_ServoTracksTarget.f k a0 a1) (ambidexterlaw25_ServoTracksTarget.f (k + 1) a0 a1) := by
 intro a0 a1 k
 obtain ⟨ih0, ih1, ih2⟩ := ambidexterlaw25_ServoTracksTarget.mono_l k
 unfold ambidexterlaw25_ServoTracksTarget.f
 repeat' first
   | (with_reducible exact ih0 _ _ _ _ _ _ _ _ _ _)
   | (with_reducible exact ih1 _ _ _ _ _ _ _ _ _ _ _)
   | (with_reducible exact ih2 _ _ _ _ _ _ _ _ _ _ _)
   | (with_reducible exact LeO.refl _)
   | (with_reducible exact LeO.none _)
   | (with_reducible refine LeO.ite ?_ ?_)
   | (with_reducible refine LeO.bind ?_ (fun _ => ?_))
   | exact ih0 _ _ _ _ _ _ _ _ _ _
   | exact ih1 _ _ _ _ _ _ _ _ _ _ _
   | exact ih2 _ _ _ _ _ _ _ _ _ _ _
   | exact LeO.none _
   | refine LeO.ite ?_ ?_
   | refine LeO.bind ?_ (fun _ => ?_)
def ambidexterlaw25_ServoTracksTarget.T16 : Bool × List (List Nat × List Nat) := (true, [([], []), ([], []), ([], []), ([2], [2]), ([], []), ([], []), ([4, 5], [4, 5]), ([6], [6]), ([7], [7]), ([8], [8]), ([0, 1, 3, 9, 3], [0, 1, 3, 9]), ([10], [10]), ([11], [11]), ([11], [11]), ([], []), ([14, 12, 10, 0, 1, 2, 3, 4, 5, 6, 7, 8, 9, 10, 11, 12, 14], [12, 14]), ([13, 15, 0, 1, 2, 3, 4, 5, 6, 7, 8, 9, 10, 11, 12, 13, 14, 15], [13])])
def ambidexterlaw25_ServoTracksTarget.B16 : List Nat := [0, 0, 0, 4, 0, 0, 48, 112, 240, 496, 1023, 2047, 4095, 4095, 0, 24575, 65535]
theorem ambidexterlaw25_ServoTracksTarget.tab16 : rtab .any (opsOf Try.f10 16) = ambidexterlaw25_ServoTracksTarget.T16 := by kernel_rfl
theorem ambidexterlaw25_ServoTracksTarget.bits16 : waitsOk ambidexterlaw25_ServoTracksTarget.T16.2 ambidexterlaw25_ServoTracksTarget.B16 = true := by kernel_rfl
def ambidexterlaw25_ServoTracksTarget.T18 : Bool × List (List Nat × List Nat) := (true, [([], []), ([0], [0]), ([1], [1]), ([2], [2]), ([3, 2], [2, 3]), ([4, 2, 2], [2, 4]), ([5], [5]), ([6, 5], [5, 6]), ([5, 7, 2], [2, 5, 7]), ([8, 5, 2], [2, 8]), ([9], [9]), ([10, 9, 9], [9, 10]), ([9], [9]), ([9], [9]), ([12, 13, 9], [9, 12, 13]), ([14, 9], [9, 14]), ([15, 9], [9, 15]), ([16, 9], [9, 16]), ([11, 17, 9], [9, 11, 17]), ([9, 18, 2], [2, 9, 18]), ([2, 19], [2, 19])])
def ambidexterlaw25_ServoTracksTarget.B18 : List Nat := [0, 1, 3, 7, 15, 31, 63, 127, 255, 511, 1023, 2047, 1023, 1023, 13311, 29695, 62463, 127999, 262143, 524287, 1048575]
theorem ambidexterlaw25_ServoTracksTarget.tab18 : rtab .any (opsOf Try.f10 18) = ambidexterlaw25_ServoTracksTarget.T18 := by kernel_rfl
theorem ambidexterlaw25_ServoTracksTarget.bits18 : waitsOk ambidexterlaw25_ServoTracksTarget.T18.2 ambidexterlaw25_ServoTracksTarget.B18 = true := by kernel_rfl
set_option maxHeartbeats 8000000 in
set_option maxRecDepth 100000 in
theorem ambidexterlaw25_ServoTracksTarget.calls0 (k : Nat) (a0 : Int) (A1 : Option Addr) (c1 : Nat) (l1 : List (S54)) (r : Bool) (w : World) (hr1 : Kd.C k54 w A1 l1.length l1) (hc1 : l1.length ≤ c1) (h : ambidexterlaw25_ServoTracksTarget.f k a0 l1 = some r) (hT : r = true) :
  Calls Try.prog 10 #[.int .i16 a0, .slice A1 l1.length c1] w fun e w' => e = .returned (.bool r) ∧ Below w.heap.size w w' := by
 have hu49 := Try.underlying49
 have HR1 := Aside0.mk hr1
 have HC1 := Aside0.mk hc1
 clear hr1 hc1
 have HB := Aside0.mk (Below.refl w.heap.size w)
 have H : ((ambidexterlaw25_head.f).bind fun t495 => (if (l1.length : Int) > 300 then (some t495) else ((servo_New.f (wrap64 (a0))).bind fun bt496 => (ambidexterlaw25_ServoTracksTarget.l0 k l1 t495 (wrap64 (a0)) 0 0 bt496.1 bt496.2.1 bt496.2.2.1 bt496.2.2.2.1 bt496.2.2.2.2)))) = some r := h
 clear h
 have HT := Aside0.mk hT
 clear hT
 replace H := Option.bind_eq_some_iff.mp H
 obtain ⟨t495, A30, H⟩ := H
 obtain rfl := ambidexterlaw25_head.is_true A30
 replace H : (if (l1.length : Int) > 300 then (some true) else ((servo_New.f (wrap64 (a0))).bind fun bt496 => (ambidexterlaw25_ServoTracksTarget.l0 k l1 true (wrap64 (a0)) 0 0 bt496.1 bt496.2.1 bt496.2.2.1 bt496.2.2.2.1 bt496.2.2.2.2))) = some r := H
 have A3 := Aside0.mk A30
 clear A30
 by_cases c4 : (l1.length : Int) > 300
 ·
  rw [if_pos c4] at H
  have c4b0 : decide (300 < (l1.length : Int)) = true := decide_eq_true c4
  have c4b1 : decide (300 < l1.length) = true := decide_eq_true (by omega)
  clear c4
  obtain rfl := Option.some.inj H
  go_enter Try.func10, Try.ntmps10
  go_wp2_with (first | ((with_reducible refine gate_callee (f := 29) rfl ?_); refine goesL_ (some 13) rfl rfl Try.func29 (by kernel_rfl) rfl #[] rfl (by (try simp only [List.map_toArray, List.map_cons, List.map_nil]); first | done | rfl | (simp only [List.length_drop, List.length_take]; rfl)) ?_; (with_reducible refine (ambidexterlaw25_head.calls  true _ A3.out).mono ?_); rintro e w5 ⟨rfl, hb⟩; refine ⟨_, rfl, ?_⟩; have n0_ := Aside0.mk (below_step (by repeat (first | (with_reducible first | exact HB.out | apply below_alloc | apply pw_below_drewN | apply below_drew1) | exact HB.out)) hb); clear HB; have HB := n0_; clear n0_; (try clear hb); (try clear hb2); (try clear hk); (try clear hi)))
  go_ret
  exact ⟨by first | rfl | (simp [errW_none, errW_some] <;> rfl) | (simp [*, errW_none, errW_some] <;> rfl), by repeat (first | (with_reducible first | exact HB.out | apply below_alloc | apply pw_below_drewN | apply below_drew1) | exact HB.out)⟩
 ·
  rw [if_neg c4] at H
  have c4b0 : decide (300 < (l1.length : Int)) = false := decide_eq_false c4
  have c4b1 : decide (300 < l1.length) = false := decide_eq_false (by omega)
  clear c4
  replace H := Option.bind_eq_some_iff.mp H
  obtain ⟨⟨t496, t497, t498, t499, t500⟩, A60, H⟩ := H
  replace H : (ambidexterlaw25_ServoTracksTarget.l0 k l1 true (wrap64 (a0)) 0 0 t496 t497 t498 t499 t500) = some r := H
  have A6 := Aside0.mk A60
  clear A60
  have H' := Aside0.mk H
  clear H
  go_enter Try.func10, Try.ntmps10
  go_wp2_with (first | ((with_reducible refine gate_callee (f := 29) rfl ?_); refine goesL_ (some 13) rfl rfl Try.func29 (by kernel_rfl) rfl #[] rfl (by (try simp only [List.map_toArray, List.map_cons, List.map_nil]); first | done | rfl | (simp only [List.length_drop, List.length_take]; rfl)) ?_; (with_reducible refine (ambidexterlaw25_head.calls  true _ A3.out).mono ?_); rintro e w7 ⟨rfl, hb⟩; refine ⟨_, rfl, ?_⟩; have n0_ := Aside0.mk (below_step (by repeat (first | (with_reducible first | exact HB.out | apply below_alloc | apply pw_below_drewN | apply below_drew1) | exact HB.out)) hb); clear HB; have HB := n0_; clear n0_; (try clear hb); (try clear hb2); (try clear hk); (try clear hi)) | ((with_reducible refine gate_callee (f := 30) rfl ?_); refine goesL_ (some 21) rfl rfl Try.func30 (by kernel_rfl) rfl #[.int .i64 (wrap64 (a0))] rfl (by (try simp only [List.map_toArray, List.map_cons, List.map_nil]); first | done | rfl | (simp only [List.length_drop, List.length_take]; rfl)) ?_; (with_reducible refine (servo_New.calls (wrap64 (a0)) t496 t497 t498 t499 t500 _ A6.out).mono ?_); rintro e w8 ⟨rfl, hb⟩; refine ⟨_, rfl, ?_⟩; have n0_ := Aside0.mk (below_step (by repeat (first | (with_reducible first | exact HB.out | apply below_alloc | apply pw_below_drewN | apply below_drew1) | exact HB.out)) hb); clear HB; have HB := n0_; clear n0_; (try clear hb); (try clear hb2); (try clear hk); (try clear hi)) | ((with_reducible refine gate_dst (N := 7) rfl ?_); refine box_event ?hg (N := 7) ?hd (cs := #[.int .i64 0, .int .i64 0, .int .i64 0, .int .i64 0, .bool false]) (t := 49) ?hr ?_; (case hd => rfl); (case hg => rfl); (case hr => first | (go_simp; done) | (go_simp; rfl)); intro gb501 hg w9 hbox hb; have n0_ := Aside0.mk (below_step (by repeat (first | (with_reducible first | exact HB.out | apply below_alloc | apply pw_below_drewN | apply below_drew1) | exact HB.out)) hb); have n1_ := Aside0.mk (hbox); have n2_ := Aside0.mk ((by rw [hg]; exact (below_size (by repeat (first | (with_reducible first | exact HB.out | apply below_alloc | apply pw_below_drewN | apply below_drew1) | exact HB.out))) : w.heap.size ≤ gb501)); have n3_ := Aside0.mk ((by rw [hg]; exact (below_size (by repeat (first | (with_reducible first | exact HB.out | apply below_alloc | apply pw_below_drewN | apply below_drew1) | exact HB.out))) : w.heap.size ≤ gb501)); clear HB; have HB := n0_; have BK501 := n1_; have GW501 := n2_; have GE501 := n3_; clear n0_ n1_ n2_ n3_; clear hb hbox hg; have hcz10_0 : w9.cell? ⟨gb501, 0, none⟩ = some (.int .i64 0) := (blk_cell BK501.out 0).trans rfl; have hcz10_1 : w9.cell? ⟨gb501, 1, none⟩ = some (.int .i64 0) := (blk_cell BK501.out 1).trans rfl; have hcz10_2 : w9.cell? ⟨gb501, 2, none⟩ = some (.int .i64 0) := (blk_cell BK501.out 2).trans rfl; have hcz10_3 : w9.cell? ⟨gb501, 3, none⟩ = some (.int .i64 0) := (blk_cell BK501.out 3).trans rfl; have hcz10_4 : w9.cell? ⟨gb501, 4, none⟩ = some (.bool false) := (blk_cell BK501.out 4).trans rfl; have hfz10_0 := blk_frozen BK501.out 0; have hfz10_1 := blk_frozen BK501.out 1; have hfz10_2 := blk_frozen BK501.out 2; have hfz10_3 := blk_frozen BK501.out 3; have hfz10_4 := blk_frozen BK501.out 4))
  go_loopg [6, 8, 9] k (fun kq v6 v8 v9 w' => ∃ (x6_1 : Int) (x8_1 : Int) (x9_1 : Int) (x502000_1 : Int) (x502001_1 : Int) (x502002_1 : Int) (x502003_1 : Int) (x502004_1 : Bool), v6 = .int .i64 x6_1 ∧ v8 = .int .i64 x8_1 ∧ v9 = .int .i64 x9_1 ∧ Aside0 (ambidexterlaw25_ServoTracksTarget.l0 kq l1 true x6_1 x8_1 x9_1 x502000_1 x502001_1 x502002_1 x502003_1 x502004_1 = some r) ∧ Aside0 (kq ≤ k) ∧ Aside0 (w'.heap[gb501]? = some (.cells #[.int .i64 x502000_1, .int .i64 x502001_1, .int .i64 x502002_1, .int .i64 x502003_1, .bool x502004_1] 49 (0, 0))) ∧ Aside0 (Below w.heap.size w w'))
  case atStart => exact ⟨(wrap64 (a0)), (0), (0), (t496), (t497), (t498), (t499), (t500), (by first | rfl | (simp; done) | (simp [*]; done)), (by first | rfl | (simp; done) | (simp [*]; done)), (by first | rfl | (simp; done) | (simp [*]; done)), H', ⟨Nat.le_refl _⟩, ⟨by (with_reducible repeat (first | refine blk_drewN ?_ _ | refine blk_drew ?_ | refine blk_alloc ?_ _)); refine blk_put (cs := #[.int .i64 t496, .int .i64 t497, .int .i64 t498, .int .i64 t499, .bool false]) ?_ 4 _ rfl; (with_reducible repeat (first | refine blk_drewN ?_ _ | refine blk_drew ?_ | refine blk_alloc ?_ _)); refine blk_put (cs := #[.int .i64 t496, .int .i64 t497, .int .i64 t498, .int .i64 0, .bool false]) ?_ 3 _ rfl; (with_reducible repeat (first | refine blk_drewN ?_ _ | refine blk_drew ?_ | refine blk_alloc ?_ _)); refine blk_put (cs := #[.int .i64 t496, .int .i64 t497, .int .i64 0, .int .i64 0, .bool false]) ?_ 2 _ rfl; (with_reducible repeat (first | refine blk_drewN ?_ _ | refine blk_drew ?_ | refine blk_alloc ?_ _)); refine blk_put (cs := #[.int .i64 t496, .int .i64 0, .int .i64 0, .int .i64 0, .bool false]) ?_ 1 _ rfl; (with_reducible repeat (first | refine blk_drewN ?_ _ | refine blk_drew ?_ | refine blk_alloc ?_ _)); refine blk_put (cs := #[.int .i64 0, .int .i64 0, .int .i64 0, .int .i64 0, .bool false]) ?_ 0 _ rfl; (with_reducible repeat (first | refine blk_drewN ?_ _ | refine blk_drew ?_ | refine blk_alloc ?_ _)); exact BK501.out⟩, ⟨by repeat (first | (with_reducible first | exact HB.out | apply below_alloc | apply pw_below_drewN | apply below_drew1 | refine below_set ?_ GE501.out) | exact HB.out)⟩⟩
  case round =>
   clear H'
   try clear c1
   try clear c2
   try clear p2
   try clear c3
   try clear c4
   try clear c4b0
   try clear c4b1
   try clear p6
   try clear c10
   try clear hcz10_0
   try clear hcz10_1
   try clear hcz10_2
   try clear hcz10_3
   try clear hcz10_4
   try clear hfz10_0
   try clear hfz10_1
   try clear hfz10_2
   try clear hfz10_3
   try clear hfz10_4
   obtain ⟨x6_1, x8_1, x9_1, x502000_1, x502001_1, x502002_1, x502003_1, x502004_1, rfl, rfl, rfl, HA, HK1, BK501, HB⟩ := hrel
   cases gk with
   | zero => exact absurd HA.out (by simp [ambidexterlaw25_ServoTracksTarget.l0])
   | succ k1 =>
    have H := HA.out
    clear HA
    simp only [ambidexterlaw25_ServoTracksTarget.l0] at H
    by_cases c11 : x9_1 < (l1.length : Int)
    ·
     rw [if_pos c11] at H
     have c11b0 : decide (x9_1 < (l1.length : Int)) = true := decide_eq_true c11
     clear c11
     by_cases c12 : 0 ≤ x9_1
     ·
      rw [if_pos c12] at H
      have c12b0 : decide (0 ≤ x9_1) = true := decide_eq_true c12
      clear c12
      have HC13 := Aside0.mk H
      clear H
      have p502 : 0 ≤ (x9_1 : Int) := of_decide_eq_true (by first | (with_reducible assumption) | assumption)
      have q502 : x9_1 < (l1.length : Int) := of_decide_eq_true (by first | (with_reducible assumption) | assumption)
      obtain ⟨ad502, e502, hx502_0, hx502_1, hx502_2⟩ := at_T54 HR1.out x9_1 p502 q502
      cases e502
      replace hx502_0 := (HB.out.cell (World.block_lt_of_cell? w _ hx502_0)).trans hx502_0
      replace hx502_1 := (HB.out.cell (World.block_lt_of_cell? w _ hx502_1)).trans hx502_1
      replace hx502_2 := (HB.out.cell (World.block_lt_of_cell? w _ hx502_2)).trans hx502_2
      replace p502 := eq_true p502
      replace q502 := eq_true q502
      go_upto_if 37 with (fail)
      go_cut [10] (fun v10 wc => ∃ (kq : Nat) (x10_12 : Int), v10 = .int .i64 x10_12 ∧ Aside0 (ambidexterlaw25_ServoTracksTarget.j1 kq l1 true x6_1 x8_1 x9_1 x10_12 x502000_1 x502001_1 x502002_1 x502003_1 x502004_1 = some r) ∧ Aside0 (kq ≤ k1) ∧ Aside0 (wc.heap[gb501]? = some (.cells #[.int .i64 x502000_1, .int .i64 x502001_1, .int .i64 x502002_1, .int .i64 x502003_1, .bool x502004_1] 49 (0, 0))) ∧ Aside0 (Below w.heap.size w wc))
      case first =>
       have H := HC13.out
       clear HC13
       by_cases c14 : x8_1 ≥ 6
       ·
        rw [if_pos c14] at H
        have c14b0 : decide (6 ≤ x8_1) = true := decide_eq_true c14
        clear c14
        (first | rw [c14b0] | (simp only [i64_w, i32_w]; rw [c14b0]) | skip)
        have H' := Aside0.mk H
        clear H
        go_wp2
        go_meet
        case rel => exact ⟨_, (1), (by first | rfl | (simp; done) | (simp [*]; done)), H', ⟨by have := HK1.out; first | omega | exact Nat.le_refl _⟩, ⟨by (with_reducible repeat (first | refine blk_drewN ?_ _ | refine blk_drew ?_ | refine blk_alloc ?_ _)); exact BK501.out⟩, ⟨by repeat (first | (with_reducible first | exact HB.out | apply below_alloc | apply pw_below_drewN | apply below_drew1 | refine below_set ?_ GE501.out) | exact HB.out)⟩⟩
       ·
        rw [if_neg c14] at H
        have c14b0 : decide (6 ≤ x8_1) = false := decide_eq_false c14
        clear c14
        (first | rw [c14b0] | (simp only [i64_w, i32_w]; rw [c14b0]) | skip)
        have H' := Aside0.mk H
        clear H
        go_wp2
        go_meet
        case rel => exact ⟨_, (wrap64 ((Int.tmod (wrap64 ((rd_T54 l1 x9_1).f0)) 3) + 1)), (by first | rfl | (simp; done) | (simp [*]; done)), H', ⟨by have := HK1.out; first | omega | exact Nat.le_refl _⟩, ⟨by (with_reducible repeat (first | refine blk_drewN ?_ _ | refine blk_drew ?_ | refine blk_alloc ?_ _)); exact BK501.out⟩, ⟨by repeat (first | (with_reducible first | exact HB.out | apply below_alloc | apply pw_below_drewN | apply below_drew1 | refine below_set ?_ GE501.out) | exact HB.out)⟩⟩
      case rest =>
       clear HC13
       try clear c1
       try clear c2
       try clear p2
       try clear c3
       try clear c4
       try clear c4b0
       try clear c4b1
       try clear p5
       try clear q5
       try clear hx5
       try clear p6
       try clear c10
       try clear c11
       try clear c11b0
       try clear c12
       try clear c12b0
       try clear c14
       try clear c14b0
       try clear hcz10_0
       try clear hcz10_1
       try clear hcz10_2
       try clear hcz10_3
       try clear hcz10_4
       try clear hfz10_0
       try clear hfz10_1
       try clear hfz10_2
       try clear hfz10_3
       try clear hfz10_4
       try clear hx502_0
       try clear hx502_1
       try clear hx502_2
       try clear p2
       try clear p502
       try clear p6
       try clear q502
       obtain ⟨kq, x10_12, rfl, HA, HJ12, BK501, HB⟩ := hcut
       cases kq with
       | zero => exact absurd HA.out (by simp [ambidexterlaw25_ServoTracksTarget.j1])
       | succ kj12 =>
        have H := HA.out
        clear HA
        simp only [ambidexterlaw25_ServoTracksTarget.j1] at H
        have HC15 := Aside0.mk H
        clear H
        go_upto_if 41 with (fail)
        go_cut [8] (fun v8 wc => ∃ (kq : Nat) (x8_14 : Int), v8 = .int .i64 x8_14 ∧ Aside0 (ambidexterlaw25_ServoTracksTarget.j2 kq l1 true x6_1 x8_14 x9_1 x10_12 x502000_1 x502001_1 x502002_1 x502003_1 x502004_1 = some r) ∧ Aside0 (kq ≤ kj12) ∧ Aside0 (wc.heap[gb501]? = some (.cells #[.int .i64 x502000_1, .int .i64 x502001_1, .int .i64 x502002_1, .int .i64 x502003_1, .bool x502004_1] 49 (0, 0))) ∧ Aside0 (Below w.heap.size w wc))
        case first =>
         have H := HC15.out
         clear HC15
         by_cases c16 : x10_12 = 1
         ·
          rw [if_pos c16] at H
          have c16b0 : (x10_12 == 1) = true := beq_iff_eq.mpr c16
          have c16b1 : (x10_12 != 1) = false := bne_eq_false_iff_eq.mpr c16
          clear c16
          (first | rw [c16b0] | (simp only [i64_w, i32_w]; rw [c16b0]) | skip)
          have H' := Aside0.mk H
          clear H
          go_wp2
          go_meet
          case rel => exact ⟨_, (0), (by first | rfl | (simp; done) | (simp [*]; done)), H', ⟨by have := HK1.out; have := HJ12.out; first | omega | exact Nat.le_refl _⟩, ⟨by (with_reducible repeat (first | refine blk_drewN ?_ _ | refine blk_drew ?_ | refine blk_alloc ?_ _)); exact BK501.out⟩, ⟨by repeat (first | (with_reducible first | exact HB.out | apply below_alloc | apply pw_below_drewN | apply below_drew1 | refine below_set ?_ GE501.out) | exact HB.out)⟩⟩
         ·
          rw [if_neg c16] at H
          have c16b0 : (x10_12 == 1) = false := beq_eq_false_iff_ne.mpr c16
          have c16b1 : (x10_12 != 1) = true := bne_iff_ne.mpr c16
          (first | rw [c16b0] | (simp only [i64_w, i32_w]; rw [c16b0]) | skip)
          have H' := Aside0.mk H
          clear H
          go_wp2
          go_meet
          case rel => exact ⟨_, (wrap64 (x8_1 + 1)), (by first | rfl | (simp; done) | (simp [*]; done)), H', ⟨by have := HK1.out; have := HJ12.out; first | omega | exact Nat.le_refl _⟩, ⟨by (with_reducible repeat (first | refine blk_drewN ?_ _ | refine blk_drew ?_ | refine blk_alloc ?_ _)); exact BK501.out⟩, ⟨by repeat (first | (with_reducible first | exact HB.out | apply below_alloc | apply pw_below_drewN | apply below_drew1 | refine below_set ?_ GE501.out) | exact HB.out)⟩⟩
        case rest =>
         clear HC15
         try clear c1
         try clear c2
         try clear p2
         try clear c3
         try clear c4
         try clear c4b0
         try clear c4b1
         try clear p5
         try clear q5
         try clear hx5
         try clear p6
         try clear c10
         try clear c11
         try clear c11b0
         try clear c12
         try clear c12b0
         try clear c14
         try clear c14b0
         try clear c16
         try clear c16b0
         try clear c16b1
         try clear hcz10_0
         try clear hcz10_1
         try clear hcz10_2
         try clear hcz10_3
         try clear hcz10_4
         try clear hfz10_0
         try clear hfz10_1
         try clear hfz10_2
         try clear hfz10_3
         try clear hfz10_4
         try clear hx502_0
         try clear hx502_1
         try clear hx502_2
         try clear p2
         try clear p5
         try clear p502
         try clear p6
         try clear q5
         try clear q502
         obtain ⟨kq, x8_14, rfl, HA, HJ14, BK501, HB⟩ := hcut
         cases kq with
         | zero => exact absurd HA.out (by simp [ambidexterlaw25_ServoTracksTarget.j2])
         | succ kj14 =>
          have H := HA.out
          clear HA
          simp only [ambidexterlaw25_ServoTracksTarget.j2] at H
          replace H := Option.bind_eq_some_iff.mp H
          obtain ⟨t503, A170, H⟩ := H
          replace H : (if 0 ≤ x9_1 then (if x9_1 < (l1.length : Int) then ((servo_Step.f x502000_1 x502001_1 x502002_1 x502003_1 x502004_1 x10_12 t503 (wrap64 ((rd_T54 l1 x9_1).f2))).bind fun bt505 => (if bt505.2.2.2.2.1 = true then (some false) else (if bt505.2.2.2.2.2 < 128 then (if bt505.2.2.2.2.2 > (-128) then ((ambidexterref24_Quant.f (wrap64 (x6_1 + bt505.2.2.2.2.2))).bind fun t512 => (if t512 = (wrap64 ((rd_T54 l1 x9_1).f2)) then (ambidexterlaw25_ServoTracksTarget.l0 kj14 l1 true (wrap64 (x6_1 + bt505.2.2.2.2.2)) x8_14 (wrap64 (x9_1 + 1)) bt505.1 bt505.2.1 bt505.2.2.1 bt505.2.2.2.1 bt505.2.2.2.2.1) else (some false))) else (ambidexterlaw25_ServoTracksTarget.l0 kj14 l1 true (wrap64 (x6_1 + bt505.2.2.2.2.2)) x8_14 (wrap64 (x9_1 + 1)) bt505.1 bt505.2.1 bt505.2.2.1 bt505.2.2.2.1 bt505.2.2.2.2.1)) else (ambidexterlaw25_ServoTracksTarget.l0 kj14 l1 true (wrap64 (x6_1 + bt505.2.2.2.2.2)) x8_14 (wrap64 (x9_1 + 1)) bt505.1 bt505.2.1 bt505.2.2.1 bt505.2.2.2.1 bt505.2.2.2.2.1)))) else (none)) else (none)) = some r := H
          have A17 := Aside0.mk A170
          clear A170
          by_cases c18 : 0 ≤ x9_1
          ·
           rw [if_pos c18] at H
           have c18b0 : decide (0 ≤ x9_1) = true := decide_eq_true c18
           clear c18
           by_cases c19 : x9_1 < (l1.length : Int)
           ·
            rw [if_pos c19] at H
            have c19b0 : decide (x9_1 < (l1.length : Int)) = true := decide_eq_true c19
            clear c19
            replace H := Option.bind_eq_some_iff.mp H
            obtain ⟨⟨t505, t506, t507, t508, t509, t510⟩, A200, H⟩ := H
            replace H : (if t509 = true then (some false) else (if t510 < 128 then (if t510 > (-128) then ((ambidexterref24_Quant.f (wrap64 (x6_1 + t510))).bind fun t512 => (if t512 = (wrap64 ((rd_T54 l1 x9_1).f2)) then (ambidexterlaw25_ServoTracksTarget.l0 kj14 l1 true (wrap64 (x6_1 + t510)) x8_14 (wrap64 (x9_1 + 1)) t505 t506 t507 t508 t509) else (some false))) else (ambidexterlaw25_ServoTracksTarget.l0 kj14 l1 true (wrap64 (x6_1 + t510)) x8_14 (wrap64 (x9_1 + 1)) t505 t506 t507 t508 t509)) else (ambidexterlaw25_ServoTracksTarget.l0 kj14 l1 true (wrap64 (x6_1 + t510)) x8_14 (wrap64 (x9_1 + 1)) t505 t506 t507 t508 t509))) = some r := H
            have A20 := Aside0.mk A200
            clear A200
            by_cases c21 : t509 = true
            ·
             subst c21
             have H1 : (some false) = some r := by rw [if_pos rfl] at H; exact H
             clear H
             have H := H1
             clear H1
             exact absurd HT.out (by rw [← Option.some.inj H]; decide)
            ·
             replace c21 := Bool.eq_false_iff.mpr c21
             subst c21
             have H1 : (if t510 < 128 then (if t510 > (-128) then ((ambidexterref24_Quant.f (wrap64 (x6_1 + t510))).bind fun t512 => (if t512 = (wrap64 ((rd_T54 l1 x9_1).f2)) then (ambidexterlaw25_ServoTracksTarget.l0 kj14 l1 true (wrap64 (x6_1 + t510)) x8_14 (wrap64 (x9_1 + 1)) t505 t506 t507 t508 false) else (some false))) else (ambidexterlaw25_ServoTracksTarget.l0 kj14 l1 true (wrap64 (x6_1 + t510)) x8_14 (wrap64 (x9_1 + 1)) t505 t506 t507 t508 false)) else (ambidexterlaw25_ServoTracksTarget.l0 kj14 l1 true (wrap64 (x6_1 + t510)) x8_14 (wrap64 (x9_1 + 1)) t505 t506 t507 t508 false)) = some r := by rw [if_neg (show ¬ (false = true) by decide)] at H; exact H
             clear H
             have H := H1
             clear H1
             by_cases c22 : t510 < 128
             ·
              rw [if_pos c22] at H
              have c22b0 : decide (t510 < 128) = true := decide_eq_true c22
              clear c22
              by_cases c23 : t510 > (-128)
              ·
               rw [if_pos c23] at H
               have c23b0 : decide ((-128) < t510) = true := decide_eq_true c23
               clear c23
               replace H := Option.bind_eq_some_iff.mp H
               obtain ⟨t512, A240, H⟩ := H
               replace H : (if t512 = (wrap64 ((rd_T54 l1 x9_1).f2)) then (ambidexterlaw25_ServoTracksTarget.l0 kj14 l1 true (wrap64 (x6_1 + t510)) x8_14 (wrap64 (x9_1 + 1)) t505 t506 t507 t508 false) else (some false)) = some r := H
               have A24 := Aside0.mk A240
               clear A240
               by_cases c25 : t512 = (wrap64 ((rd_T54 l1 x9_1).f2))
               ·
                rw [if_pos c25] at H
                have c25b0 : (t512 == (wrap64 ((rd_T54 l1 x9_1).f2))) = true := beq_iff_eq.mpr c25
                have c25b1 : (t512 != (wrap64 ((rd_T54 l1 x9_1).f2))) = false := bne_eq_false_iff_eq.mpr c25
                clear c25
                have H' := Aside0.mk H
                clear H
                try go_wp2
                have n0_ := Aside0.mk (blk_drew BK501.out)
                have n1_ := Aside0.mk (below_drew1 HB.out)
                clear BK501
                clear HB
                have BK501 := n0_
                have HB := n1_
                clear n0_ n1_
                have p504 : 0 ≤ (x9_1 : Int) := of_decide_eq_true (by first | (with_reducible assumption) | assumption)
                have q504 : x9_1 < (l1.length : Int) := of_decide_eq_true (by first | (with_reducible assumption) | assumption)
                obtain ⟨ad504, e504, hx504_0, hx504_1, hx504_2⟩ := at_T54 HR1.out x9_1 p504 q504
                have hw504_2 := hx504_2
                have hw504_1 := hx504_1
                have hw504_0 := hx504_0
                obtain rfl : ad502 = ad504 := (by injection e504)
                replace hx504_0 := (HB.out.cell (World.block_lt_of_cell? w _ hx504_0)).trans hx504_0
                replace hx504_1 := (HB.out.cell (World.block_lt_of_cell? w _ hx504_1)).trans hx504_1
                replace hx504_2 := (HB.out.cell (World.block_lt_of_cell? w _ hx504_2)).trans hx504_2
                replace p504 := eq_true p504
                replace q504 := eq_true q504
                refine start_ (n := 17) (S := fun w' => w'.cell? ⟨gb501, 0, none⟩ = some (.int .i64 x502000_1) ∧ w'.cell? ⟨gb501, 1, none⟩ = some (.int .i64 x502001_1) ∧ w'.cell? ⟨gb501, 2, none⟩ = some (.int .i64 x502002_1) ∧ w'.cell? ⟨gb501, 3, none⟩ = some (.int .i64 x502003_1) ∧ w'.cell? ⟨gb501, 4, none⟩ = some (.bool x502004_1) ∧ w'.cell? (ad502.add ((x9_1).toNat * 3)) = some (.int .u8 ((rd_T54 l1 x9_1).f0)) ∧ w'.cell? ⟨(ad502.add ((x9_1).toNat * 3)).block, (ad502.add ((x9_1).toNat * 3)).off + 1, none⟩ = some (.int .i16 ((rd_T54 l1 x9_1).f1)) ∧ w'.cell? ⟨(ad502.add ((x9_1).toNat * 3)).block, (ad502.add ((x9_1).toNat * 3)).off + 2, none⟩ = some (.int .i16 ((rd_T54 l1 x9_1).f2))) (ds := []) #[false, false, false, false, false, false, false, false, false, false, false, false, false, false, false, false, false] (by kernel_rfl) rfl rfl ⟨(blk_cell BK501.out 0).trans rfl, (blk_cell BK501.out 1).trans rfl, (blk_cell BK501.out 2).trans rfl, (blk_cell BK501.out 3).trans rfl, (blk_cell BK501.out 4).trans rfl, ((HB.out.cell (World.block_lt_of_cell? w _ hw504_0)).trans hw504_0), ((HB.out.cell (World.block_lt_of_cell? w _ hw504_1)).trans hw504_1), ((HB.out.cell (World.block_lt_of_cell? w _ hw504_2)).trans hw504_2)⟩ (fun hHeld => ?_); refine with_tabW ambidexterlaw25_ServoTracksTarget.tab16 ambidexterlaw25_ServoTracksTarget.bits16 (fun HT_ HW_ => ?_)
                generalize wc.drew = w26 at BK501 HB hx504_0 hx504_1 hx504_2 hHeld ⊢
                refine pure_ (i := 1) (N := some 44) (v := ?_) (a' := ?_) #[false, true, false, false, false, false, false, false, false, false, false, false, false, false, false, false, false] rfl rfl (any_of HT_.out (by kernel_rfl)) (fun _ _ _ h => h) (Or.inl ⟨by rfl, ?_⟩) ?_ ?_
                rotate_left
                ·
                 intro w'
                 go_simp
                 with_reducible rfl
                rotate_left
                ·
                 simp only [Act.put, List.setIfInBounds_toArray, List.set_cons_zero, List.set_cons_succ, i64_w, i32_w]
                 rfl
                refine pure_ (i := 2) (N := some 45) (v := ?_) (a' := ?_) #[false, true, true, false, false, false, false, false, false, false, false, false, false, false, false, false, false] rfl rfl (any_of HT_.out (by kernel_rfl)) (fun _ _ _ h => h) (Or.inl ⟨by rfl, ?_⟩) ?_ ?_
                rotate_left
                ·
                 intro w'
                 go_simp
                 with_reducible rfl
                rotate_left
                ·
                 simp only [Act.put, List.setIfInBounds_toArray, List.set_cons_zero, List.set_cons_succ, i64_w, i32_w]
                 rfl
                refine pure_ (i := 4) (N := some 47) (v := ?_) (a' := ?_) #[false, true, true, false, true, false, false, false, false, false, false, false, false, false, false, false, false] rfl rfl (any_of HT_.out (by kernel_rfl)) (fun _ _ _ h => h) (Or.inl ⟨by rfl, ?_⟩) ?_ ?_
                rotate_left
                ·
                 intro w'
                 go_simp
                 with_reducible rfl
                rotate_left
                ·
                 simp only [Act.put, List.setIfInBounds_toArray, List.set_cons_zero, List.set_cons_succ, i64_w, i32_w]
                 rfl
                refine pure_ (i := 5) (N := some 48) (v := ?_) (a' := ?_) #[false, true, true, false, true, true, false, false, false, false, false, false, false, false, false, false, false] rfl rfl (any_of HT_.out (by kernel_rfl)) (fun _ _ _ h => h) (Or.inl ⟨by rfl, ?_⟩) ?_ ?_
                rotate_left
                ·
                 intro w'
                 go_simp
                 with_reducible rfl
                rotate_left
                ·
                 simp only [Act.put, List.setIfInBounds_toArray, List.set_cons_zero, List.set_cons_succ, i64_w, i32_w]
                 rfl
                refine pure_ (i := 6) (N := some 49) (v := ?_) (a' := ?_) #[false, true, true, false, true, true, true, false, false, false, false, false, false, false, false, false, false] rfl rfl (any_of HT_.out (by kernel_rfl)) (fun _ _ _ h => h) (Or.inl ⟨by rfl, ?_⟩) ?_ ?_
                rotate_left
                ·
                 intro w'
                 go_simp
                 with_reducible rfl
                rotate_left
                ·
                 simp only [Act.put, List.setIfInBounds_toArray, List.set_cons_zero, List.set_cons_succ, i64_w, i32_w]
                 rfl
                refine pure_ (i := 7) (N := some 50) (v := ?_) (a' := ?_) #[false, true, true, false, true, true, true, true, false, false, false, false, false, false, false, false, false] rfl rfl (any_of HT_.out (by kernel_rfl)) (fun _ _ _ h => h) (Or.inl ⟨by rfl, ?_⟩) ?_ ?_
                rotate_left
                ·
                 intro w'
                 go_simp
                 with_reducible rfl
                rotate_left
                ·
                 simp only [Act.put, List.setIfInBounds_toArray, List.set_cons_zero, List.set_cons_succ, i64_w, i32_w]
                 rfl
                refine take_ (i := 0) (N := some 43) (v := ?_) (a' := ?_) #[true, true, true, false, true, true, true, true, false, false, false, false, false, false, false, false, false] rfl rfl (take_ofW HT_.out HW_.out (by kernel_rfl)) (fun _ _ _ h => h) (Or.inl ⟨by rfl, ?_⟩) hHeld ?_ ?_
                rotate_left
                ·
                 rintro w' ⟨s0, s1, s2, s3, s4, s5, s6, s7⟩
                 go_simp
                 with_reducible rfl
                rotate_left
                ·
                 simp only [Act.put, List.setIfInBounds_toArray, List.set_cons_zero, List.set_cons_succ, i64_w, i32_w]
                 rfl
                refine take_ (i := 8) (N := some 51) (v := ?_) (a' := ?_) #[true, true, true, false, true, true, true, true, true, false, false, false, false, false, false, false, false] rfl rfl (take_ofW HT_.out HW_.out (by kernel_rfl)) (fun _ _ _ h => h) (Or.inl ⟨by rfl, ?_⟩) hHeld ?_ ?_
                rotate_left
                ·
                 rintro w' ⟨s0, s1, s2, s3, s4, s5, s6, s7⟩
                 go_simp
                 with_reducible rfl
                rotate_left
                ·
                 simp only [Act.put, List.setIfInBounds_toArray, List.set_cons_zero, List.set_cons_succ, i64_w, i32_w]
                 rfl
                refine pure_ (i := 9) (N := some 52) (v := ?_) (a' := ?_) #[true, true, true, false, true, true, true, true, true, true, false, false, false, false, false, false, false] rfl rfl (any_of HT_.out (by kernel_rfl)) (fun _ _ _ h => h) (Or.inl ⟨by rfl, ?_⟩) ?_ ?_
                rotate_left
                ·
                 intro w'
                 go_simp
                 with_reducible rfl
                rotate_left
                ·
                 simp only [Act.put, List.setIfInBounds_toArray, List.set_cons_zero, List.set_cons_succ, i64_w, i32_w]
                 rfl
                refine join_ (σ := Nat) 2 #[true, true, true, true, true, true, true, true, true, true, true, true, true, true, true, false, false] (fun s_ => [(46, .int .i64 t503), (53, .tuple #[.agg #[.int .i64 t505, .int .i64 t506, .int .i64 t507, .int .i64 t508, .bool false], .int .i64 t510]), (11, .pointer (some ⟨s_, 0, none⟩)), (42, .tuple #[.agg #[.int .i64 t505, .int .i64 t506, .int .i64 t507, .int .i64 t508, .bool false], .int .i64 t510]), (54, .agg #[.int .i64 t505, .int .i64 t506, .int .i64 t507, .int .i64 t508, .bool false]), (55, .int .i64 t510)]) (fun s_ w' => (w'.cell? ⟨gb501, 0, none⟩ = some (.int .i64 x502000_1) ∧ w'.cell? ⟨gb501, 1, none⟩ = some (.int .i64 x502001_1) ∧ w'.cell? ⟨gb501, 2, none⟩ = some (.int .i64 x502002_1) ∧ w'.cell? ⟨gb501, 3, none⟩ = some (.int .i64 x502003_1) ∧ w'.cell? ⟨gb501, 4, none⟩ = some (.bool x502004_1) ∧ w'.cell? (ad502.add ((x9_1).toNat * 3)) = some (.int .u8 ((rd_T54 l1 x9_1).f0)) ∧ w'.cell? ⟨(ad502.add ((x9_1).toNat * 3)).block, (ad502.add ((x9_1).toNat * 3)).off + 1, none⟩ = some (.int .i16 ((rd_T54 l1 x9_1).f1)) ∧ w'.cell? ⟨(ad502.add ((x9_1).toNat * 3)).block, (ad502.add ((x9_1).toNat * 3)).off + 2, none⟩ = some (.int .i16 ((rd_T54 l1 x9_1).f2))) ∧ (w'.heap[gb501]? = some (.cells #[.int .i64 x502000_1, .int .i64 x502001_1, .int .i64 x502002_1, .int .i64 x502003_1, .bool x502004_1] 49 (0, 0))) ∧ (w'.heap[s_]? = some (.cells #[.int .i64 0, .int .i64 0, .int .i64 0, .int .i64 0, .bool false] 49 (0, 0))) ∧ (w.heap.size ≤ s_) ∧ (w.heap.size ≤ s_) ∧ (gb501 ≠ s_) ∧ (s_ ≠ gb501) ∧ (Below w.heap.size w w')) ?_ ?_
                rotate_left
                ·
                 intro hCont
                 refine two_ (i := 3) (j := 14) (Ni := some 46) (Nj := some 11) #[true, true, true, true, true, true, true, true, true, true, false, false, false, false, false, false, false] #[true, true, true, false, true, true, true, true, true, true, false, false, false, false, true, false, false] rfl rfl rfl rfl (two_of HT_.out (by kernel_rfl)) (by decide) (by decide) (fun K hK => ?_) (fun K hK => ?_)
                 ·
                  skip
                  refine goes_ Try.func36 (by kernel_rfl) rfl #[.int .i64 x6_1] (by rfl) rfl rfl (by (try simp only [List.map_toArray, List.map_cons, List.map_nil]); first | done | rfl | (simp only [List.length_drop, List.length_take]; rfl)) ?_
                  with_reducible refine (ambidexterref24_Quant.calls x6_1 t503 _ A17.out).mono ?_
                  rintro e w' ⟨rfl, ⟨nd, rfl⟩⟩
                  refine ⟨_, rfl, ?_⟩
                  refine hK.out _ _ ⟨(blk_cell BK501.out 0).trans rfl, (blk_cell BK501.out 1).trans rfl, (blk_cell BK501.out 2).trans rfl, (blk_cell BK501.out 3).trans rfl, (blk_cell BK501.out 4).trans rfl, ((HB.out.cell (World.block_lt_of_cell? w _ hw504_0)).trans hw504_0), ((HB.out.cell (World.block_lt_of_cell? w _ hw504_1)).trans hw504_1), ((HB.out.cell (World.block_lt_of_cell? w _ hw504_2)).trans hw504_2)⟩ (fun hHeld => ?_)
                  clear hK K
                  refine norm_ (a' := ?_) ?_ ?_
                  rotate_left
                  ·
                   show Act.put _ (some 46) _ = _
                   simp only [Act.put, List.setIfInBounds_toArray, List.set_cons_zero, List.set_cons_succ, i64_w, i32_w]
                   rfl
                  refine two_ (i := 10) (j := 14) (Ni := some 53) (Nj := some 11) #[true, true, true, true, true, true, true, true, true, true, true, false, false, false, false, false, false] #[true, true, true, true, true, true, true, true, true, true, false, false, false, false, true, false, false] rfl rfl rfl rfl (two_of HT_.out (by kernel_rfl)) (by decide) (by decide) (fun K hK => ?_) (fun K hK => ?_)
                  ·
                   skip
                   refine goes_ Try.func32 (by kernel_rfl) rfl #[.agg #[.int .i64 x502000_1, .int .i64 x502001_1, .int .i64 x502002_1, .int .i64 x502003_1, .bool x502004_1], .int .i64 x10_12, .int .i64 t503, .int .i64 (wrap64 ((rd_T54 l1 x9_1).f2))] (by rfl) rfl rfl (by (try simp only [List.map_toArray, List.map_cons, List.map_nil]); first | done | rfl | (simp only [List.length_drop, List.length_take]; rfl)) ?_
                   with_reducible refine (servo_Step.calls x502000_1 x502001_1 x502002_1 x502003_1 x502004_1 x10_12 t503 (wrap64 ((rd_T54 l1 x9_1).f2)) t505 t506 t507 t508 false t510 _ A20.out).mono ?_
                   rintro e w27 ⟨rfl, hb⟩
                   refine ⟨_, rfl, ?_⟩
                   have n0_ := Aside0.mk (blk_below (g := gb501) (o := .cells #[.int .i64 x502000_1, .int .i64 x502001_1, .int .i64 x502002_1, .int .i64 x502003_1, .bool x502004_1] 49 (0, 0)) (by (with_reducible repeat (first | refine blk_drewN ?_ _ | refine blk_drew ?_ | refine blk_alloc ?_ _)); exact BK501.out) hb)
                   have n1_ := Aside0.mk (below_step (by repeat (first | (with_reducible first | exact HB.out | apply below_alloc | apply pw_below_drewN | apply below_drew1 | refine below_set ?_ GE501.out) | exact HB.out)) hb)
                   clear BK501
                   clear HB
                   have BK501 := n0_
                   have HB := n1_
                   clear n0_ n1_
                   (try clear hb)
                   (try clear hb2)
                   (try clear hk)
                   (try clear hi)
                   refine hK.out _ _ ⟨(blk_cell BK501.out 0).trans rfl, (blk_cell BK501.out 1).trans rfl, (blk_cell BK501.out 2).trans rfl, (blk_cell BK501.out 3).trans rfl, (blk_cell BK501.out 4).trans rfl, ((HB.out.cell (World.block_lt_of_cell? w _ hw504_0)).trans hw504_0), ((HB.out.cell (World.block_lt_of_cell? w _ hw504_1)).trans hw504_1), ((HB.out.cell (World.block_lt_of_cell? w _ hw504_2)).trans hw504_2)⟩ (fun hHeld => ?_)
                   clear hK K
                   refine norm_ (a' := ?_) ?_ ?_
                   rotate_left
                   ·
                    show Act.put _ (some 53) _ = _
                    simp only [Act.put, List.setIfInBounds_toArray, List.set_cons_zero, List.set_cons_succ, i64_w, i32_w]
                    rfl
                   refine pure_ (i := 11) (N := some 42) (v := ?_) (a' := ?_) #[true, true, true, true, true, true, true, true, true, true, true, true, false, false, false, false, false] rfl rfl (any_of HT_.out (by kernel_rfl)) (fun _ _ _ h => h) (Or.inl ⟨by rfl, ?_⟩) ?_ ?_
                   rotate_left
                   ·
                    intro w'
                    go_simp
                    with_reducible rfl
                   rotate_left
                   ·
                    simp only [Act.put, List.setIfInBounds_toArray, List.set_cons_zero, List.set_cons_succ, i64_w, i32_w]
                    rfl
                   refine pure_ (i := 12) (N := some 54) (v := ?_) (a' := ?_) #[true, true, true, true, true, true, true, true, true, true, true, true, true, false, false, false, false] rfl rfl (any_of HT_.out (by kernel_rfl)) (fun _ _ _ h => h) (Or.inl ⟨by rfl, ?_⟩) ?_ ?_
                   rotate_left
                   ·
                    intro w'
                    go_simp
                    with_reducible rfl
                   rotate_left
                   ·
                    simp only [Act.put, List.setIfInBounds_toArray, List.set_cons_zero, List.set_cons_succ, i64_w, i32_w]
                    rfl
                   refine pure_ (i := 13) (N := some 55) (v := ?_) (a' := ?_) #[true, true, true, true, true, true, true, true, true, true, true, true, true, true, false, false, false] rfl rfl (any_of HT_.out (by kernel_rfl)) (fun _ _ _ h => h) (Or.inl ⟨by rfl, ?_⟩) ?_ ?_
                   rotate_left
                   ·
                    intro w'
                    go_simp
                    with_reducible rfl
                   rotate_left
                   ·
                    simp only [Act.put, List.setIfInBounds_toArray, List.set_cons_zero, List.set_cons_succ, i64_w, i32_w]
                    rfl
                   refine one_ (i := 14) (N := some 11) #[true, true, true, true, true, true, true, true, true, true, true, true, true, true, true, false, false] rfl rfl (one_of HT_.out (by kernel_rfl)) (by decide) (fun K hK => ?_)
                   refine box_step ?hg (N := 11) ?hd (cs := #[.int .i64 0, .int .i64 0, .int .i64 0, .int .i64 0, .bool false]) (t := 49) ?hr ?_; (case hd => rfl); (case hg => rfl); (case hr => first | (go_simp; done) | (go_simp; rfl))
                   intro gb511 hg w28 hbox hb
                   have n0_ := Aside0.mk (blk_below (g := gb501) (o := .cells #[.int .i64 x502000_1, .int .i64 x502001_1, .int .i64 x502002_1, .int .i64 x502003_1, .bool x502004_1] 49 (0, 0)) (by (with_reducible repeat (first | refine blk_drewN ?_ _ | refine blk_drew ?_ | refine blk_alloc ?_ _)); exact BK501.out) hb)
                   have n1_ := Aside0.mk (below_step (by repeat (first | (with_reducible first | exact HB.out | apply below_alloc | apply pw_below_drewN | apply below_drew1 | refine below_set ?_ GE501.out) | exact HB.out)) hb)
                   have n2_ := Aside0.mk (hbox)
                   have n3_ := Aside0.mk ((by rw [hg]; exact (below_size (by repeat (first | (with_reducible first | exact HB.out | apply below_alloc | apply pw_below_drewN | apply below_drew1 | refine below_set ?_ GE501.out) | exact HB.out))) : w.heap.size ≤ gb511))
                   have n4_ := Aside0.mk ((by rw [hg]; exact (below_size (by repeat (first | (with_reducible first | exact HB.out | apply below_alloc | apply pw_below_drewN | apply below_drew1 | refine below_set ?_ GE501.out) | exact HB.out))) : w.heap.size ≤ gb511))
                   have n5_ := Aside0.mk ((by rw [hg]; exact Nat.ne_of_lt (blk_lt (g := gb501) (o := .cells #[.int .i64 x502000_1, .int .i64 x502001_1, .int .i64 x502002_1, .int .i64 x502003_1, .bool x502004_1] 49 (0, 0)) (by (with_reducible repeat (first | refine blk_drewN ?_ _ | refine blk_drew ?_ | refine blk_alloc ?_ _)); exact BK501.out)) : gb501 ≠ gb511))
                   have n6_ := Aside0.mk ((by rw [hg]; exact Nat.ne_of_gt (blk_lt (g := gb501) (o := .cells #[.int .i64 x502000_1, .int .i64 x502001_1, .int .i64 x502002_1, .int .i64 x502003_1, .bool x502004_1] 49 (0, 0)) (by (with_reducible repeat (first | refine blk_drewN ?_ _ | refine blk_drew ?_ | refine blk_alloc ?_ _)); exact BK501.out)) : gb511 ≠ gb501))
                   clear BK501
                   clear HB
                   have BK501 := n0_
                   have HB := n1_
                   have BK511 := n2_
                   have GW511 := n3_
                   have GE511 := n4_
                   have NB501_511 := n5_
                   have NB511_501 := n6_
                   clear n0_ n1_ n2_ n3_ n4_ n5_ n6_
                   clear hb hbox hg
                   refine hK.out _ _ ⟨(blk_cell BK501.out 0).trans rfl, (blk_cell BK501.out 1).trans rfl, (blk_cell BK501.out 2).trans rfl, (blk_cell BK501.out 3).trans rfl, (blk_cell BK501.out 4).trans rfl, ((HB.out.cell (World.block_lt_of_cell? w _ hw504_0)).trans hw504_0), ((HB.out.cell (World.block_lt_of_cell? w _ hw504_1)).trans hw504_1), ((HB.out.cell (World.block_lt_of_cell? w _ hw504_2)).trans hw504_2)⟩ (fun hHeld => ?_)
                   clear hK K
                   refine norm_ (a' := ?_) ?_ ?_
                   rotate_left
                   ·
                    show Act.put _ (some 11) _ = _
                    simp only [Act.put, List.setIfInBounds_toArray, List.set_cons_zero, List.set_cons_succ, i64_w, i32_w]
                    rfl
                   exact norm_ (by simp only [putAll, Act.put, List.setIfInBounds_toArray, List.set_cons_zero, List.set_cons_succ]) (hCont (gb511) _ ⟨hHeld, (by (with_reducible repeat (first | refine blk_drewN ?_ _ | refine blk_drew ?_ | refine blk_alloc ?_ _)); exact BK501.out), (by (with_reducible repeat (first | refine blk_drewN ?_ _ | refine blk_drew ?_ | refine blk_alloc ?_ _)); exact BK511.out), GW511.out, GE511.out, NB501_511.out, NB511_501.out, (by repeat (first | (with_reducible first | exact HB.out | apply below_alloc | apply pw_below_drewN | apply below_drew1 | refine below_set ?_ GE501.out | refine below_set ?_ GE511.out) | exact HB.out))⟩)
                  ·
                   skip
                   refine box_step ?hg (N := 11) ?hd (cs := #[.int .i64 0, .int .i64 0, .int .i64 0, .int .i64 0, .bool false]) (t := 49) ?hr ?_; (case hd => rfl); (case hg => rfl); (case hr => first | (go_simp; done) | (go_simp; rfl))
                   intro gb511 hg w27 hbox hb
                   have n0_ := Aside0.mk (blk_below (g := gb501) (o := .cells #[.int .i64 x502000_1, .int .i64 x502001_1, .int .i64 x502002_1, .int .i64 x502003_1, .bool x502004_1] 49 (0, 0)) (by (with_reducible repeat (first | refine blk_drewN ?_ _ | refine blk_drew ?_ | refine blk_alloc ?_ _)); exact BK501.out) hb)
                   have n1_ := Aside0.mk (below_step (by repeat (first | (with_reducible first | exact HB.out | apply below_alloc | apply pw_below_drewN | apply below_drew1 | refine below_set ?_ GE501.out) | exact HB.out)) hb)
                   have n2_ := Aside0.mk (hbox)
                   have n3_ := Aside0.mk ((by rw [hg]; exact (below_size (by repeat (first | (with_reducible first | exact HB.out | apply below_alloc | apply pw_below_drewN | apply below_drew1 | refine below_set ?_ GE501.out) | exact HB.out))) : w.heap.size ≤ gb511))
                   have n4_ := Aside0.mk ((by rw [hg]; exact (below_size (by repeat (first | (with_reducible first | exact HB.out | apply below_alloc | apply pw_below_drewN | apply below_drew1 | refine below_set ?_ GE501.out) | exact HB.out))) : w.heap.size ≤ gb511))
                   have n5_ := Aside0.mk ((by rw [hg]; exact Nat.ne_of_lt (blk_lt (g := gb501) (o := .cells #[.int .i64 x502000_1, .int .i64 x502001_1, .int .i64 x502002_1, .int .i64 x502003_1, .bool x502004_1] 49 (0, 0)) (by (with_reducible repeat (first | refine blk_drewN ?_ _ | refine blk_drew ?_ | refine blk_alloc ?_ _)); exact BK501.out)) : gb501 ≠ gb511))
                   have n6_ := Aside0.mk ((by rw [hg]; exact Nat.ne_of_gt (blk_lt (g := gb501) (o := .cells #[.int .i64 x502000_1, .int .i64 x502001_1, .int .i64 x502002_1, .int .i64 x502003_1, .bool x502004_1] 49 (0, 0)) (by (with_reducible repeat (first | refine blk_drewN ?_ _ | refine blk_drew ?_ | refine blk_alloc ?_ _)); exact BK501.out)) : gb511 ≠ gb501))
                   clear BK501
                   clear HB
                   have BK501 := n0_
                   have HB := n1_
                   have BK511 := n2_
                   have GW511 := n3_
                   have GE511 := n4_
                   have NB501_511 := n5_
                   have NB511_501 := n6_
                   clear n0_ n1_ n2_ n3_ n4_ n5_ n6_
                   clear hb hbox hg
                   refine hK.out _ _ ⟨(blk_cell BK501.out 0).trans rfl, (blk_cell BK501.out 1).trans rfl, (blk_cell BK501.out 2).trans rfl, (blk_cell BK501.out 3).trans rfl, (blk_cell BK501.out 4).trans rfl, ((HB.out.cell (World.block_lt_of_cell? w _ hw504_0)).trans hw504_0), ((HB.out.cell (World.block_lt_of_cell? w _ hw504_1)).trans hw504_1), ((HB.out.cell (World.block_lt_of_cell? w _ hw504_2)).trans hw504_2)⟩ (fun hHeld => ?_)
                   clear hK K
                   refine norm_ (a' := ?_) ?_ ?_
                   rotate_left
                   ·
                    show Act.put _ (some 11) _ = _
                    simp only [Act.put, List.setIfInBounds_toArray, List.set_cons_zero, List.set_cons_succ, i64_w, i32_w]
                    rfl
                   refine one_ (i := 10) (N := some 53) #[true, true, true, true, true, true, true, true, true, true, true, false, false, false, true, false, false] rfl rfl (one_of HT_.out (by kernel_rfl)) (by decide) (fun K hK => ?_)
                   refine goes_ Try.func32 (by kernel_rfl) rfl #[.agg #[.int .i64 x502000_1, .int .i64 x502001_1, .int .i64 x502002_1, .int .i64 x502003_1, .bool x502004_1], .int .i64 x10_12, .int .i64 t503, .int .i64 (wrap64 ((rd_T54 l1 x9_1).f2))] (by rfl) rfl rfl (by (try simp only [List.map_toArray, List.map_cons, List.map_nil]); first | done | rfl | (simp only [List.length_drop, List.length_take]; rfl)) ?_
                   with_reducible refine (servo_Step.calls x502000_1 x502001_1 x502002_1 x502003_1 x502004_1 x10_12 t503 (wrap64 ((rd_T54 l1 x9_1).f2)) t505 t506 t507 t508 false t510 _ A20.out).mono ?_
                   rintro e w28 ⟨rfl, hb⟩
                   refine ⟨_, rfl, ?_⟩
                   have n0_ := Aside0.mk (blk_below (g := gb501) (o := .cells #[.int .i64 x502000_1, .int .i64 x502001_1, .int .i64 x502002_1, .int .i64 x502003_1, .bool x502004_1] 49 (0, 0)) (by (with_reducible repeat (first | refine blk_drewN ?_ _ | refine blk_drew ?_ | refine blk_alloc ?_ _)); exact BK501.out) hb)
                   have n1_ := Aside0.mk (blk_below (g := gb511) (o := .cells #[.int .i64 0, .int .i64 0, .int .i64 0, .int .i64 0, .bool false] 49 (0, 0)) (by (with_reducible repeat (first | refine blk_drewN ?_ _ | refine blk_drew ?_ | refine blk_alloc ?_ _)); exact BK511.out) hb)
                   have n2_ := Aside0.mk (below_step (by repeat (first | (with_reducible first | exact HB.out | apply below_alloc | apply pw_below_drewN | apply below_drew1 | refine below_set ?_ GE501.out | refine below_set ?_ GE511.out) | exact HB.out)) hb)
                   clear BK501
                   clear BK511
                   clear HB
                   have BK501 := n0_
                   have BK511 := n1_
                   have HB := n2_
                   clear n0_ n1_ n2_
                   (try clear hb)
                   (try clear hb2)
                   (try clear hk)
                   (try clear hi)
                   refine hK.out _ _ ⟨(blk_cell BK501.out 0).trans rfl, (blk_cell BK501.out 1).trans rfl, (blk_cell BK501.out 2).trans rfl, (blk_cell BK501.out 3).trans rfl, (blk_cell BK501.out 4).trans rfl, ((HB.out.cell (World.block_lt_of_cell? w _ hw504_0)).trans hw504_0), ((HB.out.cell (World.block_lt_of_cell? w _ hw504_1)).trans hw504_1), ((HB.out.cell (World.block_lt_of_cell? w _ hw504_2)).trans hw504_2)⟩ (fun hHeld => ?_)
                   clear hK K
                   refine norm_ (a' := ?_) ?_ ?_
                   rotate_left
                   ·
                    show Act.put _ (some 53) _ = _
                    simp only [Act.put, List.setIfInBounds_toArray, List.set_cons_zero, List.set_cons_succ, i64_w, i32_w]
                    rfl
                   refine pure_ (i := 11) (N := some 42) (v := ?_) (a' := ?_) #[true, true, true, true, true, true, true, true, true, true, true, true, false, false, true, false, false] rfl rfl (any_of HT_.out (by kernel_rfl)) (fun _ _ _ h => h) (Or.inl ⟨by rfl, ?_⟩) ?_ ?_
                   rotate_left
                   ·
                    intro w'
                    go_simp
                    with_reducible rfl
                   rotate_left
                   ·
                    simp only [Act.put, List.setIfInBounds_toArray, List.set_cons_zero, List.set_cons_succ, i64_w, i32_w]
                    rfl
                   refine pure_ (i := 12) (N := some 54) (v := ?_) (a' := ?_) #[true, true, true, true, true, true, true, true, true, true, true, true, true, false, true, false, false] rfl rfl (any_of HT_.out (by kernel_rfl)) (fun _ _ _ h => h) (Or.inl ⟨by rfl, ?_⟩) ?_ ?_
                   rotate_left
                   ·
                    intro w'
                    go_simp
                    with_reducible rfl
                   rotate_left
                   ·
                    simp only [Act.put, List.setIfInBounds_toArray, List.set_cons_zero, List.set_cons_succ, i64_w, i32_w]
                    rfl
                   refine pure_ (i := 13) (N := some 55) (v := ?_) (a' := ?_) #[true, true, true, true, true, true, true, true, true, true, true, true, true, true, true, false, false] rfl rfl (any_of HT_.out (by kernel_rfl)) (fun _ _ _ h => h) (Or.inl ⟨by rfl, ?_⟩) ?_ ?_
                   rotate_left
                   ·
                    intro w'
                    go_simp
                    with_reducible rfl
                   rotate_left
                   ·
                    simp only [Act.put, List.setIfInBounds_toArray, List.set_cons_zero, List.set_cons_succ, i64_w, i32_w]
                    rfl
                   exact norm_ (by simp only [putAll, Act.put, List.setIfInBounds_toArray, List.set_cons_zero, List.set_cons_succ]) (hCont (gb511) _ ⟨hHeld, (by (with_reducible repeat (first | refine blk_drewN ?_ _ | refine blk_drew ?_ | refine blk_alloc ?_ _)); exact BK501.out), (by (with_reducible repeat (first | refine blk_drewN ?_ _ | refine blk_drew ?_ | refine blk_alloc ?_ _)); exact BK511.out), GW511.out, GE511.out, NB501_511.out, NB511_501.out, (by repeat (first | (with_reducible first | exact HB.out | apply below_alloc | apply pw_below_drewN | apply below_drew1 | refine below_set ?_ GE501.out | refine below_set ?_ GE511.out) | exact HB.out))⟩)
                 ·
                  skip
                  refine box_step ?hg (N := 11) ?hd (cs := #[.int .i64 0, .int .i64 0, .int .i64 0, .int .i64 0, .bool false]) (t := 49) ?hr ?_; (case hd => rfl); (case hg => rfl); (case hr => first | (go_simp; done) | (go_simp; rfl))
                  intro gb511 hg w27 hbox hb
                  have n0_ := Aside0.mk (blk_below (g := gb501) (o := .cells #[.int .i64 x502000_1, .int .i64 x502001_1, .int .i64 x502002_1, .int .i64 x502003_1, .bool x502004_1] 49 (0, 0)) (by (with_reducible repeat (first | refine blk_drewN ?_ _ | refine blk_drew ?_ | refine blk_alloc ?_ _)); exact BK501.out) hb)
                  have n1_ := Aside0.mk (below_step (by repeat (first | (with_reducible first | exact HB.out | apply below_alloc | apply pw_below_drewN | apply below_drew1 | refine below_set ?_ GE501.out) | exact HB.out)) hb)
                  have n2_ := Aside0.mk (hbox)
                  have n3_ := Aside0.mk ((by rw [hg]; exact (below_size (by repeat (first | (with_reducible first | exact HB.out | apply below_alloc | apply pw_below_drewN | apply below_drew1 | refine below_set ?_ GE501.out) | exact HB.out))) : w.heap.size ≤ gb511))
                  have n4_ := Aside0.mk ((by rw [hg]; exact (below_size (by repeat (first | (with_reducible first | exact HB.out | apply below_alloc | apply pw_below_drewN | apply below_drew1 | refine below_set ?_ GE501.out) | exact HB.out))) : w.heap.size ≤ gb511))
                  have n5_ := Aside0.mk ((by rw [hg]; exact Nat.ne_of_lt (blk_lt (g := gb501) (o := .cells #[.int .i64 x502000_1, .int .i64 x502001_1, .int .i64 x502002_1, .int .i64 x502003_1, .bool x502004_1] 49 (0, 0)) (by (with_reducible repeat (first | refine blk_drewN ?_ _ | refine blk_drew ?_ | refine blk_alloc ?_ _)); exact BK501.out)) : gb501 ≠ gb511))
                  have n6_ := Aside0.mk ((by rw [hg]; exact Nat.ne_of_gt (blk_lt (g := gb501) (o := .cells #[.int .i64 x502000_1, .int .i64 x502001_1, .int .i64 x502002_1, .int .i64 x502003_1, .bool x502004_1] 49 (0, 0)) (by (with_reducible repeat (first | refine blk_drewN ?_ _ | refine blk_drew ?_ | refine blk_alloc ?_ _)); exact BK501.out)) : gb511 ≠ gb501))
                  clear BK501
                  clear HB
                  have BK501 := n0_
                  have HB := n1_
                  have BK511 := n2_
                  have GW511 := n3_
                  have GE511 := n4_
                  have NB501_511 := n5_
                  have NB511_501 := n6_
                  clear n0_ n1_ n2_ n3_ n4_ n5_ n6_
                  clear hb hbox hg
                  refine hK.out _ _ ⟨(blk_cell BK501.out 0).trans rfl, (blk_cell BK501.out 1).trans rfl, (blk_cell BK501.out 2).trans rfl, (blk_cell BK501.out 3).trans rfl, (blk_cell BK501.out 4).trans rfl, ((HB.out.cell (World.block_lt_of_cell? w _ hw504_0)).trans hw504_0), ((HB.out.cell (World.block_lt_of_cell? w _ hw504_1)).trans hw504_1), ((HB.out.cell (World.block_lt_of_cell? w _ hw504_2)).trans hw504_2)⟩ (fun hHeld => ?_)
                  clear hK K
                  refine norm_ (a' := ?_) ?_ ?_
                  rotate_left
                  ·
                   show Act.put _ (some 11) _ = _
                   simp only [Act.put, List.setIfInBounds_toArray, List.set_cons_zero, List.set_cons_succ, i64_w, i32_w]
                   rfl
                  refine one_ (i := 3) (N := some 46) #[true, true, true, true, true, true, true, true, true, true, false, false, false, false, true, false, false] rfl rfl (one_of HT_.out (by kernel_rfl)) (by decide) (fun K hK => ?_)
                  refine goes_ Try.func36 (by kernel_rfl) rfl #[.int .i64 x6_1] (by rfl) rfl rfl (by (try simp only [List.map_toArray, List.map_cons, List.map_nil]); first | done | rfl | (simp only [List.length_drop, List.length_take]; rfl)) ?_
                  with_reducible refine (ambidexterref24_Quant.calls x6_1 t503 _ A17.out).mono ?_
                  rintro e w' ⟨rfl, ⟨nd, rfl⟩⟩
                  refine ⟨_, rfl, ?_⟩
                  refine hK.out _ _ ⟨(blk_cell BK501.out 0).trans rfl, (blk_cell BK501.out 1).trans rfl, (blk_cell BK501.out 2).trans rfl, (blk_cell BK501.out 3).trans rfl, (blk_cell BK501.out 4).trans rfl, ((HB.out.cell (World.block_lt_of_cell? w _ hw504_0)).trans hw504_0), ((HB.out.cell (World.block_lt_of_cell? w _ hw504_1)).trans hw504_1), ((HB.out.cell (World.block_lt_of_cell? w _ hw504_2)).trans hw504_2)⟩ (fun hHeld => ?_)
                  clear hK K
                  refine norm_ (a' := ?_) ?_ ?_
                  rotate_left
                  ·
                   show Act.put _ (some 46) _ = _
                   simp only [Act.put, List.setIfInBounds_toArray, List.set_cons_zero, List.set_cons_succ, i64_w, i32_w]
                   rfl
                  refine one_ (i := 10) (N := some 53) #[true, true, true, true, true, true, true, true, true, true, true, false, false, false, true, false, false] rfl rfl (one_of HT_.out (by kernel_rfl)) (by decide) (fun K hK => ?_)
                  refine goes_ Try.func32 (by kernel_rfl) rfl #[.agg #[.int .i64 x502000_1, .int .i64 x502001_1, .int .i64 x502002_1, .int .i64 x502003_1, .bool x502004_1], .int .i64 x10_12, .int .i64 t503, .int .i64 (wrap64 ((rd_T54 l1 x9_1).f2))] (by rfl) rfl rfl (by (try simp only [List.map_toArray, List.map_cons, List.map_nil]); first | done | rfl | (simp only [List.length_drop, List.length_take]; rfl)) ?_
                  with_reducible refine (servo_Step.calls x502000_1 x502001_1 x502002_1 x502003_1 x502004_1 x10_12 t503 (wrap64 ((rd_T54 l1 x9_1).f2)) t505 t506 t507 t508 false t510 _ A20.out).mono ?_
                  rintro e w28 ⟨rfl, hb⟩
                  refine ⟨_, rfl, ?_⟩
                  have n0_ := Aside0.mk (blk_below (g := gb501) (o := .cells #[.int .i64 x502000_1, .int .i64 x502001_1, .int .i64 x502002_1, .int .i64 x502003_1, .bool x502004_1] 49 (0, 0)) (by (with_reducible repeat (first | refine blk_drewN ?_ _ | refine blk_drew ?_ | refine blk_alloc ?_ _)); exact BK501.out) hb)
                  have n1_ := Aside0.mk (blk_below (g := gb511) (o := .cells #[.int .i64 0, .int .i64 0, .int .i64 0, .int .i64 0, .bool false] 49 (0, 0)) (by (with_reducible repeat (first | refine blk_drewN ?_ _ | refine blk_drew ?_ | refine blk_alloc ?_ _)); exact BK511.out) hb)
                  have n2_ := Aside0.mk (below_step (by repeat (first | (with_reducible first | exact HB.out | apply below_alloc | apply pw_below_drewN | apply below_drew1 | refine below_set ?_ GE501.out | refine below_set ?_ GE511.out) | exact HB.out)) hb)
                  clear BK501
                  clear BK511
                  clear HB
                  have BK501 := n0_
                  have BK511 := n1_
                  have HB := n2_
                  clear n0_ n1_ n2_
                  (try clear hb)
                  (try clear hb2)
                  (try clear hk)
                  (try clear hi)
                  refine hK.out _ _ ⟨(blk_cell BK501.out 0).trans rfl, (blk_cell BK501.out 1).trans rfl, (blk_cell BK501.out 2).trans rfl, (blk_cell BK501.out 3).trans rfl, (blk_cell BK501.out 4).trans rfl, ((HB.out.cell (World.block_lt_of_cell? w _ hw504_0)).trans hw504_0), ((HB.out.cell (World.block_lt_of_cell? w _ hw504_1)).trans hw504_1), ((HB.out.cell (World.block_lt_of_cell? w _ hw504_2)).trans hw504_2)⟩ (fun hHeld => ?_)
                  clear hK K
                  refine norm_ (a' := ?_) ?_ ?_
                  rotate_left
                  ·
                   show Act.put _ (some 53) _ = _
                   simp only [Act.put, List.setIfInBounds_toArray, List.set_cons_zero, List.set_cons_succ, i64_w, i32_w]
                   rfl
                  refine pure_ (i := 11) (N := some 42) (v := ?_) (a' := ?_) #[true, true, true, true, true, true, true, true, true, true, true, true, false, false, true, false, false] rfl rfl (any_of HT_.out (by kernel_rfl)) (fun _ _ _ h => h) (Or.inl ⟨by rfl, ?_⟩) ?_ ?_
                  rotate_left
                  ·
                   intro w'
                   go_simp
                   with_reducible rfl
                  rotate_left
                  ·
                   simp only [Act.put, List.setIfInBounds_toArray, List.set_cons_zero, List.set_cons_succ, i64_w, i32_w]
                   rfl
                  refine pure_ (i := 12) (N := some 54) (v := ?_) (a' := ?_) #[true, true, true, true, true, true, true, true, true, true, true, true, true, false, true, false, false] rfl rfl (any_of HT_.out (by kernel_rfl)) (fun _ _ _ h => h) (Or.inl ⟨by rfl, ?_⟩) ?_ ?_
                  rotate_left
                  ·
                   intro w'
                   go_simp
                   with_reducible rfl
                  rotate_left
                  ·
                   simp only [Act.put, List.setIfInBounds_toArray, List.set_cons_zero, List.set_cons_succ, i64_w, i32_w]
                   rfl
                  refine pure_ (i := 13) (N := some 55) (v := ?_) (a' := ?_) #[true, true, true, true, true, true, true, true, true, true, true, true, true, true, true, false, false] rfl rfl (any_of HT_.out (by kernel_rfl)) (fun _ _ _ h => h) (Or.inl ⟨by rfl, ?_⟩) ?_ ?_
                  rotate_left
                  ·
                   intro w'
                   go_simp
                   with_reducible rfl
                  rotate_left
                  ·
                   simp only [Act.put, List.setIfInBounds_toArray, List.set_cons_zero, List.set_cons_succ, i64_w, i32_w]
                   rfl
                  exact norm_ (by simp only [putAll, Act.put, List.setIfInBounds_toArray, List.set_cons_zero, List.set_cons_succ]) (hCont (gb511) _ ⟨hHeld, (by (with_reducible repeat (first | refine blk_drewN ?_ _ | refine blk_drew ?_ | refine blk_alloc ?_ _)); exact BK501.out), (by (with_reducible repeat (first | refine blk_drewN ?_ _ | refine blk_drew ?_ | refine blk_alloc ?_ _)); exact BK511.out), GW511.out, GE511.out, NB501_511.out, NB511_501.out, (by repeat (first | (with_reducible first | exact HB.out | apply below_alloc | apply pw_below_drewN | apply below_drew1 | refine below_set ?_ GE501.out | refine below_set ?_ GE511.out) | exact HB.out))⟩)
                rintro gb511 w29 ⟨hS_, h0_, h1_, h2_, h3_, h4_, h5_, h6_⟩
                have n0_ : Aside0 (w29.heap[gb501]? = some (.cells #[.int .i64 x502000_1, .int .i64 x502001_1, .int .i64 x502002_1, .int .i64 x502003_1, .bool x502004_1] 49 (0, 0))) := ⟨h0_⟩
                have n1_ : Aside0 (w29.heap[gb511]? = some (.cells #[.int .i64 0, .int .i64 0, .int .i64 0, .int .i64 0, .bool false] 49 (0, 0))) := ⟨h1_⟩
                have n2_ : Aside0 (w.heap.size ≤ gb511) := ⟨h2_⟩
                have n3_ : Aside0 (w.heap.size ≤ gb511) := ⟨h3_⟩
                have n4_ : Aside0 (gb501 ≠ gb511) := ⟨h4_⟩
                have n5_ : Aside0 (gb511 ≠ gb501) := ⟨h5_⟩
                have n6_ : Aside0 (Below w.heap.size w w29) := ⟨h6_⟩
                clear BK501
                clear HB
                clear h0_ h1_ h2_ h3_ h4_ h5_ h6_
                have BK501 := n0_
                have BK511 := n1_
                have GW511 := n2_
                have GE511 := n3_
                have NB501_511 := n4_
                have NB511_501 := n5_
                have HB := n6_
                clear n0_ n1_ n2_ n3_ n4_ n5_ n6_
                have hHeld : w29.cell? ⟨gb501, 0, none⟩ = some (.int .i64 x502000_1) ∧ w29.cell? ⟨gb501, 1, none⟩ = some (.int .i64 x502001_1) ∧ w29.cell? ⟨gb501, 2, none⟩ = some (.int .i64 x502002_1) ∧ w29.cell? ⟨gb501, 3, none⟩ = some (.int .i64 x502003_1) ∧ w29.cell? ⟨gb501, 4, none⟩ = some (.bool x502004_1) ∧ w29.cell? (ad502.add ((x9_1).toNat * 3)) = some (.int .u8 ((rd_T54 l1 x9_1).f0)) ∧ w29.cell? ⟨(ad502.add ((x9_1).toNat * 3)).block, (ad502.add ((x9_1).toNat * 3)).off + 1, none⟩ = some (.int .i16 ((rd_T54 l1 x9_1).f1)) ∧ w29.cell? ⟨(ad502.add ((x9_1).toNat * 3)).block, (ad502.add ((x9_1).toNat * 3)).off + 2, none⟩ = some (.int .i16 ((rd_T54 l1 x9_1).f2)) := hS_
                refine norm_ (a' := ?_) ?_ ?_
                rotate_left
                ·
                 simp only [putAll, Act.put, List.setIfInBounds_toArray, List.set_cons_zero, List.set_cons_succ]
                 rfl
                refine one_ (i := 15) (N := none) #[true, true, true, true, true, true, true, true, true, true, true, true, true, true, true, true, false] rfl rfl (one_of HT_.out (by kernel_rfl)) (by decide) (fun K hK => ?_)
                have hs30 : w29.cell? ⟨gb511, 0, none⟩ = some (.int .i64 0) := (blk_cell BK511.out 0).trans rfl
                have hfs30 := blk_frozen BK511.out 0
                have hns30_0 := NB501_511.out
                have hms30_0 := NB511_501.out
                have hs31 : w29.cell? ⟨gb511, 1, none⟩ = some (.int .i64 0) := (blk_cell BK511.out 1).trans rfl
                have hfs31 := blk_frozen BK511.out 1
                have hns31_0 := NB501_511.out
                have hms31_0 := NB511_501.out
                have hs32 : w29.cell? ⟨gb511, 2, none⟩ = some (.int .i64 0) := (blk_cell BK511.out 2).trans rfl
                have hfs32 := blk_frozen BK511.out 2
                have hns32_0 := NB501_511.out
                have hms32_0 := NB511_501.out
                have hs33 : w29.cell? ⟨gb511, 3, none⟩ = some (.int .i64 0) := (blk_cell BK511.out 3).trans rfl
                have hfs33 := blk_frozen BK511.out 3
                have hns33_0 := NB501_511.out
                have hms33_0 := NB511_501.out
                have hs34 : w29.cell? ⟨gb511, 4, none⟩ = some (.bool false) := (blk_cell BK511.out 4).trans rfl
                have hfs34 := blk_frozen BK511.out 4
                have hns34_0 := NB501_511.out
                have hms34_0 := NB511_501.out
                refine skip_ (w1 := ?_) (by rfl) rfl ?_ ?_
                rotate_left
                ·
                 go_simp
                 rfl
                refine hK.out _ _ ⟨((cell_far5 (g := gb511) NB501_511.out).trans (hHeld.1)), ((cell_far5 (g := gb511) NB501_511.out).trans (hHeld.2.1)), ((cell_far5 (g := gb511) NB501_511.out).trans (hHeld.2.2.1)), ((cell_far5 (g := gb511) NB501_511.out).trans (hHeld.2.2.2.1)), ((cell_far5 (g := gb511) NB501_511.out).trans (hHeld.2.2.2.2.1)), ((cell_far5 (g := gb511) (by first | exact Nat.ne_of_lt (Nat.lt_of_lt_of_le (by have := World.block_lt_of_cell? _ _ hw504_0; first | rwa [add_block] at this | exact this) GW511.out) | (rw [add_block]; exact Nat.ne_of_lt (Nat.lt_of_lt_of_le (by have := World.block_lt_of_cell? _ _ hw504_0; first | rwa [add_block] at this | exact this) GW511.out)) | (show (Addr.add _ _).block ≠ _; rw [add_block]; exact Nat.ne_of_lt (Nat.lt_of_lt_of_le (by have := World.block_lt_of_cell? _ _ hw504_0; first | rwa [add_block] at this | exact this) GW511.out)) | (dsimp only; exact Nat.ne_of_lt (Nat.lt_of_lt_of_le (by have := World.block_lt_of_cell? _ _ hw504_0; first | rwa [add_block] at this | exact this) GW511.out)))).trans (hHeld.2.2.2.2.2.1)), ((cell_far5 (g := gb511) (by first | exact Nat.ne_of_lt (Nat.lt_of_lt_of_le (by have := World.block_lt_of_cell? _ _ hw504_1; first | rwa [add_block] at this | exact this) GW511.out) | (rw [add_block]; exact Nat.ne_of_lt (Nat.lt_of_lt_of_le (by have := World.block_lt_of_cell? _ _ hw504_1; first | rwa [add_block] at this | exact this) GW511.out)) | (show (Addr.add _ _).block ≠ _; rw [add_block]; exact Nat.ne_of_lt (Nat.lt_of_lt_of_le (by have := World.block_lt_of_cell? _ _ hw504_1; first | rwa [add_block] at this | exact this) GW511.out)) | (dsimp only; exact Nat.ne_of_lt (Nat.lt_of_lt_of_le (by have := World.block_lt_of_cell? _ _ hw504_1; first | rwa [add_block] at this | exact this) GW511.out)))).trans (hHeld.2.2.2.2.2.2.1)), ((cell_far5 (g := gb511) (by first | exact Nat.ne_of_lt (Nat.lt_of_lt_of_le (by have := World.block_lt_of_cell? _ _ hw504_2; first | rwa [add_block] at this | exact this) GW511.out) | (rw [add_block]; exact Nat.ne_of_lt (Nat.lt_of_lt_of_le (by have := World.block_lt_of_cell? _ _ hw504_2; first | rwa [add_block] at this | exact this) GW511.out)) | (show (Addr.add _ _).block ≠ _; rw [add_block]; exact Nat.ne_of_lt (Nat.lt_of_lt_of_le (by have := World.block_lt_of_cell? _ _ hw504_2; first | rwa [add_block] at this | exact this) GW511.out)) | (dsimp only; exact Nat.ne_of_lt (Nat.lt_of_lt_of_le (by have := World.block_lt_of_cell? _ _ hw504_2; first | rwa [add_block] at this | exact this) GW511.out)))).trans (hHeld.2.2.2.2.2.2.2))⟩ (fun hHeld => ?_)
                clear hK K
                refine pure_ (i := 16) (N := some 12) (v := ?_) (a' := ?_) #[true, true, true, true, true, true, true, true, true, true, true, true, true, true, true, true, true] rfl rfl (any_of HT_.out (by kernel_rfl)) (fun _ _ _ h => h) (Or.inl ⟨by rfl, ?_⟩) ?_ ?_
                rotate_left
                ·
                 intro w'
                 go_simp
                 with_reducible rfl
                rotate_left
                ·
                 simp only [Act.put, List.setIfInBounds_toArray, List.set_cons_zero, List.set_cons_succ, i64_w, i32_w]
                 rfl
                refine done_ (done_of HT_.out (by kernel_rfl)) ?_
                try go_wp2
                have n0_ : Aside0 ((((((w29.setCell ⟨gb511, 0, none⟩ (.int .i64 t505)).setCell ⟨gb511, 1, none⟩ (.int .i64 t506)).setCell ⟨gb511, 2, none⟩ (.int .i64 t507)).setCell ⟨gb511, 3, none⟩ (.int .i64 t508)).setCell ⟨gb511, 4, none⟩ (.bool false)).heap[gb501]? = some (.cells #[.int .i64 x502000_1, .int .i64 x502001_1, .int .i64 x502002_1, .int .i64 x502003_1, .bool x502004_1] 49 (0, 0))) := ⟨by (with_reducible repeat (first | refine blk_drewN ?_ _ | refine blk_drew ?_ | refine blk_alloc ?_ _)); refine blk_far ?_ NB501_511.out _; (with_reducible repeat (first | refine blk_drewN ?_ _ | refine blk_drew ?_ | refine blk_alloc ?_ _)); refine blk_far ?_ NB501_511.out _; (with_reducible repeat (first | refine blk_drewN ?_ _ | refine blk_drew ?_ | refine blk_alloc ?_ _)); refine blk_far ?_ NB501_511.out _; (with_reducible repeat (first | refine blk_drewN ?_ _ | refine blk_drew ?_ | refine blk_alloc ?_ _)); refine blk_far ?_ NB501_511.out _; (with_reducible repeat (first | refine blk_drewN ?_ _ | refine blk_drew ?_ | refine blk_alloc ?_ _)); refine blk_far ?_ NB501_511.out _; (with_reducible repeat (first | refine blk_drewN ?_ _ | refine blk_drew ?_ | refine blk_alloc ?_ _)); exact BK501.out⟩
                have n1_ : Aside0 ((((((w29.setCell ⟨gb511, 0, none⟩ (.int .i64 t505)).setCell ⟨gb511, 1, none⟩ (.int .i64 t506)).setCell ⟨gb511, 2, none⟩ (.int .i64 t507)).setCell ⟨gb511, 3, none⟩ (.int .i64 t508)).setCell ⟨gb511, 4, none⟩ (.bool false)).heap[gb511]? = some (.cells #[.int .i64 t505, .int .i64 t506, .int .i64 t507, .int .i64 t508, .bool false] 49 (0, 0))) := ⟨by (with_reducible repeat (first | refine blk_drewN ?_ _ | refine blk_drew ?_ | refine blk_alloc ?_ _)); refine blk_put (cs := #[.int .i64 t505, .int .i64 t506, .int .i64 t507, .int .i64 t508, .bool false]) ?_ 4 _ rfl; (with_reducible repeat (first | refine blk_drewN ?_ _ | refine blk_drew ?_ | refine blk_alloc ?_ _)); refine blk_put (cs := #[.int .i64 t505, .int .i64 t506, .int .i64 t507, .int .i64 0, .bool false]) ?_ 3 _ rfl; (with_reducible repeat (first | refine blk_drewN ?_ _ | refine blk_drew ?_ | refine blk_alloc ?_ _)); refine blk_put (cs := #[.int .i64 t505, .int .i64 t506, .int .i64 0, .int .i64 0, .bool false]) ?_ 2 _ rfl; (with_reducible repeat (first | refine blk_drewN ?_ _ | refine blk_drew ?_ | refine blk_alloc ?_ _)); refine blk_put (cs := #[.int .i64 t505, .int .i64 0, .int .i64 0, .int .i64 0, .bool false]) ?_ 1 _ rfl; (with_reducible repeat (first | refine blk_drewN ?_ _ | refine blk_drew ?_ | refine blk_alloc ?_ _)); refine blk_put (cs := #[.int .i64 0, .int .i64 0, .int .i64 0, .int .i64 0, .bool false]) ?_ 0 _ rfl; (with_reducible repeat (first | refine blk_drewN ?_ _ | refine blk_drew ?_ | refine blk_alloc ?_ _)); exact BK511.out⟩
                have n2_ : Aside0 (Below w.heap.size w (((((w29.setCell ⟨gb511, 0, none⟩ (.int .i64 t505)).setCell ⟨gb511, 1, none⟩ (.int .i64 t506)).setCell ⟨gb511, 2, none⟩ (.int .i64 t507)).setCell ⟨gb511, 3, none⟩ (.int .i64 t508)).setCell ⟨gb511, 4, none⟩ (.bool false))) := ⟨by repeat (first | (with_reducible first | exact HB.out | apply below_alloc | apply pw_below_drewN | apply below_drew1 | refine below_set ?_ GE501.out | refine below_set ?_ GE511.out) | exact HB.out)⟩
                (try clear BK501)
                (try clear BK511)
                (try clear HB)
                generalize (((((w29.setCell ⟨gb511, 0, none⟩ (.int .i64 t505)).setCell ⟨gb511, 1, none⟩ (.int .i64 t506)).setCell ⟨gb511, 2, none⟩ (.int .i64 t507)).setCell ⟨gb511, 3, none⟩ (.int .i64 t508)).setCell ⟨gb511, 4, none⟩ (.bool false)) = w35 at n0_ n1_ n2_ ⊢
                have BK501 := n0_
                have BK511 := n1_
                have HB := n2_
                clear n0_ n1_ n2_
                have n0_ := Aside0.mk (blk_drew BK501.out)
                have n1_ := Aside0.mk (blk_drew BK511.out)
                have n2_ := Aside0.mk (below_drew1 HB.out)
                clear BK501
                clear BK511
                clear HB
                have BK501 := n0_
                have BK511 := n1_
                have HB := n2_
                clear n0_ n1_ n2_
                have p513 : 0 ≤ (x9_1 : Int) := of_decide_eq_true (by first | (with_reducible assumption) | assumption)
                have q513 : x9_1 < (l1.length : Int) := of_decide_eq_true (by first | (with_reducible assumption) | assumption)
                obtain ⟨ad513, e513, hx513_0, hx513_1, hx513_2⟩ := at_T54 HR1.out x9_1 p513 q513
                have hw513_2 := hx513_2
                have hw513_1 := hx513_1
                have hw513_0 := hx513_0
                obtain rfl : ad502 = ad513 := (by injection e513)
                replace hx513_0 := (HB.out.cell (World.block_lt_of_cell? w _ hx513_0)).trans hx513_0
                replace hx513_1 := (HB.out.cell (World.block_lt_of_cell? w _ hx513_1)).trans hx513_1
                replace hx513_2 := (HB.out.cell (World.block_lt_of_cell? w _ hx513_2)).trans hx513_2
                replace p513 := eq_true p513
                replace q513 := eq_true q513
                refine start_ (n := 21) (S := fun w' => w'.cell? ⟨gb511, 0, none⟩ = some (.int .i64 t505) ∧ w'.cell? ⟨gb511, 1, none⟩ = some (.int .i64 t506) ∧ w'.cell? ⟨gb511, 2, none⟩ = some (.int .i64 t507) ∧ w'.cell? ⟨gb511, 3, none⟩ = some (.int .i64 t508) ∧ w'.cell? ⟨gb511, 4, none⟩ = some (.bool false) ∧ w'.cell? (ad502.add ((x9_1).toNat * 3)) = some (.int .u8 ((rd_T54 l1 x9_1).f0)) ∧ w'.cell? ⟨(ad502.add ((x9_1).toNat * 3)).block, (ad502.add ((x9_1).toNat * 3)).off + 1, none⟩ = some (.int .i16 ((rd_T54 l1 x9_1).f1)) ∧ w'.cell? ⟨(ad502.add ((x9_1).toNat * 3)).block, (ad502.add ((x9_1).toNat * 3)).off + 2, none⟩ = some (.int .i16 ((rd_T54 l1 x9_1).f2))) (ds := []) #[false, false, false, false, false, false, false, false, false, false, false, false, false, false, false, false, false, false, false, false, false] (by kernel_rfl) rfl rfl ⟨(blk_cell BK511.out 0).trans rfl, (blk_cell BK511.out 1).trans rfl, (blk_cell BK511.out 2).trans rfl, (blk_cell BK511.out 3).trans rfl, (blk_cell BK511.out 4).trans rfl, ((HB.out.cell (World.block_lt_of_cell? w _ hw513_0)).trans hw513_0), ((HB.out.cell (World.block_lt_of_cell? w _ hw513_1)).trans hw513_1), ((HB.out.cell (World.block_lt_of_cell? w _ hw513_2)).trans hw513_2)⟩ (fun hHeld => ?_); refine with_tabW ambidexterlaw25_ServoTracksTarget.tab18 ambidexterlaw25_ServoTracksTarget.bits18 (fun HT_ HW_ => ?_)
                generalize w35.drew = w36 at BK501 BK511 HB hx513_0 hx513_1 hx513_2 hHeld ⊢
                refine pure_ (i := 0) (N := some 59) (v := ?_) (a' := ?_) #[true, false, false, false, false, false, false, false, false, false, false, false, false, false, false, false, false, false, false, false, false] rfl rfl (any_of HT_.out (by kernel_rfl)) (fun _ _ _ h => h) (Or.inl ⟨by rfl, ?_⟩) ?_ ?_
                rotate_left
                ·
                 intro w'
                 go_simp
                 with_reducible rfl
                rotate_left
                ·
                 simp only [Act.put, List.setIfInBounds_toArray, List.set_cons_zero, List.set_cons_succ, i64_w, i32_w]
                 rfl
                refine take_ (i := 1) (N := some 60) (v := ?_) (a' := ?_) #[true, true, false, false, false, false, false, false, false, false, false, false, false, false, false, false, false, false, false, false, false] rfl rfl (take_ofW HT_.out HW_.out (by kernel_rfl)) (fun _ _ _ h => h) (Or.inl ⟨by rfl, ?_⟩) hHeld ?_ ?_
                rotate_left
                ·
                 rintro w' ⟨s0, s1, s2, s3, s4, s5, s6, s7⟩
                 go_simp
                 with_reducible rfl
                rotate_left
                ·
                 simp only [Act.put, List.setIfInBounds_toArray, List.set_cons_zero, List.set_cons_succ, i64_w, i32_w]
                 rfl
                refine pure_ (i := 2) (N := some 61) (v := ?_) (a' := ?_) #[true, true, true, false, false, false, false, false, false, false, false, false, false, false, false, false, false, false, false, false, false] rfl rfl (any_of HT_.out (by kernel_rfl)) (fun _ _ _ h => h) (Or.inl ⟨by rfl, ?_⟩) ?_ ?_
                rotate_left
                ·
                 intro w'
                 go_simp
                 with_reducible rfl
                rotate_left
                ·
                 simp only [Act.put, List.setIfInBounds_toArray, List.set_cons_zero, List.set_cons_succ, i64_w, i32_w]
                 rfl
                refine pure_ (i := 3) (N := some 62) (v := ?_) (a' := ?_) #[true, true, true, true, false, false, false, false, false, false, false, false, false, false, false, false, false, false, false, false, false] rfl rfl (any_of HT_.out (by kernel_rfl)) (fun _ _ _ h => h) (Or.inl ⟨by rfl, ?_⟩) ?_ ?_
                rotate_left
                ·
                 intro w'
                 go_simp
                 with_reducible rfl
                rotate_left
                ·
                 simp only [Act.put, List.setIfInBounds_toArray, List.set_cons_zero, List.set_cons_succ, i64_w, i32_w]
                 rfl
                refine pure_ (i := 4) (N := some 63) (v := ?_) (a' := ?_) #[true, true, true, true, true, false, false, false, false, false, false, false, false, false, false, false, false, false, false, false, false] rfl rfl (any_of HT_.out (by kernel_rfl)) (fun _ _ _ h => h) (Or.inl ⟨by rfl, ?_⟩) ?_ ?_
                rotate_left
                ·
                 intro w'
                 go_simp
                 with_reducible rfl
                rotate_left
                ·
                 simp only [Act.put, List.setIfInBounds_toArray, List.set_cons_zero, List.set_cons_succ, i64_w, i32_w]
                 rfl
                refine pure_ (i := 5) (N := some 64) (v := ?_) (a' := ?_) #[true, true, true, true, true, true, false, false, false, false, false, false, false, false, false, false, false, false, false, false, false] rfl rfl (any_of HT_.out (by kernel_rfl)) (fun _ _ _ h => h) (Or.inl ⟨by rfl, ?_⟩) ?_ ?_
                rotate_left
                ·
                 intro w'
                 go_simp
                 with_reducible rfl
                rotate_left
                ·
                 simp only [Act.put, List.setIfInBounds_toArray, List.set_cons_zero, List.set_cons_succ, i64_w, i32_w]
                 rfl
                refine pure_ (i := 6) (N := some 65) (v := ?_) (a' := ?_) #[true, true, true, true, true, true, true, false, false, false, false, false, false, false, false, false, false, false, false, false, false] rfl rfl (any_of HT_.out (by kernel_rfl)) (fun _ _ _ h => h) (Or.inl ⟨by rfl, ?_⟩) ?_ ?_
                rotate_left
                ·
                 intro w'
                 go_simp
                 with_reducible rfl
                rotate_left
                ·
                 simp only [Act.put, List.setIfInBounds_toArray, List.set_cons_zero, List.set_cons_succ, i64_w, i32_w]
                 rfl
                refine pure_ (i := 7) (N := some 66) (v := ?_) (a' := ?_) #[true, true, true, true, true, true, true, true, false, false, false, false, false, false, false, false, false, false, false, false, false] rfl rfl (any_of HT_.out (by kernel_rfl)) (fun _ _ _ h => h) (Or.inl ⟨by rfl, ?_⟩) ?_ ?_
                rotate_left
                ·
                 intro w'
                 go_simp
                 with_reducible rfl
                rotate_left
                ·
                 simp only [Act.put, List.setIfInBounds_toArray, List.set_cons_zero, List.set_cons_succ, i64_w, i32_w]
                 rfl
                refine pure_ (i := 8) (N := some 67) (v := ?_) (a' := ?_) #[true, true, true, true, true, true, true, true, true, false, false, false, false, false, false, false, false, false, false, false, false] rfl rfl (any_of HT_.out (by kernel_rfl)) (fun _ _ _ h => h) (Or.inl ⟨by rfl, ?_⟩) ?_ ?_
                rotate_left
                ·
                 intro w'
                 go_simp
                 with_reducible rfl
                rotate_left
                ·
                 simp only [Act.put, List.setIfInBounds_toArray, List.set_cons_zero, List.set_cons_succ, i64_w, i32_w]
                 rfl
                refine pure_ (i := 9) (N := some 68) (v := ?_) (a' := ?_) #[true, true, true, true, true, true, true, true, true, true, false, false, false, false, false, false, false, false, false, false, false] rfl rfl (any_of HT_.out (by kernel_rfl)) (fun _ _ _ h => h) (Or.inl ⟨by rfl, ?_⟩) ?_ ?_
                rotate_left
                ·
                 intro w'
                 go_simp
                 with_reducible rfl
                rotate_left
                ·
                 simp only [Act.put, List.setIfInBounds_toArray, List.set_cons_zero, List.set_cons_succ, i64_w, i32_w]
                 rfl
                refine pure_ (i := 10) (N := some 69) (v := ?_) (a' := ?_) #[true, true, true, true, true, true, true, true, true, true, true, false, false, false, false, false, false, false, false, false, false] rfl rfl (any_of HT_.out (by kernel_rfl)) (fun _ _ _ h => h) (Or.inl ⟨by rfl, ?_⟩) ?_ ?_
                rotate_left
                ·
                 intro w'
                 go_simp
                 with_reducible rfl
                rotate_left
                ·
                 simp only [Act.put, List.setIfInBounds_toArray, List.set_cons_zero, List.set_cons_succ, i64_w, i32_w]
                 rfl
                refine pure_ (i := 12) (N := some 71) (v := ?_) (a' := ?_) #[true, true, true, true, true, true, true, true, true, true, true, false, true, false, false, false, false, false, false, false, false] rfl rfl (any_of HT_.out (by kernel_rfl)) (fun _ _ _ h => h) (Or.inl ⟨by rfl, ?_⟩) ?_ ?_
                rotate_left
                ·
                 intro w'
                 go_simp
                 with_reducible rfl
                rotate_left
                ·
                 simp only [Act.put, List.setIfInBounds_toArray, List.set_cons_zero, List.set_cons_succ, i64_w, i32_w]
                 rfl
                refine pure_ (i := 13) (N := some 72) (v := ?_) (a' := ?_) #[true, true, true, true, true, true, true, true, true, true, true, false, true, true, false, false, false, false, false, false, false] rfl rfl (any_of HT_.out (by kernel_rfl)) (fun _ _ _ h => h) (Or.inl ⟨by rfl, ?_⟩) ?_ ?_
                rotate_left
                ·
                 intro w'
                 go_simp
                 with_reducible rfl
                rotate_left
                ·
                 simp only [Act.put, List.setIfInBounds_toArray, List.set_cons_zero, List.set_cons_succ, i64_w, i32_w]
                 rfl
                refine pure_ (i := 14) (N := some 73) (v := ?_) (a' := ?_) #[true, true, true, true, true, true, true, true, true, true, true, false, true, true, true, false, false, false, false, false, false] rfl rfl (any_of HT_.out (by kernel_rfl)) (fun _ _ _ h => h) (Or.inl ⟨by rfl, ?_⟩) ?_ ?_
                rotate_left
                ·
                 intro w'
                 go_simp
                 with_reducible rfl
                rotate_left
                ·
                 simp only [Act.put, List.setIfInBounds_toArray, List.set_cons_zero, List.set_cons_succ, i64_w, i32_w]
                 rfl
                refine pure_ (i := 15) (N := some 74) (v := ?_) (a' := ?_) #[true, true, true, true, true, true, true, true, true, true, true, false, true, true, true, true, false, false, false, false, false] rfl rfl (any_of HT_.out (by kernel_rfl)) (fun _ _ _ h => h) (Or.inl ⟨by rfl, ?_⟩) ?_ ?_
                rotate_left
                ·
                 intro w'
                 go_simp
                 with_reducible rfl
                rotate_left
                ·
                 simp only [Act.put, List.setIfInBounds_toArray, List.set_cons_zero, List.set_cons_succ, i64_w, i32_w]
                 rfl
                refine take_ (i := 16) (N := some 75) (v := ?_) (a' := ?_) #[true, true, true, true, true, true, true, true, true, true, true, false, true, true, true, true, true, false, false, false, false] rfl rfl (take_ofW HT_.out HW_.out (by kernel_rfl)) (fun _ _ _ h => h) (Or.inl ⟨by rfl, ?_⟩) hHeld ?_ ?_
                rotate_left
                ·
                 rintro w' ⟨s0, s1, s2, s3, s4, s5, s6, s7⟩
                 go_simp
                 with_reducible rfl
                rotate_left
                ·
                 simp only [Act.put, List.setIfInBounds_toArray, List.set_cons_zero, List.set_cons_succ, i64_w, i32_w]
                 rfl
                refine pure_ (i := 17) (N := some 76) (v := ?_) (a' := ?_) #[true, true, true, true, true, true, true, true, true, true, true, false, true, true, true, true, true, true, false, false, false] rfl rfl (any_of HT_.out (by kernel_rfl)) (fun _ _ _ h => h) (Or.inl ⟨by rfl, ?_⟩) ?_ ?_
                rotate_left
                ·
                 intro w'
                 go_simp
                 with_reducible rfl
                rotate_left
                ·
                 simp only [Act.put, List.setIfInBounds_toArray, List.set_cons_zero, List.set_cons_succ, i64_w, i32_w]
                 rfl
                refine one_ (i := 11) (N := some 70) #[true, true, true, true, true, true, true, true, true, true, true, true, true, true, true, true, true, true, false, false, false] rfl rfl (one_of HT_.out (by kernel_rfl)) (by decide) (fun K hK => ?_)
                refine goes_ Try.func36 (by kernel_rfl) rfl #[.int .i64 (wrap64 (x6_1 + t510))] (by rfl) rfl rfl (by (try simp only [List.map_toArray, List.map_cons, List.map_nil]); first | done | rfl | (simp only [List.length_drop, List.length_take]; rfl)) ?_
                with_reducible refine (ambidexterref24_Quant.calls (wrap64 (x6_1 + t510)) t512 _ A24.out).mono ?_
                rintro e w' ⟨rfl, ⟨nd, rfl⟩⟩
                refine ⟨_, rfl, ?_⟩
                refine hK.out _ _ ⟨(blk_cell BK511.out 0).trans rfl, (blk_cell BK511.out 1).trans rfl, (blk_cell BK511.out 2).trans rfl, (blk_cell BK511.out 3).trans rfl, (blk_cell BK511.out 4).trans rfl, ((HB.out.cell (World.block_lt_of_cell? w _ hw513_0)).trans hw513_0), ((HB.out.cell (World.block_lt_of_cell? w _ hw513_1)).trans hw513_1), ((HB.out.cell (World.block_lt_of_cell? w _ hw513_2)).trans hw513_2)⟩ (fun hHeld => ?_)
                clear hK K
                refine norm_ (a' := ?_) ?_ ?_
                rotate_left
                ·
                 show Act.put _ (some 70) _ = _
                 simp only [Act.put, List.setIfInBounds_toArray, List.set_cons_zero, List.set_cons_succ, i64_w, i32_w]
                 rfl
                refine pure_ (i := 18) (N := some 77) (v := ?_) (a' := ?_) #[true, true, true, true, true, true, true, true, true, true, true, true, true, true, true, true, true, true, true, false, false] rfl rfl (any_of HT_.out (by kernel_rfl)) (fun _ _ _ h => h) (Or.inl ⟨by rfl, ?_⟩) ?_ ?_
                rotate_left
                ·
                 intro w'
                 go_simp
                 with_reducible rfl
                rotate_left
                ·
                 simp only [Act.put, List.setIfInBounds_toArray, List.set_cons_zero, List.set_cons_succ, i64_w, i32_w]
                 rfl
                refine pure_ (i := 19) (N := some 78) (v := ?_) (a' := ?_) #[true, true, true, true, true, true, true, true, true, true, true, true, true, true, true, true, true, true, true, true, false] rfl rfl (any_of HT_.out (by kernel_rfl)) (fun _ _ _ h => h) (Or.inl ⟨by rfl, ?_⟩) ?_ ?_
                rotate_left
                ·
                 intro w'
                 go_simp
                 with_reducible rfl
                rotate_left
                ·
                 simp only [Act.put, List.setIfInBounds_toArray, List.set_cons_zero, List.set_cons_succ, i64_w, i32_w]
                 rfl
                refine pure_ (i := 20) (N := some 79) (v := ?_) (a' := ?_) #[true, true, true, true, true, true, true, true, true, true, true, true, true, true, true, true, true, true, true, true, true] rfl rfl (any_of HT_.out (by kernel_rfl)) (fun _ _ _ h => h) (Or.inl ⟨by rfl, ?_⟩) ?_ ?_
                rotate_left
                ·
                 intro w'
                 go_simp
                 with_reducible rfl
                rotate_left
                ·
                 simp only [Act.put, List.setIfInBounds_toArray, List.set_cons_zero, List.set_cons_succ, i64_w, i32_w]
                 rfl
                refine done_ (done_of HT_.out (by kernel_rfl)) ?_
                have hnb37 := NB511_501.out
                have hnc37 := NB501_511.out
                have hcz38_0 : w36.cell? ⟨gb511, 0, none⟩ = some (.int .i64 t505) := (blk_cell BK511.out 0).trans rfl
                have hcz38_1 : w36.cell? ⟨gb511, 1, none⟩ = some (.int .i64 t506) := (blk_cell BK511.out 1).trans rfl
                have hcz38_2 : w36.cell? ⟨gb511, 2, none⟩ = some (.int .i64 t507) := (blk_cell BK511.out 2).trans rfl
                have hcz38_3 : w36.cell? ⟨gb511, 3, none⟩ = some (.int .i64 t508) := (blk_cell BK511.out 3).trans rfl
                have hcz38_4 : w36.cell? ⟨gb511, 4, none⟩ = some (.bool false) := (blk_cell BK511.out 4).trans rfl
                have hfz38_0 := blk_frozen BK511.out 0
                have hfz38_1 := blk_frozen BK511.out 1
                have hfz38_2 := blk_frozen BK511.out 2
                have hfz38_3 := blk_frozen BK511.out 3
                have hfz38_4 := blk_frozen BK511.out 4
                have hcz39_0 : w36.cell? ⟨gb501, 0, none⟩ = some (.int .i64 x502000_1) := (blk_cell BK501.out 0).trans rfl
                have hcz39_1 : w36.cell? ⟨gb501, 1, none⟩ = some (.int .i64 x502001_1) := (blk_cell BK501.out 1).trans rfl
                have hcz39_2 : w36.cell? ⟨gb501, 2, none⟩ = some (.int .i64 x502002_1) := (blk_cell BK501.out 2).trans rfl
                have hcz39_3 : w36.cell? ⟨gb501, 3, none⟩ = some (.int .i64 x502003_1) := (blk_cell BK501.out 3).trans rfl
                have hcz39_4 : w36.cell? ⟨gb501, 4, none⟩ = some (.bool x502004_1) := (blk_cell BK501.out 4).trans rfl
                have hfz39_0 := blk_frozen BK501.out 0
                have hfz39_1 := blk_frozen BK501.out 1
                have hfz39_2 := blk_frozen BK501.out 2
                have hfz39_3 := blk_frozen BK501.out 3
                have hfz39_4 := blk_frozen BK501.out 4
                try go_wp2
                go_roundg kj14
                case measure => have := HK1.out; have := HJ12.out; have := HJ14.out; omega
                case rel => exact ⟨(wrap64 (x6_1 + t510)), (x8_14), (wrap64 (x9_1 + 1)), (t505), (t506), (t507), (t508), (false), (by first | rfl | (simp; done) | (simp [*]; done)), (by first | rfl | (simp; done) | (simp [*]; done)), (by first | rfl | (simp; done) | (simp [*]; done)), H', ⟨by have := HK1.out; have := HJ12.out; have := HJ14.out; omega⟩, ⟨by (with_reducible repeat (first | refine blk_drewN ?_ _ | refine blk_drew ?_ | refine blk_alloc ?_ _)); refine blk_put (cs := #[.int .i64 t505, .int .i64 t506, .int .i64 t507, .int .i64 t508, .bool x502004_1]) ?_ 4 _ rfl; (with_reducible repeat (first | refine blk_drewN ?_ _ | refine blk_drew ?_ | refine blk_alloc ?_ _)); refine blk_put (cs := #[.int .i64 t505, .int .i64 t506, .int .i64 t507, .int .i64 x502003_1, .bool x502004_1]) ?_ 3 _ rfl; (with_reducible repeat (first | refine blk_drewN ?_ _ | refine blk_drew ?_ | refine blk_alloc ?_ _)); refine blk_put (cs := #[.int .i64 t505, .int .i64 t506, .int .i64 x502002_1, .int .i64 x502003_1, .bool x502004_1]) ?_ 2 _ rfl; (with_reducible repeat (first | refine blk_drewN ?_ _ | refine blk_drew ?_ | refine blk_alloc ?_ _)); refine blk_put (cs := #[.int .i64 t505, .int .i64 x502001_1, .int .i64 x502002_1, .int .i64 x502003_1, .bool x502004_1]) ?_ 1 _ rfl; (with_reducible repeat (first | refine blk_drewN ?_ _ | refine blk_drew ?_ | refine blk_alloc ?_ _)); refine blk_put (cs := #[.int .i64 x502000_1, .int .i64 x502001_1, .int .i64 x502002_1, .int .i64 x502003_1, .bool x502004_1]) ?_ 0 _ rfl; (with_reducible repeat (first | refine blk_drewN ?_ _ | refine blk_drew ?_ | refine blk_alloc ?_ _)); exact BK501.out⟩, ⟨by repeat (first | (with_reducible first | exact HB.out | apply below_alloc | apply pw_below_drewN | apply below_drew1 | refine below_set ?_ GE501.out | refine below_set ?_ GE511.out) | exact HB.out)⟩⟩
               ·
                rw [if_neg c25] at H
                have c25b0 : (t512 == (wrap64 ((rd_T54 l1 x9_1).f2))) = false := beq_eq_false_iff_ne.mpr c25
                have c25b1 : (t512 != (wrap64 ((rd_T54 l1 x9_1).f2))) = true := bne_iff_ne.mpr c25
                exact absurd HT.out (by rw [← Option.some.inj H]; decide)
              ·
               rw [if_neg c23] at H
               have c23b0 : decide ((-128) < t510) = false := decide_eq_false c23
               clear c23
               have H' := Aside0.mk H
               clear H
               try go_wp2
               have n0_ := Aside0.mk (blk_drew BK501.out)
               have n1_ := Aside0.mk (below_drew1 HB.out)
               clear BK501
               clear HB
               have BK501 := n0_
               have HB := n1_
               clear n0_ n1_
               have p504 : 0 ≤ (x9_1 : Int) := of_decide_eq_true (by first | (with_reducible assumption) | assumption)
               have q504 : x9_1 < (l1.length : Int) := of_decide_eq_true (by first | (with_reducible assumption) | assumption)
               obtain ⟨ad504, e504, hx504_0, hx504_1, hx504_2⟩ := at_T54 HR1.out x9_1 p504 q504
               have hw504_2 := hx504_2
               have hw504_1 := hx504_1
               have hw504_0 := hx504_0
               obtain rfl : ad502 = ad504 := (by injection e504)
               replace hx504_0 := (HB.out.cell (World.block_lt_of_cell? w _ hx504_0)).trans hx504_0
               replace hx504_1 := (HB.out.cell (World.block_lt_of_cell? w _ hx504_1)).trans hx504_1
               replace hx504_2 := (HB.out.cell (World.block_lt_of_cell? w _ hx504_2)).trans hx504_2
               replace p504 := eq_true p504
               replace q504 := eq_true q504
               refine start_ (n := 17) (S := fun w' => w'.cell? ⟨gb501, 0, none⟩ = some (.int .i64 x502000_1) ∧ w'.cell? ⟨gb501, 1, none⟩ = some (.int .i64 x502001_1) ∧ w'.cell? ⟨gb501, 2, none⟩ = some (.int .i64 x502002_1) ∧ w'.cell? ⟨gb501, 3, none⟩ = some (.int .i64 x502003_1) ∧ w'.cell? ⟨gb501, 4, none⟩ = some (.bool x502004_1) ∧ w'.cell? (ad502.add ((x9_1).toNat * 3)) = some (.int .u8 ((rd_T54 l1 x9_1).f0)) ∧ w'.cell? ⟨(ad502.add ((x9_1).toNat * 3)).block, (ad502.add ((x9_1).toNat * 3)).off + 1, none⟩ = some (.int .i16 ((rd_T54 l1 x9_1).f1)) ∧ w'.cell? ⟨(ad502.add ((x9_1).toNat * 3)).block, (ad502.add ((x9_1).toNat * 3)).off + 2, none⟩ = some (.int .i16 ((rd_T54 l1 x9_1).f2))) (ds := []) #[false, false, false, false, false, false, false, false, false, false, false, false, false, false, false, false, false] (by kernel_rfl) rfl rfl ⟨(blk_cell BK501.out 0).trans rfl, (blk_cell BK501.out 1).trans rfl, (blk_cell BK501.out 2).trans rfl, (blk_cell BK501.out 3).trans rfl, (blk_cell BK501.out 4).trans rfl, ((HB.out.cell (World.block_lt_of_cell? w _ hw504_0)).trans hw504_0), ((HB.out.cell (World.block_lt_of_cell? w _ hw504_1)).trans hw504_1), ((HB.out.cell (World.block_lt_of_cell? w _ hw504_2)).trans hw504_2)⟩ (fun hHeld => ?_); refine with_tabW ambidexterlaw25_ServoTracksTarget.tab16 ambidexterlaw25_ServoTracksTarget.bits16 (fun HT_ HW_ => ?_)
               generalize wc.drew = w40 at BK501 HB hx504_0 hx504_1 hx504_2 hHeld ⊢
               refine pure_ (i := 1) (N := some 44) (v := ?_) (a' := ?_) #[false, true, false, false, false, false, false, false, false, false, false, false, false, false, false, false, false] rfl rfl (any_of HT_.out (by kernel_rfl)) (fun _ _ _ h => h) (Or.inl ⟨by rfl, ?_⟩) ?_ ?_
               rotate_left
               ·
                intro w'
                go_simp
                with_reducible rfl
               rotate_left
               ·
                simp only [Act.put, List.setIfInBounds_toArray, List.set_cons_zero, List.set_cons_succ, i64_w, i32_w]
                rfl
               refine pure_ (i := 2) (N := some 45) (v := ?_) (a' := ?_) #[false, true, true, false, false, false, false, false, false, false, false, false, false, false, false, false, false] rfl rfl (any_of HT_.out (by kernel_rfl)) (fun _ _ _ h => h) (Or.inl ⟨by rfl, ?_⟩) ?_ ?_
               rotate_left
               ·
                intro w'
                go_simp
                with_reducible rfl
               rotate_left
               ·
                simp only [Act.put, List.setIfInBounds_toArray, List.set_cons_zero, List.set_cons_succ, i64_w, i32_w]
                rfl
               refine pure_ (i := 4) (N := some 47) (v := ?_) (a' := ?_) #[false, true, true, false, true, false, false, false, false, false, false, false, false, false, false, false, false] rfl rfl (any_of HT_.out (by kernel_rfl)) (fun _ _ _ h => h) (Or.inl ⟨by rfl, ?_⟩) ?_ ?_
               rotate_left
               ·
                intro w'
                go_simp
                with_reducible rfl
               rotate_left
               ·
                simp only [Act.put, List.setIfInBounds_toArray, List.set_cons_zero, List.set_cons_succ, i64_w, i32_w]
                rfl
               refine pure_ (i := 5) (N := some 48) (v := ?_) (a' := ?_) #[false, true, true, false, true, true, false, false, false, false, false, false, false, false, false, false, false] rfl rfl (any_of HT_.out (by kernel_rfl)) (fun _ _ _ h => h) (Or.inl ⟨by rfl, ?_⟩) ?_ ?_
               rotate_left
               ·
                intro w'
                go_simp
                with_reducible rfl
               rotate_left
               ·
                simp only [Act.put, List.setIfInBounds_toArray, List.set_cons_zero, List.set_cons_succ, i64_w, i32_w]
                rfl
               refine pure_ (i := 6) (N := some 49) (v := ?_) (a' := ?_) #[false, true, true, false, true, true, true, false, false, false, false, false, false, false, false, false, false] rfl rfl (any_of HT_.out (by kernel_rfl)) (fun _ _ _ h => h) (Or.inl ⟨by rfl, ?_⟩) ?_ ?_
               rotate_left
               ·
                intro w'
                go_simp
                with_reducible rfl
               rotate_left
               ·
                simp only [Act.put, List.setIfInBounds_toArray, List.set_cons_zero, List.set_cons_succ, i64_w, i32_w]
                rfl
               refine pure_ (i := 7) (N := some 50) (v := ?_) (a' := ?_) #[false, true, true, false, true, true, true, true, false, false, false, false, false, false, false, false, false] rfl rfl (any_of HT_.out (by kernel_rfl)) (fun _ _ _ h => h) (Or.inl ⟨by rfl, ?_⟩) ?_ ?_
               rotate_left
               ·
                intro w'
                go_simp
                with_reducible rfl
               rotate_left
               ·
                simp only [Act.put, List.setIfInBounds_toArray, List.set_cons_zero, List.set_cons_succ, i64_w, i32_w]
                rfl
               refine take_ (i := 0) (N := some 43) (v := ?_) (a' := ?_) #[true, true, true, false, true, true, true, true, false, false, false, false, false, false, false, false, false] rfl rfl (take_ofW HT_.out HW_.out (by kernel_rfl)) (fun _ _ _ h => h) (Or.inl ⟨by rfl, ?_⟩) hHeld ?_ ?_
               rotate_left
               ·
                rintro w' ⟨s0, s1, s2, s3, s4, s5, s6, s7⟩
                go_simp
                with_reducible rfl
               rotate_left
               ·
                simp only [Act.put, List.setIfInBounds_toArray, List.set_cons_zero, List.set_cons_succ, i64_w, i32_w]
                rfl
               refine take_ (i := 8) (N := some 51) (v := ?_) (a' := ?_) #[true, true, true, false, true, true, true, true, true, false, false, false, false, false, false, false, false] rfl rfl (take_ofW HT_.out HW_.out (by kernel_rfl)) (fun _ _ _ h => h) (Or.inl ⟨by rfl, ?_⟩) hHeld ?_ ?_
               rotate_left
               ·
                rintro w' ⟨s0, s1, s2, s3, s4, s5, s6, s7⟩
                go_simp
                with_reducible rfl
               rotate_left
               ·
                simp only [Act.put, List.setIfInBounds_toArray, List.set_cons_zero, List.set_cons_succ, i64_w, i32_w]
                rfl
               refine pure_ (i := 9) (N := some 52) (v := ?_) (a' := ?_) #[true, true, true, false, true, true, true, true, true, true, false, false, false, false, false, false, false] rfl rfl (any_of HT_.out (by kernel_rfl)) (fun _ _ _ h => h) (Or.inl ⟨by rfl, ?_⟩) ?_ ?_
               rotate_left
               ·
                intro w'
                go_simp
                with_reducible rfl
               rotate_left
               ·
                simp only [Act.put, List.setIfInBounds_toArray, List.set_cons_zero, List.set_cons_succ, i64_w, i32_w]
                rfl
               refine join_ (σ := Nat) 2 #[true, true, true, true, true, true, true, true, true, true, true, true, true, true, true, false, false] (fun s_ => [(46, .int .i64 t503), (53, .tuple #[.agg #[.int .i64 t505, .int .i64 t506, .int .i64 t507, .int .i64 t508, .bool false], .int .i64 t510]), (11, .pointer (some ⟨s_, 0, none⟩)), (42, .tuple #[.agg #[.int .i64 t505, .int .i64 t506, .int .i64 t507, .int .i64 t508, .bool false], .int .i64 t510]), (54, .agg #[.int .i64 t505, .int .i64 t506, .int .i64 t507, .int .i64 t508, .bool false]), (55, .int .i64 t510)]) (fun s_ w' => (w'.cell? ⟨gb501, 0, none⟩ = some (.int .i64 x502000_1) ∧ w'.cell? ⟨gb501, 1, none⟩ = some (.int .i64 x502001_1) ∧ w'.cell? ⟨gb501, 2, none⟩ = some (.int .i64 x502002_1) ∧ w'.cell? ⟨gb501, 3, none⟩ = some (.int .i64 x502003_1) ∧ w'.cell? ⟨gb501, 4, none⟩ = some (.bool x502004_1) ∧ w'.cell? (ad502.add ((x9_1).toNat * 3)) = some (.int .u8 ((rd_T54 l1 x9_1).f0)) ∧ w'.cell? ⟨(ad502.add ((x9_1).toNat * 3)).block, (ad502.add ((x9_1).toNat * 3)).off + 1, none⟩ = some (.int .i16 ((rd_T54 l1 x9_1).f1)) ∧ w'.cell? ⟨(ad502.add ((x9_1).toNat * 3)).block, (ad502.add ((x9_1).toNat * 3)).off + 2, none⟩ = some (.int .i16 ((rd_T54 l1 x9_1).f2))) ∧ (w'.heap[gb501]? = some (.cells #[.int .i64 x502000_1, .int .i64 x502001_1, .int .i64 x502002_1, .int .i64 x502003_1, .bool x502004_1] 49 (0, 0))) ∧ (w'.heap[s_]? = some (.cells #[.int .i64 0, .int .i64 0, .int .i64 0, .int .i64 0, .bool false] 49 (0, 0))) ∧ (w.heap.size ≤ s_) ∧ (w.heap.size ≤ s_) ∧ (gb501 ≠ s_) ∧ (s_ ≠ gb501) ∧ (Below w.heap.size w w')) ?_ ?_
               rotate_left
               ·
                intro hCont
                refine two_ (i := 3) (j := 14) (Ni := some 46) (Nj := some 11) #[true, true, true, true, true, true, true, true, true, true, false, false, false, false, false, false, false] #[true, true, true, false, true, true, true, true, true, true, false, false, false, false, true, false, false] rfl rfl rfl rfl (two_of HT_.out (by kernel_rfl)) (by decide) (by decide) (fun K hK => ?_) (fun K hK => ?_)
                ·
                 skip
                 refine goes_ Try.func36 (by kernel_rfl) rfl #[.int .i64 x6_1] (by rfl) rfl rfl (by (try simp only [List.map_toArray, List.map_cons, List.map_nil]); first | done | rfl | (simp only [List.length_drop, List.length_take]; rfl)) ?_
                 with_reducible refine (ambidexterref24_Quant.calls x6_1 t503 _ A17.out).mono ?_
                 rintro e w' ⟨rfl, ⟨nd, rfl⟩⟩
                 refine ⟨_, rfl, ?_⟩
                 refine hK.out _ _ ⟨(blk_cell BK501.out 0).trans rfl, (blk_cell BK501.out 1).trans rfl, (blk_cell BK501.out 2).trans rfl, (blk_cell BK501.out 3).trans rfl, (blk_cell BK501.out 4).trans rfl, ((HB.out.cell (World.block_lt_of_cell? w _ hw504_0)).trans hw504_0), ((HB.out.cell (World.block_lt_of_cell? w _ hw504_1)).trans hw504_1), ((HB.out.cell (World.block_lt_of_cell? w _ hw504_2)).trans hw504_2)⟩ (fun hHeld => ?_)
                 clear hK K
                 refine norm_ (a' := ?_) ?_ ?_
                 rotate_left
                 ·
                  show Act.put _ (some 46) _ = _
                  simp only [Act.put, List.setIfInBounds_toArray, List.set_cons_zero, List.set_cons_succ, i64_w, i32_w]
                  rfl
                 refine two_ (i := 10) (j := 14) (Ni := some 53) (Nj := some 11) #[true, true, true, true, true, true, true, true, true, true, true, false, false, false, false, false, false] #[true, true, true, true, true, true, true, true, true, true, false, false, false, false, true, false, false] rfl rfl rfl rfl (two_of HT_.out (by kernel_rfl)) (by decide) (by decide) (fun K hK => ?_) (fun K hK => ?_)
                 ·
                  skip
                  refine goes_ Try.func32 (by kernel_rfl) rfl #[.agg #[.int .i64 x502000_1, .int .i64 x502001_1, .int .i64 x502002_1, .int .i64 x502003_1, .bool x502004_1], .int .i64 x10_12, .int .i64 t503, .int .i64 (wrap64 ((rd_T54 l1 x9_1).f2))] (by rfl) rfl rfl (by (try simp only [List.map_toArray, List.map_cons, List.map_nil]); first | done | rfl | (simp only [List.length_drop, List.length_take]; rfl)) ?_
                  with_reducible refine (servo_Step.calls x502000_1 x502001_1 x502002_1 x502003_1 x502004_1 x10_12 t503 (wrap64 ((rd_T54 l1 x9_1).f2)) t505 t506 t507 t508 false t510 _ A20.out).mono ?_
                  rintro e w41 ⟨rfl, hb⟩
                  refine ⟨_, rfl, ?_⟩
                  have n0_ := Aside0.mk (blk_below (g := gb501) (o := .cells #[.int .i64 x502000_1, .int .i64 x502001_1, .int .i64 x502002_1, .int .i64 x502003_1, .bool x502004_1] 49 (0, 0)) (by (with_reducible repeat (first | refine blk_drewN ?_ _ | refine blk_drew ?_ | refine blk_alloc ?_ _)); exact BK501.out) hb)
                  have n1_ := Aside0.mk (below_step (by repeat (first | (with_reducible first | exact HB.out | apply below_alloc | apply pw_below_drewN | apply below_drew1 | refine below_set ?_ GE501.out) | exact HB.out)) hb)
                  clear BK501
                  clear HB
                  have BK501 := n0_
                  have HB := n1_
                  clear n0_ n1_
                  (try clear hb)
                  (try clear hb2)
                  (try clear hk)
                  (try clear hi)
                  refine hK.out _ _ ⟨(blk_cell BK501.out 0).trans rfl, (blk_cell BK501.out 1).trans rfl, (blk_cell BK501.out 2).trans rfl, (blk_cell BK501.out 3).trans rfl, (blk_cell BK501.out 4).trans rfl, ((HB.out.cell (World.block_lt_of_cell? w _ hw504_0)).trans hw504_0), ((HB.out.cell (World.block_lt_of_cell? w _ hw504_1)).trans hw504_1), ((HB.out.cell (World.block_lt_of_cell? w _ hw504_2)).trans hw504_2)⟩ (fun hHeld => ?_)
                  clear hK K
                  refine norm_ (a' := ?_) ?_ ?_
                  rotate_left
                  ·
                   show Act.put _ (some 53) _ = _
                   simp only [Act.put, List.setIfInBounds_toArray, List.set_cons_zero, List.set_cons_succ, i64_w, i32_w]
                   rfl
                  refine pure_ (i := 11) (N := some 42) (v := ?_) (a' := ?_) #[true, true, true, true, true, true, true, true, true, true, true, true, false, false, false, false, false] rfl rfl (any_of HT_.out (by kernel_rfl)) (fun _ _ _ h => h) (Or.inl ⟨by rfl, ?_⟩) ?_ ?_
                  rotate_left
                  ·
                   intro w'
                   go_simp
                   with_reducible rfl
                  rotate_left
                  ·
                   simp only [Act.put, List.setIfInBounds_toArray, List.set_cons_zero, List.set_cons_succ, i64_w, i32_w]
                   rfl
                  refine pure_ (i := 12) (N := some 54) (v := ?_) (a' := ?_) #[true, true, true, true, true, true, true, true, true, true, true, true, true, false, false, false, false] rfl rfl (any_of HT_.out (by kernel_rfl)) (fun _ _ _ h => h) (Or.inl ⟨by rfl, ?_⟩) ?_ ?_
                  rotate_left
                  ·
                   intro w'
                   go_simp
                   with_reducible rfl
                  rotate_left
                  ·
                   simp only [Act.put, List.setIfInBounds_toArray, List.set_cons_zero, List.set_cons_succ, i64_w, i32_w]
                   rfl
                  refine pure_ (i := 13) (N := some 55) (v := ?_) (a' := ?_) #[true, true, true, true, true, true, true, true, true, true, true, true, true, true, false, false, false] rfl rfl (any_of HT_.out (by kernel_rfl)) (fun _ _ _ h => h) (Or.inl ⟨by rfl, ?_⟩) ?_ ?_
                  rotate_left
                  ·
                   intro w'
                   go_simp
                   with_reducible rfl
                  rotate_left
                  ·
                   simp only [Act.put, List.setIfInBounds_toArray, List.set_cons_zero, List.set_cons_succ, i64_w, i32_w]
                   rfl
                  refine one_ (i := 14) (N := some 11) #[true, true, true, true, true, true, true, true, true, true, true, true, true, true, true, false, false] rfl rfl (one_of HT_.out (by kernel_rfl)) (by decide) (fun K hK => ?_)
                  refine box_step ?hg (N := 11) ?hd (cs := #[.int .i64 0, .int .i64 0, .int .i64 0, .int .i64 0, .bool false]) (t := 49) ?hr ?_; (case hd => rfl); (case hg => rfl); (case hr => first | (go_simp; done) | (go_simp; rfl))
                  intro gb511 hg w42 hbox hb
                  have n0_ := Aside0.mk (blk_below (g := gb501) (o := .cells #[.int .i64 x502000_1, .int .i64 x502001_1, .int .i64 x502002_1, .int .i64 x502003_1, .bool x502004_1] 49 (0, 0)) (by (with_reducible repeat (first | refine blk_drewN ?_ _ | refine blk_drew ?_ | refine blk_alloc ?_ _)); exact BK501.out) hb)
                  have n1_ := Aside0.mk (below_step (by repeat (first | (with_reducible first | exact HB.out | apply below_alloc | apply pw_below_drewN | apply below_drew1 | refine below_set ?_ GE501.out) | exact HB.out)) hb)
                  have n2_ := Aside0.mk (hbox)
                  have n3_ := Aside0.mk ((by rw [hg]; exact (below_size (by repeat (first | (with_reducible first | exact HB.out | apply below_alloc | apply pw_below_drewN | apply below_drew1 | refine below_set ?_ GE501.out) | exact HB.out))) : w.heap.size ≤ gb511))
                  have n4_ := Aside0.mk ((by rw [hg]; exact (below_size (by repeat (first | (with_reducible first | exact HB.out | apply below_alloc | apply pw_below_drewN | apply below_drew1 | refine below_set ?_ GE501.out) | exact HB.out))) : w.heap.size ≤ gb511))
                  have n5_ := Aside0.mk ((by rw [hg]; exact Nat.ne_of_lt (blk_lt (g := gb501) (o := .cells #[.int .i64 x502000_1, .int .i64 x502001_1, .int .i64 x502002_1, .int .i64 x502003_1, .bool x502004_1] 49 (0, 0)) (by (with_reducible repeat (first | refine blk_drewN ?_ _ | refine blk_drew ?_ | refine blk_alloc ?_ _)); exact BK501.out)) : gb501 ≠ gb511))
                  have n6_ := Aside0.mk ((by rw [hg]; exact Nat.ne_of_gt (blk_lt (g := gb501) (o := .cells #[.int .i64 x502000_1, .int .i64 x502001_1, .int .i64 x502002_1, .int .i64 x502003_1, .bool x502004_1] 49 (0, 0)) (by (with_reducible repeat (first | refine blk_drewN ?_ _ | refine blk_drew ?_ | refine blk_alloc ?_ _)); exact BK501.out)) : gb511 ≠ gb501))
                  clear BK501
                  clear HB
                  have BK501 := n0_
                  have HB := n1_
                  have BK511 := n2_
                  have GW511 := n3_
                  have GE511 := n4_
                  have NB501_511 := n5_
                  have NB511_501 := n6_
                  clear n0_ n1_ n2_ n3_ n4_ n5_ n6_
                  clear hb hbox hg
                  refine hK.out _ _ ⟨(blk_cell BK501.out 0).trans rfl, (blk_cell BK501.out 1).trans rfl, (blk_cell BK501.out 2).trans rfl, (blk_cell BK501.out 3).trans rfl, (blk_cell BK501.out 4).trans rfl, ((HB.out.cell (World.block_lt_of_cell? w _ hw504_0)).trans hw504_0), ((HB.out.cell (World.block_lt_of_cell? w _ hw504_1)).trans hw504_1), ((HB.out.cell (World.block_lt_of_cell? w _ hw504_2)).trans hw504_2)⟩ (fun hHeld => ?_)
                  clear hK K
                  refine norm_ (a' := ?_) ?_ ?_
                  rotate_left
                  ·
                   show Act.put _ (some 11) _ = _
                   simp only [Act.put, List.setIfInBounds_toArray, List.set_cons_zero, List.set_cons_succ, i64_w, i32_w]
                   rfl
                  exact norm_ (by simp only [putAll, Act.put, List.setIfInBounds_toArray, List.set_cons_zero, List.set_cons_succ]) (hCont (gb511) _ ⟨hHeld, (by (with_reducible repeat (first | refine blk_drewN ?_ _ | refine blk_drew ?_ | refine blk_alloc ?_ _)); exact BK501.out), (by (with_reducible repeat (first | refine blk_drewN ?_ _ | refine blk_drew ?_ | refine blk_alloc ?_ _)); exact BK511.out), GW511.out, GE511.out, NB501_511.out, NB511_501.out, (by repeat (first | (with_reducible first | exact HB.out | apply below_alloc | apply pw_below_drewN | apply below_drew1 | refine below_set ?_ GE501.out | refine below_set ?_ GE511.out) | exact HB.out))⟩)
                 ·
                  skip
                  refine box_step ?hg (N := 11) ?hd (cs := #[.int .i64 0, .int .i64 0, .int .i64 0, .int .i64 0, .bool false]) (t := 49) ?hr ?_; (case hd => rfl); (case hg => rfl); (case hr => first | (go_simp; done) | (go_simp; rfl))
                  intro gb511 hg w41 hbox hb
                  have n0_ := Aside0.mk (blk_below (g := gb501) (o := .cells #[.int .i64 x502000_1, .int .i64 x502001_1, .int .i64 x502002_1, .int .i64 x502003_1, .bool x502004_1] 49 (0, 0)) (by (with_reducible repeat (first | refine blk_drewN ?_ _ | refine blk_drew ?_ | refine blk_alloc ?_ _)); exact BK501.out) hb)
                  have n1_ := Aside0.mk (below_step (by repeat (first | (with_reducible first | exact HB.out | apply below_alloc | apply pw_below_drewN | apply below_drew1 | refine below_set ?_ GE501.out) | exact HB.out)) hb)
                  have n2_ := Aside0.mk (hbox)
                  have n3_ := Aside0.mk ((by rw [hg]; exact (below_size (by repeat (first | (with_reducible first | exact HB.out | apply below_alloc | apply pw_below_drewN | apply below_drew1 | refine below_set ?_ GE501.out) | exact HB.out))) : w.heap.size ≤ gb511))
                  have n4_ := Aside0.mk ((by rw [hg]; exact (below_size (by repeat (first | (with_reducible first | exact HB.out | apply below_alloc | apply pw_below_drewN | apply below_drew1 | refine below_set ?_ GE501.out) | exact HB.out))) : w.heap.size ≤ gb511))
                  have n5_ := Aside0.mk ((by rw [hg]; exact Nat.ne_of_lt (blk_lt (g := gb501) (o := .cells #[.int .i64 x502000_1, .int .i64 x502001_1, .int .i64 x502002_1, .int .i64 x502003_1, .bool x502004_1] 49 (0, 0)) (by (with_reducible repeat (first | refine blk_drewN ?_ _ | refine blk_drew ?_ | refine blk_alloc ?_ _)); exact BK501.out)) : gb501 ≠ gb511))
                  have n6_ := Aside0.mk ((by rw [hg]; exact Nat.ne_of_gt (blk_lt (g := gb501) (o := .cells #[.int .i64 x502000_1, .int .i64 x502001_1, .int .i64 x502002_1, .int .i64 x502003_1, .bool x502004_1] 49 (0, 0)) (by (with_reducible repeat (first | refine blk_drewN ?_ _ | refine blk_drew ?_ | refine blk_alloc ?_ _)); exact BK501.out)) : gb511 ≠ gb501))
                  clear BK501
                  clear HB
                  have BK501 := n0_
                  have HB := n1_
                  have BK511 := n2_
                  have GW511 := n3_
                  have GE511 := n4_
                  have NB501_511 := n5_
                  have NB511_501 := n6_
                  clear n0_ n1_ n2_ n3_ n4_ n5_ n6_
                  clear hb hbox hg
                  refine hK.out _ _ ⟨(blk_cell BK501.out 0).trans rfl, (blk_cell BK501.out 1).trans rfl, (blk_cell BK501.out 2).trans rfl, (blk_cell BK501.out 3).trans rfl, (blk_cell BK501.out 4).trans rfl, ((HB.out.cell (World.block_lt_of_cell? w _ hw504_0)).trans hw504_0), ((HB.out.cell (World.block_lt_of_cell? w _ hw504_1)).trans hw504_1), ((HB.out.cell (World.block_lt_of_cell? w _ hw504_2)).trans hw504_2)⟩ (fun hHeld => ?_)
                  clear hK K
                  refine norm_ (a' := ?_) ?_ ?_
                  rotate_left
                  ·
                   show Act.put _ (some 11) _ = _
                   simp only [Act.put, List.setIfInBounds_toArray, List.set_cons_zero, List.set_cons_succ, i64_w, i32_w]
                   rfl
                  refine one_ (i := 10) (N := some 53) #[true, true, true, true, true, true, true, true, true, true, true, false, false, false, true, false, false] rfl rfl (one_of HT_.out (by kernel_rfl)) (by decide) (fun K hK => ?_)
                  refine goes_ Try.func32 (by kernel_rfl) rfl #[.agg #[.int .i64 x502000_1, .int .i64 x502001_1, .int .i64 x502002_1, .int .i64 x502003_1, .bool x502004_1], .int .i64 x10_12, .int .i64 t503, .int .i64 (wrap64 ((rd_T54 l1 x9_1).f2))] (by rfl) rfl rfl (by (try simp only [List.map_toArray, List.map_cons, List.map_nil]); first | done | rfl | (simp only [List.length_drop, List.length_take]; rfl)) ?_
                  with_reducible refine (servo_Step.calls x502000_1 x502001_1 x502002_1 x502003_1 x502004_1 x10_12 t503 (wrap64 ((rd_T54 l1 x9_1).f2)) t505 t506 t507 t508 false t510 _ A20.out).mono ?_
                  rintro e w42 ⟨rfl, hb⟩
                  refine ⟨_, rfl, ?_⟩
                  have n0_ := Aside0.mk (blk_below (g := gb501) (o := .cells #[.int .i64 x502000_1, .int .i64 x502001_1, .int .i64 x502002_1, .int .i64 x502003_1, .bool x502004_1] 49 (0, 0)) (by (with_reducible repeat (first | refine blk_drewN ?_ _ | refine blk_drew ?_ | refine blk_alloc ?_ _)); exact BK501.out) hb)
                  have n1_ := Aside0.mk (blk_below (g := gb511) (o := .cells #[.int .i64 0, .int .i64 0, .int .i64 0, .int .i64 0, .bool false] 49 (0, 0)) (by (with_reducible repeat (first | refine blk_drewN ?_ _ | refine blk_drew ?_ | refine blk_alloc ?_ _)); exact BK511.out) hb)
                  have n2_ := Aside0.mk (below_step (by repeat (first | (with_reducible first | exact HB.out | apply below_alloc | apply pw_below_drewN | apply below_drew1 | refine below_set ?_ GE501.out | refine below_set ?_ GE511.out) | exact HB.out)) hb)
                  clear BK501
                  clear BK511
                  clear HB
                  have BK501 := n0_
                  have BK511 := n1_
                  have HB := n2_
                  clear n0_ n1_ n2_
                  (try clear hb)
                  (try clear hb2)
                  (try clear hk)
                  (try clear hi)
                  refine hK.out _ _ ⟨(blk_cell BK501.out 0).trans rfl, (blk_cell BK501.out 1).trans rfl, (blk_cell BK501.out 2).trans rfl, (blk_cell BK501.out 3).trans rfl, (blk_cell BK501.out 4).trans rfl, ((HB.out.cell (World.block_lt_of_cell? w _ hw504_0)).trans hw504_0), ((HB.out.cell (World.block_lt_of_cell? w _ hw504_1)).trans hw504_1), ((HB.out.cell (World.block_lt_of_cell? w _ hw504_2)).trans hw504_2)⟩ (fun hHeld => ?_)
                  clear hK K
                  refine norm_ (a' := ?_) ?_ ?_
                  rotate_left
                  ·
                   show Act.put _ (some 53) _ = _
                   simp only [Act.put, List.setIfInBounds_toArray, List.set_cons_zero, List.set_cons_succ, i64_w, i32_w]
                   rfl
                  refine pure_ (i := 11) (N := some 42) (v := ?_) (a' := ?_) #[true, true, true, true, true, true, true, true, true, true, true, true, false, false, true, false, false] rfl rfl (any_of HT_.out (by kernel_rfl)) (fun _ _ _ h => h) (Or.inl ⟨by rfl, ?_⟩) ?_ ?_
                  rotate_left
                  ·
                   intro w'
                   go_simp
                   with_reducible rfl
                  rotate_left
                  ·
                   simp only [Act.put, List.setIfInBounds_toArray, List.set_cons_zero, List.set_cons_succ, i64_w, i32_w]
                   rfl
                  refine pure_ (i := 12) (N := some 54) (v := ?_) (a' := ?_) #[true, true, true, true, true, true, true, true, true, true, true, true, true, false, true, false, false] rfl rfl (any_of HT_.out (by kernel_rfl)) (fun _ _ _ h => h) (Or.inl ⟨by rfl, ?_⟩) ?_ ?_
                  rotate_left
                  ·
                   intro w'
                   go_simp
                   with_reducible rfl
                  rotate_left
                  ·
                   simp only [Act.put, List.setIfInBounds_toArray, List.set_cons_zero, List.set_cons_succ, i64_w, i32_w]
                   rfl
                  refine pure_ (i := 13) (N := some 55) (v := ?_) (a' := ?_) #[true, true, true, true, true, true, true, true, true, true, true, true, true, true, true, false, false] rfl rfl (any_of HT_.out (by kernel_rfl)) (fun _ _ _ h => h) (Or.inl ⟨by rfl, ?_⟩) ?_ ?_
                  rotate_left
                  ·
                   intro w'
                   go_simp
                   with_reducible rfl
                  rotate_left
                  ·
                   simp only [Act.put, List.setIfInBounds_toArray, List.set_cons_zero, List.set_cons_succ, i64_w, i32_w]
                   rfl
                  exact norm_ (by simp only [putAll, Act.put, List.setIfInBounds_toArray, List.set_cons_zero, List.set_cons_succ]) (hCont (gb511) _ ⟨hHeld, (by (with_reducible repeat (first | refine blk_drewN ?_ _ | refine blk_drew ?_ | refine blk_alloc ?_ _)); exact BK501.out), (by (with_reducible repeat (first | refine blk_drewN ?_ _ | refine blk_drew ?_ | refine blk_alloc ?_ _)); exact BK511.out), GW511.out, GE511.out, NB501_511.out, NB511_501.out, (by repeat (first | (with_reducible first | exact HB.out | apply below_alloc | apply pw_below_drewN | apply below_drew1 | refine below_set ?_ GE501.out | refine below_set ?_ GE511.out) | exact HB.out))⟩)
                ·
                 skip
                 refine box_step ?hg (N := 11) ?hd (cs := #[.int .i64 0, .int .i64 0, .int .i64 0, .int .i64 0, .bool false]) (t := 49) ?hr ?_; (case hd => rfl); (case hg => rfl); (case hr => first | (go_simp; done) | (go_simp; rfl))
                 intro gb511 hg w41 hbox hb
                 have n0_ := Aside0.mk (blk_below (g := gb501) (o := .cells #[.int .i64 x502000_1, .int .i64 x502001_1, .int .i64 x502002_1, .int .i64 x502003_1, .bool x502004_1] 49 (0, 0)) (by (with_reducible repeat (first | refine blk_drewN ?_ _ | refine blk_drew ?_ | refine blk_alloc ?_ _)); exact BK501.out) hb)
                 have n1_ := Aside0.mk (below_step (by repeat (first | (with_reducible first | exact HB.out | apply below_alloc | apply pw_below_drewN | apply below_drew1 | refine below_set ?_ GE501.out) | exact HB.out)) hb)
                 have n2_ := Aside0.mk (hbox)
                 have n3_ := Aside0.mk ((by rw [hg]; exact (below_size (by repeat (first | (with_reducible first | exact HB.out | apply below_alloc | apply pw_below_drewN | apply below_drew1 | refine below_set ?_ GE501.out) | exact HB.out))) : w.heap.size ≤ gb511))
                 have n4_ := Aside0.mk ((by rw [hg]; exact (below_size (by repeat (first | (with_reducible first | exact HB.out | apply below_alloc | apply pw_below_drewN | apply below_drew1 | refine below_set ?_ GE501.out) | exact HB.out))) : w.heap.size ≤ gb511))
                 have n5_ := Aside0.mk ((by rw [hg]; exact Nat.ne_of_lt (blk_lt (g := gb501) (o := .cells #[.int .i64 x502000_1, .int .i64 x502001_1, .int .i64 x502002_1, .int .i64 x502003_1, .bool x502004_1] 49 (0, 0)) (by (with_reducible repeat (first | refine blk_drewN ?_ _ | refine blk_drew ?_ | refine blk_alloc ?_ _)); exact BK501.out)) : gb501 ≠ gb511))
                 have n6_ := Aside0.mk ((by rw [hg]; exact Nat.ne_of_gt (blk_lt (g := gb501) (o := .cells #[.int .i64 x502000_1, .int .i64 x502001_1, .int .i64 x502002_1, .int .i64 x502003_1, .bool x502004_1] 49 (0, 0)) (by (with_reducible repeat (first | refine blk_drewN ?_ _ | refine blk_drew ?_ | refine blk_alloc ?_ _)); exact BK501.out)) : gb511 ≠ gb501))
                 clear BK501
                 clear HB
                 have BK501 := n0_
                 have HB := n1_
                 have BK511 := n2_
                 have GW511 := n3_
                 have GE511 := n4_
                 have NB501_511 := n5_
                 have NB511_501 := n6_
                 clear n0_ n1_ n2_ n3_ n4_ n5_ n6_
                 clear hb hbox hg
                 refine hK.out _ _ ⟨(blk_cell BK501.out 0).trans rfl, (blk_cell BK501.out 1).trans rfl, (blk_cell BK501.out 2).trans rfl, (blk_cell BK501.out 3).trans rfl, (blk_cell BK501.out 4).trans rfl, ((HB.out.cell (World.block_lt_of_cell? w _ hw504_0)).trans hw504_0), ((HB.out.cell (World.block_lt_of_cell? w _ hw504_1)).trans hw504_1), ((HB.out.cell (World.block_lt_of_cell? w _ hw504_2)).trans hw504_2)⟩ (fun hHeld => ?_)
                 clear hK K
                 refine norm_ (a' := ?_) ?_ ?_
                 rotate_left
                 ·
                  show Act.put _ (some 11) _ = _
                  simp only [Act.put, List.setIfInBounds_toArray, List.set_cons_zero, List.set_cons_succ, i64_w, i32_w]
                  rfl
                 refine one_ (i := 3) (N := some 46) #[true, true, true, true, true, true, true, true, true, true, false, false, false, false, true, false, false] rfl rfl (one_of HT_.out (by kernel_rfl)) (by decide) (fun K hK => ?_)
                 refine goes_ Try.func36 (by kernel_rfl) rfl #[.int .i64 x6_1] (by rfl) rfl rfl (by (try simp only [List.map_toArray, List.map_cons, List.map_nil]); first | done | rfl | (simp only [List.length_drop, List.length_take]; rfl)) ?_
                 with_reducible refine (ambidexterref24_Quant.calls x6_1 t503 _ A17.out).mono ?_
                 rintro e w' ⟨rfl, ⟨nd, rfl⟩⟩
                 refine ⟨_, rfl, ?_⟩
                 refine hK.out _ _ ⟨(blk_cell BK501.out 0).trans rfl, (blk_cell BK501.out 1).trans rfl, (blk_cell BK501.out 2).trans rfl, (blk_cell BK501.out 3).trans rfl, (blk_cell BK501.out 4).trans rfl, ((HB.out.cell (World.block_lt_of_cell? w _ hw504_0)).trans hw504_0), ((HB.out.cell (World.block_lt_of_cell? w _ hw504_1)).trans hw504_1), ((HB.out.cell (World.block_lt_of_cell? w _ hw504_2)).trans hw504_2)⟩ (fun hHeld => ?_)
                 clear hK K
                 refine norm_ (a' := ?_) ?_ ?_
                 rotate_left
                 ·
                  show Act.put _ (some 46) _ = _
                  simp only [Act.put, List.setIfInBounds_toArray, List.set_cons_zero, List.set_cons_succ, i64_w, i32_w]
                  rfl
                 refine one_ (i := 10) (N := some 53) #[true, true, true, true, true, true, true, true, true, true, true, false, false, false, true, false, false] rfl rfl (one_of HT_.out (by kernel_rfl)) (by decide) (fun K hK => ?_)
                 refine goes_ Try.func32 (by kernel_rfl) rfl #[.agg #[.int .i64 x502000_1, .int .i64 x502001_1, .int .i64 x502002_1, .int .i64 x502003_1, .bool x502004_1], .int .i64 x10_12, .int .i64 t503, .int .i64 (wrap64 ((rd_T54 l1 x9_1).f2))] (by rfl) rfl rfl (by (try simp only [List.map_toArray, List.map_cons, List.map_nil]); first | done | rfl | (simp only [List.length_drop, List.length_take]; rfl)) ?_
                 with_reducible refine (servo_Step.calls x502000_1 x502001_1 x502002_1 x502003_1 x502004_1 x10_12 t503 (wrap64 ((rd_T54 l1 x9_1).f2)) t505 t506 t507 t508 false t510 _ A20.out).mono ?_
                 rintro e w42 ⟨rfl, hb⟩
                 refine ⟨_, rfl, ?_⟩
                 have n0_ := Aside0.mk (blk_below (g := gb501) (o := .cells #[.int .i64 x502000_1, .int .i64 x502001_1, .int .i64 x502002_1, .int .i64 x502003_1, .bool x502004_1] 49 (0, 0)) (by (with_reducible repeat (first | refine blk_drewN ?_ _ | refine blk_drew ?_ | refine blk_alloc ?_ _)); exact BK501.out) hb)
                 have n1_ := Aside0.mk (blk_below (g := gb511) (o := .cells #[.int .i64 0, .int .i64 0, .int .i64 0, .int .i64 0, .bool false] 49 (0, 0)) (by (with_reducible repeat (first | refine blk_drewN ?_ _ | refine blk_drew ?_ | refine blk_alloc ?_ _)); exact BK511.out) hb)
                 have n2_ := Aside0.mk (below_step (by repeat (first | (with_reducible first | exact HB.out | apply below_alloc | apply pw_below_drewN | apply below_drew1 | refine below_set ?_ GE501.out | refine below_set ?_ GE511.out) | exact HB.out)) hb)
                 clear BK501
                 clear BK511
                 clear HB
                 have BK501 := n0_
                 have BK511 := n1_
                 have HB := n2_
                 clear n0_ n1_ n2_
                 (try clear hb)
                 (try clear hb2)
                 (try clear hk)
                 (try clear hi)
                 refine hK.out _ _ ⟨(blk_cell BK501.out 0).trans rfl, (blk_cell BK501.out 1).trans rfl, (blk_cell BK501.out 2).trans rfl, (blk_cell BK501.out 3).trans rfl, (blk_cell BK501.out 4).trans rfl, ((HB.out.cell (World.block_lt_of_cell? w _ hw504_0)).trans hw504_0), ((HB.out.cell (World.block_lt_of_cell? w _ hw504_1)).trans hw504_1), ((HB.out.cell (World.block_lt_of_cell? w _ hw504_2)).trans hw504_2)⟩ (fun hHeld => ?_)
                 clear hK K
                 refine norm_ (a' := ?_) ?_ ?_
                 rotate_left
                 ·
                  show Act.put _ (some 53) _ = _
                  simp only [Act.put, List.setIfInBounds_toArray, List.set_cons_zero, List.set_cons_succ, i64_w, i32_w]
                  rfl
                 refine pure_ (i := 11) (N := some 42) (v := ?_) (a' := ?_) #[true, true, true, true, true, true, true, true, true, true, true, true, false, false, true, false, false] rfl rfl (any_of HT_.out (by kernel_rfl)) (fun _ _ _ h => h) (Or.inl ⟨by rfl, ?_⟩) ?_ ?_
                 rotate_left
                 ·
                  intro w'
                  go_simp
                  with_reducible rfl
                 rotate_left
                 ·
                  simp only [Act.put, List.setIfInBounds_toArray, List.set_cons_zero, List.set_cons_succ, i64_w, i32_w]
                  rfl
                 refine pure_ (i := 12) (N := some 54) (v := ?_) (a' := ?_) #[true, true, true, true, true, true, true, true, true, true, true, true, true, false, true, false, false] rfl rfl (any_of HT_.out (by kernel_rfl)) (fun _ _ _ h => h) (Or.inl ⟨by rfl, ?_⟩) ?_ ?_
                 rotate_left
                 ·
                  intro w'
                  go_simp
                  with_reducible rfl
                 rotate_left
                 ·
                  simp only [Act.put, List.setIfInBounds_toArray, List.set_cons_zero, List.set_cons_succ, i64_w, i32_w]
                  rfl
                 refine pure_ (i := 13) (N := some 55) (v := ?_) (a' := ?_) #[true, true, true, true, true, true, true, true, true, true, true, true, true, true, true, false, false] rfl rfl (any_of HT_.out (by kernel_rfl)) (fun _ _ _ h => h) (Or.inl ⟨by rfl, ?_⟩) ?_ ?_
                 rotate_left
                 ·
                  intro w'
                  go_simp
                  with_reducible rfl
                 rotate_left
                 ·
                  simp only [Act.put, List.setIfInBounds_toArray, List.set_cons_zero, List.set_cons_succ, i64_w, i32_w]
                  rfl
                 exact norm_ (by simp only [putAll, Act.put, List.setIfInBounds_toArray, List.set_cons_zero, List.set_cons_succ]) (hCont (gb511) _ ⟨hHeld, (by (with_reducible repeat (first | refine blk_drewN ?_ _ | refine blk_drew ?_ | refine blk_alloc ?_ _)); exact BK501.out), (by (with_reducible repeat (first | refine blk_drewN ?_ _ | refine blk_drew ?_ | refine blk_alloc ?_ _)); exact BK511.out), GW511.out, GE511.out, NB501_511.out, NB511_501.out, (by repeat (first | (with_reducible first | exact HB.out | apply below_alloc | apply pw_below_drewN | apply below_drew1 | refine below_set ?_ GE501.out | refine below_set ?_ GE511.out) | exact HB.out))⟩)
               rintro gb511 w43 ⟨hS_, h0_, h1_, h2_, h3_, h4_, h5_, h6_⟩
               have n0_ : Aside0 (w43.heap[gb501]? = some (.cells #[.int .i64 x502000_1, .int .i64 x502001_1, .int .i64 x502002_1, .int .i64 x502003_1, .bool x502004_1] 49 (0, 0))) := ⟨h0_⟩
               have n1_ : Aside0 (w43.heap[gb511]? = some (.cells #[.int .i64 0, .int .i64 0, .int .i64 0, .int .i64 0, .bool false] 49 (0, 0))) := ⟨h1_⟩
               have n2_ : Aside0 (w.heap.size ≤ gb511) := ⟨h2_⟩
               have n3_ : Aside0 (w.heap.size ≤ gb511) := ⟨h3_⟩
               have n4_ : Aside0 (gb501 ≠ gb511) := ⟨h4_⟩
               have n5_ : Aside0 (gb511 ≠ gb501) := ⟨h5_⟩
               have n6_ : Aside0 (Below w.heap.size w w43) := ⟨h6_⟩
               clear BK501
               clear HB
               clear h0_ h1_ h2_ h3_ h4_ h5_ h6_
               have BK501 := n0_
               have BK511 := n1_
               have GW511 := n2_
               have GE511 := n3_
               have NB501_511 := n4_
               have NB511_501 := n5_
               have HB := n6_
               clear n0_ n1_ n2_ n3_ n4_ n5_ n6_
               have hHeld : w43.cell? ⟨gb501, 0, none⟩ = some (.int .i64 x502000_1) ∧ w43.cell? ⟨gb501, 1, none⟩ = some (.int .i64 x502001_1) ∧ w43.cell? ⟨gb501, 2, none⟩ = some (.int .i64 x502002_1) ∧ w43.cell? ⟨gb501, 3, none⟩ = some (.int .i64 x502003_1) ∧ w43.cell? ⟨gb501, 4, none⟩ = some (.bool x502004_1) ∧ w43.cell? (ad502.add ((x9_1).toNat * 3)) = some (.int .u8 ((rd_T54 l1 x9_1).f0)) ∧ w43.cell? ⟨(ad502.add ((x9_1).toNat * 3)).block, (ad502.add ((x9_1).toNat * 3)).off + 1, none⟩ = some (.int .i16 ((rd_T54 l1 x9_1).f1)) ∧ w43.cell? ⟨(ad502.add ((x9_1).toNat * 3)).block, (ad502.add ((x9_1).toNat * 3)).off + 2, none⟩ = some (.int .i16 ((rd_T54 l1 x9_1).f2)) := hS_
               refine norm_ (a' := ?_) ?_ ?_
               rotate_left
               ·
                simp only [putAll, Act.put, List.setIfInBounds_toArray, List.set_cons_zero, List.set_cons_succ]
                rfl
               refine one_ (i := 15) (N := none) #[true, true, true, true, true, true, true, true, true, true, true, true, true, true, true, true, false] rfl rfl (one_of HT_.out (by kernel_rfl)) (by decide) (fun K hK => ?_)
               have hs44 : w43.cell? ⟨gb511, 0, none⟩ = some (.int .i64 0) := (blk_cell BK511.out 0).trans rfl
               have hfs44 := blk_frozen BK511.out 0
               have hns44_0 := NB501_511.out
               have hms44_0 := NB511_501.out
               have hs45 : w43.cell? ⟨gb511, 1, none⟩ = some (.int .i64 0) := (blk_cell BK511.out 1).trans rfl
               have hfs45 := blk_frozen BK511.out 1
               have hns45_0 := NB501_511.out
               have hms45_0 := NB511_501.out
               have hs46 : w43.cell? ⟨gb511, 2, none⟩ = some (.int .i64 0) := (blk_cell BK511.out 2).trans rfl
               have hfs46 := blk_frozen BK511.out 2
               have hns46_0 := NB501_511.out
               have hms46_0 := NB511_501.out
               have hs47 : w43.cell? ⟨gb511, 3, none⟩ = some (.int .i64 0) := (blk_cell BK511.out 3).trans rfl
               have hfs47 := blk_frozen BK511.out 3
               have hns47_0 := NB501_511.out
               have hms47_0 := NB511_501.out
               have hs48 : w43.cell? ⟨gb511, 4, none⟩ = some (.bool false) := (blk_cell BK511.out 4).trans rfl
               have hfs48 := blk_frozen BK511.out 4
               have hns48_0 := NB501_511.out
               have hms48_0 := NB511_501.out
               refine skip_ (w1 := ?_) (by rfl) rfl ?_ ?_
               rotate_left
               ·
                go_simp
                rfl
               refine hK.out _ _ ⟨((cell_far5 (g := gb511) NB501_511.out).trans (hHeld.1)), ((cell_far5 (g := gb511) NB501_511.out).trans (hHeld.2.1)), ((cell_far5 (g := gb511) NB501_511.out).trans (hHeld.2.2.1)), ((cell_far5 (g := gb511) NB501_511.out).trans (hHeld.2.2.2.1)), ((cell_far5 (g := gb511) NB501_511.out).trans (hHeld.2.2.2.2.1)), ((cell_far5 (g := gb511) (by first | exact Nat.ne_of_lt (Nat.lt_of_lt_of_le (by have := World.block_lt_of_cell? _ _ hw504_0; first | rwa [add_block] at this | exact this) GW511.out) | (rw [add_block]; exact Nat.ne_of_lt (Nat.lt_of_lt_of_le (by have := World.block_lt_of_cell? _ _ hw504_0; first | rwa [add_block] at this | exact this) GW511.out)) | (show (Addr.add _ _).block ≠ _; rw [add_block]; exact Nat.ne_of_lt (Nat.lt_of_lt_of_le (by have := World.block_lt_of_cell? _ _ hw504_0; first | rwa [add_block] at this | exact this) GW511.out)) | (dsimp only; exact Nat.ne_of_lt (Nat.lt_of_lt_of_le (by have := World.block_lt_of_cell? _ _ hw504_0; first | rwa [add_block] at this | exact this) GW511.out)))).trans (hHeld.2.2.2.2.2.1)), ((cell_far5 (g := gb511) (by first | exact Nat.ne_of_lt (Nat.lt_of_lt_of_le (by have := World.block_lt_of_cell? _ _ hw504_1; first | rwa [add_block] at this | exact this) GW511.out) | (rw [add_block]; exact Nat.ne_of_lt (Nat.lt_of_lt_of_le (by have := World.block_lt_of_cell? _ _ hw504_1; first | rwa [add_block] at this | exact this) GW511.out)) | (show (Addr.add _ _).block ≠ _; rw [add_block]; exact Nat.ne_of_lt (Nat.lt_of_lt_of_le (by have := World.block_lt_of_cell? _ _ hw504_1; first | rwa [add_block] at this | exact this) GW511.out)) | (dsimp only; exact Nat.ne_of_lt (Nat.lt_of_lt_of_le (by have := World.block_lt_of_cell? _ _ hw504_1; first | rwa [add_block] at this | exact this) GW511.out)))).trans (hHeld.2.2.2.2.2.2.1)), ((cell_far5 (g := gb511) (by first | exact Nat.ne_of_lt (Nat.lt_of_lt_of_le (by have := World.block_lt_of_cell? _ _ hw504_2; first | rwa [add_block] at this | exact this) GW511.out) | (rw [add_block]; exact Nat.ne_of_lt (Nat.lt_of_lt_of_le (by have := World.block_lt_of_cell? _ _ hw504_2; first | rwa [add_block] at this | exact this) GW511.out)) | (show (Addr.add _ _).block ≠ _; rw [add_block]; exact Nat.ne_of_lt (Nat.lt_of_lt_of_le (by have := World.block_lt_of_cell? _ _ hw504_2; first | rwa [add_block] at this | exact this) GW511.out)) | (dsimp only; exact Nat.ne_of_lt (Nat.lt_of_lt_of_le (by have := World.block_lt_of_cell? _ _ hw504_2; first | rwa [add_block] at this | exact this) GW511.out)))).trans (hHeld.2.2.2.2.2.2.2))⟩ (fun hHeld => ?_)
               clear hK K
               refine pure_ (i := 16) (N := some 12) (v := ?_) (a' := ?_) #[true, true, true, true, true, true, true, true, true, true, true, true, true, true, true, true, true] rfl rfl (any_of HT_.out (by kernel_rfl)) (fun _ _ _ h => h) (Or.inl ⟨by rfl, ?_⟩) ?_ ?_
               rotate_left
               ·
                intro w'
                go_simp
                with_reducible rfl
               rotate_left
               ·
                simp only [Act.put, List.setIfInBounds_toArray, List.set_cons_zero, List.set_cons_succ, i64_w, i32_w]
                rfl
               refine done_ (done_of HT_.out (by kernel_rfl)) ?_
               try go_wp2
               have n0_ : Aside0 ((((((w43.setCell ⟨gb511, 0, none⟩ (.int .i64 t505)).setCell ⟨gb511, 1, none⟩ (.int .i64 t506)).setCell ⟨gb511, 2, none⟩ (.int .i64 t507)).setCell ⟨gb511, 3, none⟩ (.int .i64 t508)).setCell ⟨gb511, 4, none⟩ (.bool false)).heap[gb501]? = some (.cells #[.int .i64 x502000_1, .int .i64 x502001_1, .int .i64 x502002_1, .int .i64 x502003_1, .bool x502004_1] 49 (0, 0))) := ⟨by (with_reducible repeat (first | refine blk_drewN ?_ _ | refine blk_drew ?_ | refine blk_alloc ?_ _)); refine blk_far ?_ NB501_511.out _; (with_reducible repeat (first | refine blk_drewN ?_ _ | refine blk_drew ?_ | refine blk_alloc ?_ _)); refine blk_far ?_ NB501_511.out _; (with_reducible repeat (first | refine blk_drewN ?_ _ | refine blk_drew ?_ | refine blk_alloc ?_ _)); refine blk_far ?_ NB501_511.out _; (with_reducible repeat (first | refine blk_drewN ?_ _ | refine blk_drew ?_ | refine blk_alloc ?_ _)); refine blk_far ?_ NB501_511.out _; (with_reducible repeat (first | refine blk_drewN ?_ _ | refine blk_drew ?_ | refine blk_alloc ?_ _)); refine blk_far ?_ NB501_511.out _; (with_reducible repeat (first | refine blk_drewN ?_ _ | refine blk_drew ?_ | refine blk_alloc ?_ _)); exact BK501.out⟩
               have n1_ : Aside0 ((((((w43.setCell ⟨gb511, 0, none⟩ (.int .i64 t505)).setCell ⟨gb511, 1, none⟩ (.int .i64 t506)).setCell ⟨gb511, 2, none⟩ (.int .i64 t507)).setCell ⟨gb511, 3, none⟩ (.int .i64 t508)).setCell ⟨gb511, 4, none⟩ (.bool false)).heap[gb511]? = some (.cells #[.int .i64 t505, .int .i64 t506, .int .i64 t507, .int .i64 t508, .bool false] 49 (0, 0))) := ⟨by (with_reducible repeat (first | refine blk_drewN ?_ _ | refine blk_drew ?_ | refine blk_alloc ?_ _)); refine blk_put (cs := #[.int .i64 t505, .int .i64 t506, .int .i64 t507, .int .i64 t508, .bool false]) ?_ 4 _ rfl; (with_reducible repeat (first | refine blk_drewN ?_ _ | refine blk_drew ?_ | refine blk_alloc ?_ _)); refine blk_put (cs := #[.int .i64 t505, .int .i64 t506, .int .i64 t507, .int .i64 0, .bool false]) ?_ 3 _ rfl; (with_reducible repeat (first | refine blk_drewN ?_ _ | refine blk_drew ?_ | refine blk_alloc ?_ _)); refine blk_put (cs := #[.int .i64 t505, .int .i64 t506, .int .i64 0, .int .i64 0, .bool false]) ?_ 2 _ rfl; (with_reducible repeat (first | refine blk_drewN ?_ _ | refine blk_drew ?_ | refine blk_alloc ?_ _)); refine blk_put (cs := #[.int .i64 t505, .int .i64 0, .int .i64 0, .int .i64 0, .bool false]) ?_ 1 _ rfl; (with_reducible repeat (first | refine blk_drewN ?_ _ | refine blk_drew ?_ | refine blk_alloc ?_ _)); refine blk_put (cs := #[.int .i64 0, .int .i64 0, .int .i64 0, .int .i64 0, .bool false]) ?_ 0 _ rfl; (with_reducible repeat (first | refine blk_drewN ?_ _ | refine blk_drew ?_ | refine blk_alloc ?_ _)); exact BK511.out⟩
               have n2_ : Aside0 (Below w.heap.size w (((((w43.setCell ⟨gb511, 0, none⟩ (.int .i64 t505)).setCell ⟨gb511, 1, none⟩ (.int .i64 t506)).setCell ⟨gb511, 2, none⟩ (.int .i64 t507)).setCell ⟨gb511, 3, none⟩ (.int .i64 t508)).setCell ⟨gb511, 4, none⟩ (.bool false))) := ⟨by repeat (first | (with_reducible first | exact HB.out | apply below_alloc | apply pw_below_drewN | apply below_drew1 | refine below_set ?_ GE501.out | refine below_set ?_ GE511.out) | exact HB.out)⟩
               (try clear BK501)
               (try clear BK511)
               (try clear HB)
               generalize (((((w43.setCell ⟨gb511, 0, none⟩ (.int .i64 t505)).setCell ⟨gb511, 1, none⟩ (.int .i64 t506)).setCell ⟨gb511, 2, none⟩ (.int .i64 t507)).setCell ⟨gb511, 3, none⟩ (.int .i64 t508)).setCell ⟨gb511, 4, none⟩ (.bool false)) = w49 at n0_ n1_ n2_ ⊢
               have BK501 := n0_
               have BK511 := n1_
               have HB := n2_
               clear n0_ n1_ n2_
               have n0_ := Aside0.mk (blk_drew BK501.out)
               have n1_ := Aside0.mk (blk_drew BK511.out)
               have n2_ := Aside0.mk (below_drew1 HB.out)
               clear BK501
               clear BK511
               clear HB
               have BK501 := n0_
               have BK511 := n1_
               have HB := n2_
               clear n0_ n1_ n2_
               refine start_ (n := 21) (S := fun w' => w'.cell? ⟨gb511, 0, none⟩ = some (.int .i64 t505) ∧ w'.cell? ⟨gb511, 1, none⟩ = some (.int .i64 t506) ∧ w'.cell? ⟨gb511, 2, none⟩ = some (.int .i64 t507) ∧ w'.cell? ⟨gb511, 3, none⟩ = some (.int .i64 t508) ∧ w'.cell? ⟨gb511, 4, none⟩ = some (.bool false)) (ds := []) #[false, false, false, false, false, false, false, false, false, false, false, false, false, false, false, false, false, false, false, false, false] (by kernel_rfl) rfl rfl ⟨(blk_cell BK511.out 0).trans rfl, (blk_cell BK511.out 1).trans rfl, (blk_cell BK511.out 2).trans rfl, (blk_cell BK511.out 3).trans rfl, (blk_cell BK511.out 4).trans rfl⟩ (fun hHeld => ?_); refine with_tabW ambidexterlaw25_ServoTracksTarget.tab18 ambidexterlaw25_ServoTracksTarget.bits18 (fun HT_ HW_ => ?_)
               generalize w49.drew = w50 at BK501 BK511 HB hHeld ⊢
               refine pure_ (i := 0) (N := some 59) (v := ?_) (a' := ?_) #[true, false, false, false, false, false, false, false, false, false, false, false, false, false, false, false, false, false, false, false, false] rfl rfl (any_of HT_.out (by kernel_rfl)) (fun _ _ _ h => h) (Or.inl ⟨by rfl, ?_⟩) ?_ ?_
               rotate_left
               ·
                intro w'
                go_simp
                with_reducible rfl
               rotate_left
               ·
                simp only [Act.put, List.setIfInBounds_toArray, List.set_cons_zero, List.set_cons_succ, i64_w, i32_w]
                rfl
               refine take_ (i := 1) (N := some 60) (v := ?_) (a' := ?_) #[true, true, false, false, false, false, false, false, false, false, false, false, false, false, false, false, false, false, false, false, false] rfl rfl (take_ofW HT_.out HW_.out (by kernel_rfl)) (fun _ _ _ h => h) (Or.inl ⟨by rfl, ?_⟩) hHeld ?_ ?_
               rotate_left
               ·
                rintro w' ⟨s0, s1, s2, s3, s4⟩
                go_simp
                with_reducible rfl
               rotate_left
               ·
                simp only [Act.put, List.setIfInBounds_toArray, List.set_cons_zero, List.set_cons_succ, i64_w, i32_w]
                rfl
               refine pure_ (i := 2) (N := some 61) (v := ?_) (a' := ?_) #[true, true, true, false, false, false, false, false, false, false, false, false, false, false, false, false, false, false, false, false, false] rfl rfl (any_of HT_.out (by kernel_rfl)) (fun _ _ _ h => h) (Or.inl ⟨by rfl, ?_⟩) ?_ ?_
               rotate_left
               ·
                intro w'
                go_simp
                with_reducible rfl
               rotate_left
               ·
                simp only [Act.put, List.setIfInBounds_toArray, List.set_cons_zero, List.set_cons_succ, i64_w, i32_w]
                rfl
               refine pure_ (i := 3) (N := some 62) (v := ?_) (a' := ?_) #[true, true, true, true, false, false, false, false, false, false, false, false, false, false, false, false, false, false, false, false, false] rfl rfl (any_of HT_.out (by kernel_rfl)) (fun _ _ _ h => h) (Or.inl ⟨by rfl, ?_⟩) ?_ ?_
               rotate_left
               ·
                intro w'
                go_simp
                with_reducible rfl
               rotate_left
               ·
                simp only [Act.put, List.setIfInBounds_toArray, List.set_cons_zero, List.set_cons_succ, i64_w, i32_w]
                rfl
               refine pure_ (i := 4) (N := some 63) (v := ?_) (a' := ?_) #[true, true, true, true, true, false, false, false, false, false, false, false, false, false, false, false, false, false, false, false, false] rfl rfl (any_of HT_.out (by kernel_rfl)) (fun _ _ _ h => h) (Or.inl ⟨by rfl, ?_⟩) ?_ ?_
               rotate_left
               ·
                intro w'
                go_simp
                with_reducible rfl
               rotate_left
               ·
                simp only [Act.put, List.setIfInBounds_toArray, List.set_cons_zero, List.set_cons_succ, i64_w, i32_w]
                rfl
               refine pure_ (i := 5) (N := some 64) (v := ?_) (a' := ?_) #[true, true, true, true, true, true, false, false, false, false, false, false, false, false, false, false, false, false, false, false, false] rfl rfl (any_of HT_.out (by kernel_rfl)) (fun _ _ _ h => h) (Or.inl ⟨by rfl, ?_⟩) ?_ ?_
               rotate_left
               ·
                intro w'
                go_simp
                with_reducible rfl
               rotate_left
               ·
                simp only [Act.put, List.setIfInBounds_toArray, List.set_cons_zero, List.set_cons_succ, i64_w, i32_w]
                rfl
               refine pure_ (i := 6) (N := some 65) (v := ?_) (a' := ?_) #[true, true, true, true, true, true, true, false, false, false, false, false, false, false, false, false, false, false, false, false, false] rfl rfl (any_of HT_.out (by kernel_rfl)) (fun _ _ _ h => h) (Or.inl ⟨by rfl, ?_⟩) ?_ ?_
               rotate_left
               ·
                intro w'
                go_simp
                with_reducible rfl
               rotate_left
               ·
                simp only [Act.put, List.setIfInBounds_toArray, List.set_cons_zero, List.set_cons_succ, i64_w, i32_w]
                rfl
               refine pure_ (i := 7) (N := some 66) (v := ?_) (a' := ?_) #[true, true, true, true, true, true, true, true, false, false, false, false, false, false, false, false, false, false, false, false, false] rfl rfl (any_of HT_.out (by kernel_rfl)) (fun _ _ _ h => h) (Or.inl ⟨by rfl, ?_⟩) ?_ ?_
               rotate_left
               ·
                intro w'
                go_simp
                with_reducible rfl
               rotate_left
               ·
                simp only [Act.put, List.setIfInBounds_toArray, List.set_cons_zero, List.set_cons_succ, i64_w, i32_w]
                rfl
               refine pure_ (i := 8) (N := some 67) (v := ?_) (a' := ?_) #[true, true, true, true, true, true, true, true, true, false, false, false, false, false, false, false, false, false, false, false, false] rfl rfl (any_of HT_.out (by kernel_rfl)) (fun _ _ _ h => h) (Or.inl ⟨by rfl, ?_⟩) ?_ ?_
               rotate_left
               ·
                intro w'
                go_simp
                with_reducible rfl
               rotate_left
               ·
                simp only [Act.put, List.setIfInBounds_toArray, List.set_cons_zero, List.set_cons_succ, i64_w, i32_w]
                rfl
               refine pure_ (i := 9) (N := some 68) (v := ?_) (a' := ?_) #[true, true, true, true, true, true, true, true, true, true, false, false, false, false, false, false, false, false, false, false, false] rfl rfl (any_of HT_.out (by kernel_rfl)) (fun _ _ _ h => h) (Or.inl ⟨by rfl, ?_⟩) ?_ ?_
               rotate_left
               ·
                intro w'
                go_simp
                with_reducible rfl
               rotate_left
               ·
                simp only [Act.put, List.setIfInBounds_toArray, List.set_cons_zero, List.set_cons_succ, i64_w, i32_w]
                rfl
               refine pure_ (i := 10) (N := some 69) (v := undef) (a' := ?_) #[true, true, true, true, true, true, true, true, true, true, true, false, false, false, false, false, false, false, false, false, false] rfl rfl (any_of HT_.out (by kernel_rfl)) (fun _ _ _ h => h) (Or.inr ⟨by rfl, rfl⟩) ?_ ?_
               rotate_left
               ·
                simp only [Act.put, List.setIfInBounds_toArray, List.set_cons_zero, List.set_cons_succ, i64_w, i32_w]
                rfl
               refine pure_ (i := 11) (N := some 70) (v := undef) (a' := ?_) #[true, true, true, true, true, true, true, true, true, true, true, true, false, false, false, false, false, false, false, false, false] rfl rfl (any_of HT_.out (by kernel_rfl)) (fun _ _ _ h => h) (Or.inr ⟨by rfl, rfl⟩) ?_ ?_
               rotate_left
               ·
                simp only [Act.put, List.setIfInBounds_toArray, List.set_cons_zero, List.set_cons_succ, i64_w, i32_w]
                rfl
               refine pure_ (i := 12) (N := some 71) (v := undef) (a' := ?_) #[true, true, true, true, true, true, true, true, true, true, true, true, true, false, false, false, false, false, false, false, false] rfl rfl (any_of HT_.out (by kernel_rfl)) (fun _ _ _ h => h) (Or.inr ⟨by rfl, rfl⟩) ?_ ?_
               rotate_left
               ·
                simp only [Act.put, List.setIfInBounds_toArray, List.set_cons_zero, List.set_cons_succ, i64_w, i32_w]
                rfl
               refine pure_ (i := 13) (N := some 72) (v := undef) (a' := ?_) #[true, true, true, true, true, true, true, true, true, true, true, true, true, true, false, false, false, false, false, false, false] rfl rfl (any_of HT_.out (by kernel_rfl)) (fun _ _ _ h => h) (Or.inr ⟨by rfl, rfl⟩) ?_ ?_
               rotate_left
               ·
                simp only [Act.put, List.setIfInBounds_toArray, List.set_cons_zero, List.set_cons_succ, i64_w, i32_w]
                rfl
               refine pure_ (i := 14) (N := some 73) (v := undef) (a' := ?_) #[true, true, true, true, true, true, true, true, true, true, true, true, true, true, true, false, false, false, false, false, false] rfl rfl (any_of HT_.out (by kernel_rfl)) (fun _ _ _ h => h) (Or.inr ⟨by rfl, rfl⟩) ?_ ?_
               rotate_left
               ·
                simp only [Act.put, List.setIfInBounds_toArray, List.set_cons_zero, List.set_cons_succ, i64_w, i32_w]
                rfl
               refine pure_ (i := 15) (N := some 74) (v := undef) (a' := ?_) #[true, true, true, true, true, true, true, true, true, true, true, true, true, true, true, true, false, false, false, false, false] rfl rfl (any_of HT_.out (by kernel_rfl)) (fun _ _ _ h => h) (Or.inr ⟨by rfl, rfl⟩) ?_ ?_
               rotate_left
               ·
                simp only [Act.put, List.setIfInBounds_toArray, List.set_cons_zero, List.set_cons_succ, i64_w, i32_w]
                rfl
               refine pure_ (i := 16) (N := some 75) (v := undef) (a' := ?_) #[true, true, true, true, true, true, true, true, true, true, true, true, true, true, true, true, true, false, false, false, false] rfl rfl (any_of HT_.out (by kernel_rfl)) (fun _ _ _ h => h) (Or.inr ⟨by rfl, rfl⟩) ?_ ?_
               rotate_left
               ·
                simp only [Act.put, List.setIfInBounds_toArray, List.set_cons_zero, List.set_cons_succ, i64_w, i32_w]
                rfl
               refine pure_ (i := 17) (N := some 76) (v := undef) (a' := ?_) #[true, true, true, true, true, true, true, true, true, true, true, true, true, true, true, true, true, true, false, false, false] rfl rfl (any_of HT_.out (by kernel_rfl)) (fun _ _ _ h => h) (Or.inr ⟨by rfl, rfl⟩) ?_ ?_
               rotate_left
               ·
                simp only [Act.put, List.setIfInBounds_toArray, List.set_cons_zero, List.set_cons_succ, i64_w, i32_w]
                rfl
               refine pure_ (i := 18) (N := some 77) (v := undef) (a' := ?_) #[true, true, true, true, true, true, true, true, true, true, true, true, true, true, true, true, true, true, true, false, false] rfl rfl (any_of HT_.out (by kernel_rfl)) (fun _ _ _ h => h) (Or.inr ⟨by rfl, rfl⟩) ?_ ?_
               rotate_left
               ·
                simp only [Act.put, List.setIfInBounds_toArray, List.set_cons_zero, List.set_cons_succ, i64_w, i32_w]
                rfl
               refine pure_ (i := 19) (N := some 78) (v := ?_) (a' := ?_) #[true, true, true, true, true, true, true, true, true, true, true, true, true, true, true, true, true, true, true, true, false] rfl rfl (any_of HT_.out (by kernel_rfl)) (fun _ _ _ h => h) (Or.inl ⟨by rfl, ?_⟩) ?_ ?_
               rotate_left
               ·
                intro w'
                go_simp
                with_reducible rfl
               rotate_left
               ·
                simp only [Act.put, List.setIfInBounds_toArray, List.set_cons_zero, List.set_cons_succ, i64_w, i32_w]
                rfl
               refine pure_ (i := 20) (N := some 79) (v := ?_) (a' := ?_) #[true, true, true, true, true, true, true, true, true, true, true, true, true, true, true, true, true, true, true, true, true] rfl rfl (any_of HT_.out (by kernel_rfl)) (fun _ _ _ h => h) (Or.inl ⟨by rfl, ?_⟩) ?_ ?_
               rotate_left
               ·
                intro w'
                go_simp
                with_reducible rfl
               rotate_left
               ·
                simp only [Act.put, List.setIfInBounds_toArray, List.set_cons_zero, List.set_cons_succ, i64_w, i32_w]
                rfl
               refine done_ (done_of HT_.out (by kernel_rfl)) ?_
               have hnb51 := NB511_501.out
               have hnc51 := NB501_511.out
               have hcz52_0 : w50.cell? ⟨gb511, 0, none⟩ = some (.int .i64 t505) := (blk_cell BK511.out 0).trans rfl
               have hcz52_1 : w50.cell? ⟨gb511, 1, none⟩ = some (.int .i64 t506) := (blk_cell BK511.out 1).trans rfl
               have hcz52_2 : w50.cell? ⟨gb511, 2, none⟩ = some (.int .i64 t507) := (blk_cell BK511.out 2).trans rfl
               have hcz52_3 : w50.cell? ⟨gb511, 3, none⟩ = some (.int .i64 t508) := (blk_cell BK511.out 3).trans rfl
               have hcz52_4 : w50.cell? ⟨gb511, 4, none⟩ = some (.bool false) := (blk_cell BK511.out 4).trans rfl
               have hfz52_0 := blk_frozen BK511.out 0
               have hfz52_1 := blk_frozen BK511.out 1
               have hfz52_2 := blk_frozen BK511.out 2
               have hfz52_3 := blk_frozen BK511.out 3
               have hfz52_4 := blk_frozen BK511.out 4
               have hcz53_0 : w50.cell? ⟨gb501, 0, none⟩ = some (.int .i64 x502000_1) := (blk_cell BK501.out 0).trans rfl
               have hcz53_1 : w50.cell? ⟨gb501, 1, none⟩ = some (.int .i64 x502001_1) := (blk_cell BK501.out 1).trans rfl
               have hcz53_2 : w50.cell? ⟨gb501, 2, none⟩ = some (.int .i64 x502002_1) := (blk_cell BK501.out 2).trans rfl
               have hcz53_3 : w50.cell? ⟨gb501, 3, none⟩ = some (.int .i64 x502003_1) := (blk_cell BK501.out 3).trans rfl
               have hcz53_4 : w50.cell? ⟨gb501, 4, none⟩ = some (.bool x502004_1) := (blk_cell BK501.out 4).trans rfl
               have hfz53_0 := blk_frozen BK501.out 0
               have hfz53_1 := blk_frozen BK501.out 1
               have hfz53_2 := blk_frozen BK501.out 2
               have hfz53_3 := blk_frozen BK501.out 3
               have hfz53_4 := blk_frozen BK501.out 4
               try go_wp2
               go_roundg kj14
               case measure => have := HK1.out; have := HJ12.out; have := HJ14.out; omega
               case rel => exact ⟨(wrap64 (x6_1 + t510)), (x8_14), (wrap64 (x9_1 + 1)), (t505), (t506), (t507), (t508), (false), (by first | rfl | (simp; done) | (simp [*]; done)), (by first | rfl | (simp; done) | (simp [*]; done)), (by first | rfl | (simp; done) | (simp [*]; done)), H', ⟨by have := HK1.out; have := HJ12.out; have := HJ14.out; omega⟩, ⟨by (with_reducible repeat (first | refine blk_drewN ?_ _ | refine blk_drew ?_ | refine blk_alloc ?_ _)); refine blk_put (cs := #[.int .i64 t505, .int .i64 t506, .int .i64 t507, .int .i64 t508, .bool x502004_1]) ?_ 4 _ rfl; (with_reducible repeat (first | refine blk_drewN ?_ _ | refine blk_drew ?_ | refine blk_alloc ?_ _)); refine blk_put (cs := #[.int .i64 t505, .int .i64 t506, .int .i64 t507, .int .i64 x502003_1, .bool x502004_1]) ?_ 3 _ rfl; (with_reducible repeat (first | refine blk_drewN ?_ _ | refine blk_drew ?_ | refine blk_alloc ?_ _)); refine blk_put (cs := #[.int .i64 t505, .int .i64 t506, .int .i64 x502002_1, .int .i64 x502003_1, .bool x502004_1]) ?_ 2 _ rfl; (with_reducible repeat (first | refine blk_drewN ?_ _ | refine blk_drew ?_ | refine blk_alloc ?_ _)); refine blk_put (cs := #[.int .i64 t505, .int .i64 x502001_1, .int .i64 x502002_1, .int .i64 x502003_1, .bool x502004_1]) ?_ 1 _ rfl; (with_reducible repeat (first | refine blk_drewN ?_ _ | refine blk_drew ?_ | refine blk_alloc ?_ _)); refine blk_put (cs := #[.int .i64 x502000_1, .int .i64 x502001_1, .int .i64 x502002_1, .int .i64 x502003_1, .bool x502004_1]) ?_ 0 _ rfl; (with_reducible repeat (first | refine blk_drewN ?_ _ | refine blk_drew ?_ | refine blk_alloc ?_ _)); exact BK501.out⟩, ⟨by repeat (first | (with_reducible first | exact HB.out | apply below_alloc | apply pw_below_drewN | apply below_drew1 | refine below_set ?_ GE501.out | refine below_set ?_ GE511.out) | exact HB.out)⟩⟩
             ·
              rw [if_neg c22] at H
              have c22b0 : decide (t510 < 128) = false := decide_eq_false c22
              clear c22
              have H' := Aside0.mk H
              clear H
              try go_wp2
              have n0_ := Aside0.mk (blk_drew BK501.out)
              have n1_ := Aside0.mk (below_drew1 HB.out)
              clear BK501
              clear HB
              have BK501 := n0_
              have HB := n1_
              clear n0_ n1_
              have p504 : 0 ≤ (x9_1 : Int) := of_decide_eq_true (by first | (with_reducible assumption) | assumption)
              have q504 : x9_1 < (l1.length : Int) := of_decide_eq_true (by first | (with_reducible assumption) | assumption)
              obtain ⟨ad504, e504, hx504_0, hx504_1, hx504_2⟩ := at_T54 HR1.out x9_1 p504 q504
              have hw504_2 := hx504_2
              have hw504_1 := hx504_1
              have hw504_0 := hx504_0
              obtain rfl : ad502 = ad504 := (by injection e504)
              replace hx504_0 := (HB.out.cell (World.block_lt_of_cell? w _ hx504_0)).trans hx504_0
              replace hx504_1 := (HB.out.cell (World.block_lt_of_cell? w _ hx504_1)).trans hx504_1
              replace hx504_2 := (HB.out.cell (World.block_lt_of_cell? w _ hx504_2)).trans hx504_2
              replace p504 := eq_true p504
              replace q504 := eq_true q504
              refine start_ (n := 17) (S := fun w' => w'.cell? ⟨gb501, 0, none⟩ = some (.int .i64 x502000_1) ∧ w'.cell? ⟨gb501, 1, none⟩ = some (.int .i64 x502001_1) ∧ w'.cell? ⟨gb501, 2, none⟩ = some (.int .i64 x502002_1) ∧ w'.cell? ⟨gb501, 3, none⟩ = some (.int .i64 x502003_1) ∧ w'.cell? ⟨gb501, 4, none⟩ = some (.bool x502004_1) ∧ w'.cell? (ad502.add ((x9_1).toNat * 3)) = some (.int .u8 ((rd_T54 l1 x9_1).f0)) ∧ w'.cell? ⟨(ad502.add ((x9_1).toNat * 3)).block, (ad502.add ((x9_1).toNat * 3)).off + 1, none⟩ = some (.int .i16 ((rd_T54 l1 x9_1).f1)) ∧ w'.cell? ⟨(ad502.add ((x9_1).toNat * 3)).block, (ad502.add ((x9_1).toNat * 3)).off + 2, none⟩ = some (.int .i16 ((rd_T54 l1 x9_1).f2))) (ds := []) #[false, false, false, false, false, false, false, false, false, false, false, false, false, false, false, false, false] (by kernel_rfl) rfl rfl ⟨(blk_cell BK501.out 0).trans rfl, (blk_cell BK501.out 1).trans rfl, (blk_cell BK501.out 2).trans rfl, (blk_cell BK501.out 3).trans rfl, (blk_cell BK501.out 4).trans rfl, ((HB.out.cell (World.block_lt_of_cell? w _ hw504_0)).trans hw504_0), ((HB.out.cell (World.block_lt_of_cell? w _ hw504_1)).trans hw504_1), ((HB.out.cell (World.block_lt_of_cell? w _ hw504_2)).trans hw504_2)⟩ (fun hHeld => ?_); refine with_tabW ambidexterlaw25_ServoTracksTarget.tab16 ambidexterlaw25_ServoTracksTarget.bits16 (fun HT_ HW_ => ?_)
              generalize wc.drew = w54 at BK501 HB hx504_0 hx504_1 hx504_2 hHeld ⊢
              refine pure_ (i := 1) (N := some 44) (v := ?_) (a' := ?_) #[false, true, false, false, false, false, false, false, false, false, false, false, false, false, false, false, false] rfl rfl (any_of HT_.out (by kernel_rfl)) (fun _ _ _ h => h) (Or.inl ⟨by rfl, ?_⟩) ?_ ?_
              rotate_left
              ·
               intro w'
               go_simp
               with_reducible rfl
              rotate_left
              ·
               simp only [Act.put, List.setIfInBounds_toArray, List.set_cons_zero, List.set_cons_succ, i64_w, i32_w]
               rfl
              refine pure_ (i := 2) (N := some 45) (v := ?_) (a' := ?_) #[false, true, true, false, false, false, false, false, false, false, false, false, false, false, false, false, false] rfl rfl (any_of HT_.out (by kernel_rfl)) (fun _ _ _ h => h) (Or.inl ⟨by rfl, ?_⟩) ?_ ?_
              rotate_left
              ·
               intro w'
               go_simp
               with_reducible rfl
              rotate_left
              ·
               simp only [Act.put, List.setIfInBounds_toArray, List.set_cons_zero, List.set_cons_succ, i64_w, i32_w]
               rfl
              refine pure_ (i := 4) (N := some 47) (v := ?_) (a' := ?_) #[false, true, true, false, true, false, false, false, false, false, false, false, false, false, false, false, false] rfl rfl (any_of HT_.out (by kernel_rfl)) (fun _ _ _ h => h) (Or.inl ⟨by rfl, ?_⟩) ?_ ?_
              rotate_left
              ·
               intro w'
               go_simp
               with_reducible rfl
              rotate_left
              ·
               simp only [Act.put, List.setIfInBounds_toArray, List.set_cons_zero, List.set_cons_succ, i64_w, i32_w]
               rfl
              refine pure_ (i := 5) (N := some 48) (v := ?_) (a' := ?_) #[false, true, true, false, true, true, false, false, false, false, false, false, false, false, false, false, false] rfl rfl (any_of HT_.out (by kernel_rfl)) (fun _ _ _ h => h) (Or.inl ⟨by rfl, ?_⟩) ?_ ?_
              rotate_left
              ·
               intro w'
               go_simp
               with_reducible rfl
              rotate_left
              ·
               simp only [Act.put, List.setIfInBounds_toArray, List.set_cons_zero, List.set_cons_succ, i64_w, i32_w]
               rfl
              refine pure_ (i := 6) (N := some 49) (v := ?_) (a' := ?_) #[false, true, true, false, true, true, true, false, false, false, false, false, false, false, false, false, false] rfl rfl (any_of HT_.out (by kernel_rfl)) (fun _ _ _ h => h) (Or.inl ⟨by rfl, ?_⟩) ?_ ?_
              rotate_left
              ·
               intro w'
               go_simp
               with_reducible rfl
              rotate_left
              ·
               simp only [Act.put, List.setIfInBounds_toArray, List.set_cons_zero, List.set_cons_succ, i64_w, i32_w]
               rfl
              refine pure_ (i := 7) (N := some 50) (v := ?_) (a' := ?_) #[false, true, true, false, true, true, true, true, false, false, false, false, false, false, false, false, false] rfl rfl (any_of HT_.out (by kernel_rfl)) (fun _ _ _ h => h) (Or.inl ⟨by rfl, ?_⟩) ?_ ?_
              rotate_left
              ·
               intro w'
               go_simp
               with_reducible rfl
              rotate_left
              ·
               simp only [Act.put, List.setIfInBounds_toArray, List.set_cons_zero, List.set_cons_succ, i64_w, i32_w]
               rfl
              refine take_ (i := 0) (N := some 43) (v := ?_) (a' := ?_) #[true, true, true, false, true, true, true, true, false, false, false, false, false, false, false, false, false] rfl rfl (take_ofW HT_.out HW_.out (by kernel_rfl)) (fun _ _ _ h => h) (Or.inl ⟨by rfl, ?_⟩) hHeld ?_ ?_
              rotate_left
              ·
               rintro w' ⟨s0, s1, s2, s3, s4, s5, s6, s7⟩
               go_simp
               with_reducible rfl
              rotate_left
              ·
               simp only [Act.put, List.setIfInBounds_toArray, List.set_cons_zero, List.set_cons_succ, i64_w, i32_w]
               rfl
              refine take_ (i := 8) (N := some 51) (v := ?_) (a' := ?_) #[true, true, true, false, true, true, true, true, true, false, false, false, false, false, false, false, false] rfl rfl (take_ofW HT_.out HW_.out (by kernel_rfl)) (fun _ _ _ h => h) (Or.inl ⟨by rfl, ?_⟩) hHeld ?_ ?_
              rotate_left
              ·
               rintro w' ⟨s0, s1, s2, s3, s4, s5, s6, s7⟩
               go_simp
               with_reducible rfl
              rotate_left
              ·
               simp only [Act.put, List.setIfInBounds_toArray, List.set_cons_zero, List.set_cons_succ, i64_w, i32_w]
               rfl
              refine pure_ (i := 9) (N := some 52) (v := ?_) (a' := ?_) #[true, true, true, false, true, true, true, true, true, true, false, false, false, false, false, false, false] rfl rfl (any_of HT_.out (by kernel_rfl)) (fun _ _ _ h => h) (Or.inl ⟨by rfl, ?_⟩) ?_ ?_
              rotate_left
              ·
               intro w'
               go_simp
               with_reducible rfl
              rotate_left
              ·
               simp only [Act.put, List.setIfInBounds_toArray, List.set_cons_zero, List.set_cons_succ, i64_w, i32_w]
               rfl
              refine join_ (σ := Nat) 2 #[true, true, true, true, true, true, true, true, true, true, true, true, true, true, true, false, false] (fun s_ => [(46, .int .i64 t503), (53, .tuple #[.agg #[.int .i64 t505, .int .i64 t506, .int .i64 t507, .int .i64 t508, .bool false], .int .i64 t510]), (11, .pointer (some ⟨s_, 0, none⟩)), (42, .tuple #[.agg #[.int .i64 t505, .int .i64 t506, .int .i64 t507, .int .i64 t508, .bool false], .int .i64 t510]), (54, .agg #[.int .i64 t505, .int .i64 t506, .int .i64 t507, .int .i64 t508, .bool false]), (55, .int .i64 t510)]) (fun s_ w' => (w'.cell? ⟨gb501, 0, none⟩ = some (.int .i64 x502000_1) ∧ w'.cell? ⟨gb501, 1, none⟩ = some (.int .i64 x502001_1) ∧ w'.cell? ⟨gb501, 2, none⟩ = some (.int .i64 x502002_1) ∧ w'.cell? ⟨gb501, 3, none⟩ = some (.int .i64 x502003_1) ∧ w'.cell? ⟨gb501, 4, none⟩ = some (.bool x502004_1) ∧ w'.cell? (ad502.add ((x9_1).toNat * 3)) = some (.int .u8 ((rd_T54 l1 x9_1).f0)) ∧ w'.cell? ⟨(ad502.add ((x9_1).toNat * 3)).block, (ad502.add ((x9_1).toNat * 3)).off + 1, none⟩ = some (.int .i16 ((rd_T54 l1 x9_1).f1)) ∧ w'.cell? ⟨(ad502.add ((x9_1).toNat * 3)).block, (ad502.add ((x9_1).toNat * 3)).off + 2, none⟩ = some (.int .i16 ((rd_T54 l1 x9_1).f2))) ∧ (w'.heap[gb501]? = some (.cells #[.int .i64 x502000_1, .int .i64 x502001_1, .int .i64 x502002_1, .int .i64 x502003_1, .bool x502004_1] 49 (0, 0))) ∧ (w'.heap[s_]? = some (.cells #[.int .i64 0, .int .i64 0, .int .i64 0, .int .i64 0, .bool false] 49 (0, 0))) ∧ (w.heap.size ≤ s_) ∧ (w.heap.size ≤ s_) ∧ (gb501 ≠ s_) ∧ (s_ ≠ gb501) ∧ (Below w.heap.size w w')) ?_ ?_
              rotate_left
              ·
               intro hCont
               refine two_ (i := 3) (j := 14) (Ni := some 46) (Nj := some 11) #[true, true, true, true, true, true, true, true, true, true, false, false, false, false, false, false, false] #[true, true, true, false, true, true, true, true, true, true, false, false, false, false, true, false, false] rfl rfl rfl rfl (two_of HT_.out (by kernel_rfl)) (by decide) (by decide) (fun K hK => ?_) (fun K hK => ?_)
               ·
                skip
                refine goes_ Try.func36 (by kernel_rfl) rfl #[.int .i64 x6_1] (by rfl) rfl rfl (by (try simp only [List.map_toArray, List.map_cons, List.map_nil]); first | done | rfl | (simp only [List.length_drop, List.length_take]; rfl)) ?_
                with_reducible refine (ambidexterref24_Quant.calls x6_1 t503 _ A17.out).mono ?_
                rintro e w' ⟨rfl, ⟨nd, rfl⟩⟩
                refine ⟨_, rfl, ?_⟩
                refine hK.out _ _ ⟨(blk_cell BK501.out 0).trans rfl, (blk_cell BK501.out 1).trans rfl, (blk_cell BK501.out 2).trans rfl, (blk_cell BK501.out 3).trans rfl, (blk_cell BK501.out 4).trans rfl, ((HB.out.cell (World.block_lt_of_cell? w _ hw504_0)).trans hw504_0), ((HB.out.cell (World.block_lt_of_cell? w _ hw504_1)).trans hw504_1), ((HB.out.cell (World.block_lt_of_cell? w _ hw504_2)).trans hw504_2)⟩ (fun hHeld => ?_)
                clear hK K
                refine norm_ (a' := ?_) ?_ ?_
                rotate_left
                ·
                 show Act.put _ (some 46) _ = _
                 simp only [Act.put, List.setIfInBounds_toArray, List.set_cons_zero, List.set_cons_succ, i64_w, i32_w]
                 rfl
                refine two_ (i := 10) (j := 14) (Ni := some 53) (Nj := some 11) #[true, true, true, true, true, true, true, true, true, true, true, false, false, false, false, false, false] #[true, true, true, true, true, true, true, true, true, true, false, false, false, false, true, false, false] rfl rfl rfl rfl (two_of HT_.out (by kernel_rfl)) (by decide) (by decide) (fun K hK => ?_) (fun K hK => ?_)
                ·
                 skip
                 refine goes_ Try.func32 (by kernel_rfl) rfl #[.agg #[.int .i64 x502000_1, .int .i64 x502001_1, .int .i64 x502002_1, .int .i64 x502003_1, .bool x502004_1], .int .i64 x10_12, .int .i64 t503, .int .i64 (wrap64 ((rd_T54 l1 x9_1).f2))] (by rfl) rfl rfl (by (try simp only [List.map_toArray, List.map_cons, List.map_nil]); first | done | rfl | (simp only [List.length_drop, List.length_take]; rfl)) ?_
                 with_reducible refine (servo_Step.calls x502000_1 x502001_1 x502002_1 x502003_1 x502004_1 x10_12 t503 (wrap64 ((rd_T54 l1 x9_1).f2)) t505 t506 t507 t508 false t510 _ A20.out).mono ?_
                 rintro e w55 ⟨rfl, hb⟩
                 refine ⟨_, rfl, ?_⟩
                 have n0_ := Aside0.mk (blk_below (g := gb501) (o := .cells #[.int .i64 x502000_1, .int .i64 x502001_1, .int .i64 x502002_1, .int .i64 x502003_1, .bool x502004_1] 49 (0, 0)) (by (with_reducible repeat (first | refine blk_drewN ?_ _ | refine blk_drew ?_ | refine blk_alloc ?_ _)); exact BK501.out) hb)
                 have n1_ := Aside0.mk (below_step (by repeat (first | (with_reducible first | exact HB.out | apply below_alloc | apply pw_below_drewN | apply below_drew1 | refine below_set ?_ GE501.out) | exact HB.out)) hb)
                 clear BK501
                 clear HB
                 have BK501 := n0_
                 have HB := n1_
                 clear n0_ n1_
                 (try clear hb)
                 (try clear hb2)
                 (try clear hk)
                 (try clear hi)
                 refine hK.out _ _ ⟨(blk_cell BK501.out 0).trans rfl, (blk_cell BK501.out 1).trans rfl, (blk_cell BK501.out 2).trans rfl, (blk_cell BK501.out 3).trans rfl, (blk_cell BK501.out 4).trans rfl, ((HB.out.cell (World.block_lt_of_cell? w _ hw504_0)).trans hw504_0), ((HB.out.cell (World.block_lt_of_cell? w _ hw504_1)).trans hw504_1), ((HB.out.cell (World.block_lt_of_cell? w _ hw504_2)).trans hw504_2)⟩ (fun hHeld => ?_)
                 clear hK K
                 refine norm_ (a' := ?_) ?_ ?_
                 rotate_left
                 ·
                  show Act.put _ (some 53) _ = _
                  simp only [Act.put, List.setIfInBounds_toArray, List.set_cons_zero, List.set_cons_succ, i64_w, i32_w]
                  rfl
                 refine pure_ (i := 11) (N := some 42) (v := ?_) (a' := ?_) #[true, true, true, true, true, true, true, true, true, true, true, true, false, false, false, false, false] rfl rfl (any_of HT_.out (by kernel_rfl)) (fun _ _ _ h => h) (Or.inl ⟨by rfl, ?_⟩) ?_ ?_
                 rotate_left
                 ·
                  intro w'
                  go_simp
                  with_reducible rfl
                 rotate_left
                 ·
                  simp only [Act.put, List.setIfInBounds_toArray, List.set_cons_zero, List.set_cons_succ, i64_w, i32_w]
                  rfl
                 refine pure_ (i := 12) (N := some 54) (v := ?_) (a' := ?_) #[true, true, true, true, true, true, true, true, true, true, true, true, true, false, false, false, false] rfl rfl (any_of HT_.out (by kernel_rfl)) (fun _ _ _ h => h) (Or.inl ⟨by rfl, ?_⟩) ?_ ?_
                 rotate_left
                 ·
                  intro w'
                  go_simp
                  with_reducible rfl
                 rotate_left
                 ·
                  simp only [Act.put, List.setIfInBounds_toArray, List.set_cons_zero, List.set_cons_succ, i64_w, i32_w]
                  rfl
                 refine pure_ (i := 13) (N := some 55) (v := ?_) (a' := ?_) #[true, true, true, true, true, true, true, true, true, true, true, true, true, true, false, false, false] rfl rfl (any_of HT_.out (by kernel_rfl)) (fun _ _ _ h => h) (Or.inl ⟨by rfl, ?_⟩) ?_ ?_
                 rotate_left
                 ·
                  intro w'
                  go_simp
                  with_reducible rfl
                 rotate_left
                 ·
                  simp only [Act.put, List.setIfInBounds_toArray, List.set_cons_zero, List.set_cons_succ, i64_w, i32_w]
                  rfl
                 refine one_ (i := 14) (N := some 11) #[true, true, true, true, true, true, true, true, true, true, true, true, true, true, true, false, false] rfl rfl (one_of HT_.out (by kernel_rfl)) (by decide) (fun K hK => ?_)
                 refine box_step ?hg (N := 11) ?hd (cs := #[.int .i64 0, .int .i64 0, .int .i64 0, .int .i64 0, .bool false]) (t := 49) ?hr ?_; (case hd => rfl); (case hg => rfl); (case hr => first | (go_simp; done) | (go_simp; rfl))
                 intro gb511 hg w56 hbox hb
                 have n0_ := Aside0.mk (blk_below (g := gb501) (o := .cells #[.int .i64 x502000_1, .int .i64 x502001_1, .int .i64 x502002_1, .int .i64 x502003_1, .bool x502004_1] 49 (0, 0)) (by (with_reducible repeat (first | refine blk_drewN ?_ _ | refine blk_drew ?_ | refine blk_alloc ?_ _)); exact BK501.out) hb)
                 have n1_ := Aside0.mk (below_step (by repeat (first | (with_reducible first | exact HB.out | apply below_alloc | apply pw_below_drewN | apply below_drew1 | refine below_set ?_ GE501.out) | exact HB.out)) hb)
                 have n2_ := Aside0.mk (hbox)
                 have n3_ := Aside0.mk ((by rw [hg]; exact (below_size (by repeat (first | (with_reducible first | exact HB.out | apply below_alloc | apply pw_below_drewN | apply below_drew1 | refine below_set ?_ GE501.out) | exact HB.out))) : w.heap.size ≤ gb511))
                 have n4_ := Aside0.mk ((by rw [hg]; exact (below_size (by repeat (first | (with_reducible first | exact HB.out | apply below_alloc | apply pw_below_drewN | apply below_drew1 | refine below_set ?_ GE501.out) | exact HB.out))) : w.heap.size ≤ gb511))
                 have n5_ := Aside0.mk ((by rw [hg]; exact Nat.ne_of_lt (blk_lt (g := gb501) (o := .cells #[.int .i64 x502000_1, .int .i64 x502001_1, .int .i64 x502002_1, .int .i64 x502003_1, .bool x502004_1] 49 (0, 0)) (by (with_reducible repeat (first | refine blk_drewN ?_ _ | refine blk_drew ?_ | refine blk_alloc ?_ _)); exact BK501.out)) : gb501 ≠ gb511))
                 have n6_ := Aside0.mk ((by rw [hg]; exact Nat.ne_of_gt (blk_lt (g := gb501) (o := .cells #[.int .i64 x502000_1, .int .i64 x502001_1, .int .i64 x502002_1, .int .i64 x502003_1, .bool x502004_1] 49 (0, 0)) (by (with_reducible repeat (first | refine blk_drewN ?_ _ | refine blk_drew ?_ | refine blk_alloc ?_ _)); exact BK501.out)) : gb511 ≠ gb501))
                 clear BK501
                 clear HB
                 have BK501 := n0_
                 have HB := n1_
                 have BK511 := n2_
                 have GW511 := n3_
                 have GE511 := n4_
                 have NB501_511 := n5_
                 have NB511_501 := n6_
                 clear n0_ n1_ n2_ n3_ n4_ n5_ n6_
                 clear hb hbox hg
                 refine hK.out _ _ ⟨(blk_cell BK501.out 0).trans rfl, (blk_cell BK501.out 1).trans rfl, (blk_cell BK501.out 2).trans rfl, (blk_cell BK501.out 3).trans rfl, (blk_cell BK501.out 4).trans rfl, ((HB.out.cell (World.block_lt_of_cell? w _ hw504_0)).trans hw504_0), ((HB.out.cell (World.block_lt_of_cell? w _ hw504_1)).trans hw504_1), ((HB.out.cell (World.block_lt_of_cell? w _ hw504_2)).trans hw504_2)⟩ (fun hHeld => ?_)
                 clear hK K
                 refine norm_ (a' := ?_) ?_ ?_
                 rotate_left
                 ·
                  show Act.put _ (some 11) _ = _
                  simp only [Act.put, List.setIfInBounds_toArray, List.set_cons_zero, List.set_cons_succ, i64_w, i32_w]
                  rfl
                 exact norm_ (by simp only [putAll, Act.put, List.setIfInBounds_toArray, List.set_cons_zero, List.set_cons_succ]) (hCont (gb511) _ ⟨hHeld, (by (with_reducible repeat (first | refine blk_drewN ?_ _ | refine blk_drew ?_ | refine blk_alloc ?_ _)); exact BK501.out), (by (with_reducible repeat (first | refine blk_drewN ?_ _ | refine blk_drew ?_ | refine blk_alloc ?_ _)); exact BK511.out), GW511.out, GE511.out, NB501_511.out, NB511_501.out, (by repeat (first | (with_reducible first | exact HB.out | apply below_alloc | apply pw_below_drewN | apply below_drew1 | refine below_set ?_ GE501.out | refine below_set ?_ GE511.out) | exact HB.out))⟩)
                ·
                 skip
                 refine box_step ?hg (N := 11) ?hd (cs := #[.int .i64 0, .int .i64 0, .int .i64 0, .int .i64 0, .bool false]) (t := 49) ?hr ?_; (case hd => rfl); (case hg => rfl); (case hr => first | (go_simp; done) | (go_simp; rfl))
                 intro gb511 hg w55 hbox hb
                 have n0_ := Aside0.mk (blk_below (g := gb501) (o := .cells #[.int .i64 x502000_1, .int .i64 x502001_1, .int .i64 x502002_1, .int .i64 x502003_1, .bool x502004_1] 49 (0, 0)) (by (with_reducible repeat (first | refine blk_drewN ?_ _ | refine blk_drew ?_ | refine blk_alloc ?_ _)); exact BK501.out) hb)
                 have n1_ := Aside0.mk (below_step (by repeat (first | (with_reducible first | exact HB.out | apply below_alloc | apply pw_below_drewN | apply below_drew1 | refine below_set ?_ GE501.out) | exact HB.out)) hb)
                 have n2_ := Aside0.mk (hbox)
                 have n3_ := Aside0.mk ((by rw [hg]; exact (below_size (by repeat (first | (with_reducible first | exact HB.out | apply below_alloc | apply pw_below_drewN | apply below_drew1 | refine below_set ?_ GE501.out) | exact HB.out))) : w.heap.size ≤ gb511))
                 have n4_ := Aside0.mk ((by rw [hg]; exact (below_size (by repeat (first | (with_reducible first | exact HB.out | apply below_alloc | apply pw_below_drewN | apply below_drew1 | refine below_set ?_ GE501.out) | exact HB.out))) : w.heap.size ≤ gb511))
                 have n5_ := Aside0.mk ((by rw [hg]; exact Nat.ne_of_lt (blk_lt (g := gb501) (o := .cells #[.int .i64 x502000_1, .int .i64 x502001_1, .int .i64 x502002_1, .int .i64 x502003_1, .bool x502004_1] 49 (0, 0)) (by (with_reducible repeat (first | refine blk_drewN ?_ _ | refine blk_drew ?_ | refine blk_alloc ?_ _)); exact BK501.out)) : gb501 ≠ gb511))
                 have n6_ := Aside0.mk ((by rw [hg]; exact Nat.ne_of_gt (blk_lt (g := gb501) (o := .cells #[.int .i64 x502000_1, .int .i64 x502001_1, .int .i64 x502002_1, .int .i64 x502003_1, .bool x502004_1] 49 (0, 0)) (by (with_reducible repeat (first | refine blk_drewN ?_ _ | refine blk_drew ?_ | refine blk_alloc ?_ _)); exact BK501.out)) : gb511 ≠ gb501))
                 clear BK501
                 clear HB
                 have BK501 := n0_
                 have HB := n1_
                 have BK511 := n2_
                 have GW511 := n3_
                 have GE511 := n4_
                 have NB501_511 := n5_
                 have NB511_501 := n6_
                 clear n0_ n1_ n2_ n3_ n4_ n5_ n6_
                 clear hb hbox hg
                 refine hK.out _ _ ⟨(blk_cell BK501.out 0).trans rfl, (blk_cell BK501.out 1).trans rfl, (blk_cell BK501.out 2).trans rfl, (blk_cell BK501.out 3).trans rfl, (blk_cell BK501.out 4).trans rfl, ((HB.out.cell (World.block_lt_of_cell? w _ hw504_0)).trans hw504_0), ((HB.out.cell (World.block_lt_of_cell? w _ hw504_1)).trans hw504_1), ((HB.out.cell (World.block_lt_of_cell? w _ hw504_2)).trans hw504_2)⟩ (fun hHeld => ?_)
                 clear hK K
                 refine norm_ (a' := ?_) ?_ ?_
                 rotate_left
                 ·
                  show Act.put _ (some 11) _ = _
                  simp only [Act.put, List.setIfInBounds_toArray, List.set_cons_zero, List.set_cons_succ, i64_w, i32_w]
                  rfl
                 refine one_ (i := 10) (N := some 53) #[true, true, true, true, true, true, true, true, true, true, true, false, false, false, true, false, false] rfl rfl (one_of HT_.out (by kernel_rfl)) (by decide) (fun K hK => ?_)
                 refine goes_ Try.func32 (by kernel_rfl) rfl #[.agg #[.int .i64 x502000_1, .int .i64 x502001_1, .int .i64 x502002_1, .int .i64 x502003_1, .bool x502004_1], .int .i64 x10_12, .int .i64 t503, .int .i64 (wrap64 ((rd_T54 l1 x9_1).f2))] (by rfl) rfl rfl (by (try simp only [List.map_toArray, List.map_cons, List.map_nil]); first | done | rfl | (simp only [List.length_drop, List.length_take]; rfl)) ?_
                 with_reducible refine (servo_Step.calls x502000_1 x502001_1 x502002_1 x502003_1 x502004_1 x10_12 t503 (wrap64 ((rd_T54 l1 x9_1).f2)) t505 t506 t507 t508 false t510 _ A20.out).mono ?_
                 rintro e w56 ⟨rfl, hb⟩
                 refine ⟨_, rfl, ?_⟩
                 have n0_ := Aside0.mk (blk_below (g := gb501) (o := .cells #[.int .i64 x502000_1, .int .i64 x502001_1, .int .i64 x502002_1, .int .i64 x502003_1, .bool x502004_1] 49 (0, 0)) (by (with_reducible repeat (first | refine blk_drewN ?_ _ | refine blk_drew ?_ | refine blk_alloc ?_ _)); exact BK501.out) hb)
                 have n1_ := Aside0.mk (blk_below (g := gb511) (o := .cells #[.int .i64 0, .int .i64 0, .int .i64 0, .int .i64 0, .bool false] 49 (0, 0)) (by (with_reducible repeat (first | refine blk_drewN ?_ _ | refine blk_drew ?_ | refine blk_alloc ?_ _)); exact BK511.out) hb)
                 have n2_ := Aside0.mk (below_step (by repeat (first | (with_reducible first | exact HB.out | apply below_alloc | apply pw_below_drewN | apply below_drew1 | refine below_set ?_ GE501.out | refine below_set ?_ GE511.out) | exact HB.out)) hb)
                 clear BK501
                 clear BK511
                 clear HB
                 have BK501 := n0_
                 have BK511 := n1_
                 have HB := n2_
                 clear n0_ n1_ n2_
                 (try clear hb)
                 (try clear hb2)
                 (try clear hk)
                 (try clear hi)
                 refine hK.out _ _ ⟨(blk_cell BK501.out 0).trans rfl, (blk_cell BK501.out 1).trans rfl, (blk_cell BK501.out 2).trans rfl, (blk_cell BK501.out 3).trans rfl, (blk_cell BK501.out 4).trans rfl, ((HB.out.cell (World.block_lt_of_cell? w _ hw504_0)).trans hw504_0), ((HB.out.cell (World.block_lt_of_cell? w _ hw504_1)).trans hw504_1), ((HB.out.cell (World.block_lt_of_cell? w _ hw504_2)).trans hw504_2)⟩ (fun hHeld => ?_)
                 clear hK K
                 refine norm_ (a' := ?_) ?_ ?_
                 rotate_left
                 ·
                  show Act.put _ (some 53) _ = _
                  simp only [Act.put, List.setIfInBounds_toArray, List.set_cons_zero, List.set_cons_succ, i64_w, i32_w]
                  rfl
                 refine pure_ (i := 11) (N := some 42) (v := ?_) (a' := ?_) #[true, true, true, true, true, true, true, true, true, true, true, true, false, false, true, false, false] rfl rfl (any_of HT_.out (by kernel_rfl)) (fun _ _ _ h => h) (Or.inl ⟨by rfl, ?_⟩) ?_ ?_
                 rotate_left
                 ·
                  intro w'
                  go_simp
                  with_reducible rfl
                 rotate_left
                 ·
                  simp only [Act.put, List.setIfInBounds_toArray, List.set_cons_zero, List.set_cons_succ, i64_w, i32_w]
                  rfl
                 refine pure_ (i := 12) (N := some 54) (v := ?_) (a' := ?_) #[true, true, true, true, true, true, true, true, true, true, true, true, true, false, true, false, false] rfl rfl (any_of HT_.out (by kernel_rfl)) (fun _ _ _ h => h) (Or.inl ⟨by rfl, ?_⟩) ?_ ?_
                 rotate_left
                 ·
                  intro w'
                  go_simp
                  with_reducible rfl
                 rotate_left
                 ·
                  simp only [Act.put, List.setIfInBounds_toArray, List.set_cons_zero, List.set_cons_succ, i64_w, i32_w]
                  rfl
                 refine pure_ (i := 13) (N := some 55) (v := ?_) (a' := ?_) #[true, true, true, true, true, true, true, true, true, true, true, true, true, true, true, false, false] rfl rfl (any_of HT_.out (by kernel_rfl)) (fun _ _ _ h => h) (Or.inl ⟨by rfl, ?_⟩) ?_ ?_
                 rotate_left
                 ·
                  intro w'
                  go_simp
                  with_reducible rfl
                 rotate_left
                 ·
                  simp only [Act.put, List.setIfInBounds_toArray, List.set_cons_zero, List.set_cons_succ, i64_w, i32_w]
                  rfl
                 exact norm_ (by simp only [putAll, Act.put, List.setIfInBounds_toArray, List.set_cons_zero, List.set_cons_succ]) (hCont (gb511) _ ⟨hHeld, (by (with_reducible repeat (first | refine blk_drewN ?_ _ | refine blk_drew ?_ | refine blk_alloc ?_ _)); exact BK501.out), (by (with_reducible repeat (first | refine blk_drewN ?_ _ | refine blk_drew ?_ | refine blk_alloc ?_ _)); exact BK511.out), GW511.out, GE511.out, NB501_511.out, NB511_501.out, (by repeat (first | (with_reducible first | exact HB.out | apply below_alloc | apply pw_below_drewN | apply below_drew1 | refine below_set ?_ GE501.out | refine below_set ?_ GE511.out) | exact HB.out))⟩)
               ·
                skip
                refine box_step ?hg (N := 11) ?hd (cs := #[.int .i64 0, .int .i64 0, .int .i64 0, .int .i64 0, .bool false]) (t := 49) ?hr ?_; (case hd => rfl); (case hg => rfl); (case hr => first | (go_simp; done) | (go_simp; rfl))
                intro gb511 hg w55 hbox hb
                have n0_ := Aside0.mk (blk_below (g := gb501) (o := .cells #[.int .i64 x502000_1, .int .i64 x502001_1, .int .i64 x502002_1, .int .i64 x502003_1, .bool x502004_1] 49 (0, 0)) (by (with_reducible repeat (first | refine blk_drewN ?_ _ | refine blk_drew ?_ | refine blk_alloc ?_ _)); exact BK501.out) hb)
                have n1_ := Aside0.mk (below_step (by repeat (first | (with_reducible first | exact HB.out | apply below_alloc | apply pw_below_drewN | apply below_drew1 | refine below_set ?_ GE501.out) | exact HB.out)) hb)
                have n2_ := Aside0.mk (hbox)
                have n3_ := Aside0.mk ((by rw [hg]; exact (below_size (by repeat (first | (with_reducible first | exact HB.out | apply below_alloc | apply pw_below_drewN | apply below_drew1 | refine below_set ?_ GE501.out) | exact HB.out))) : w.heap.size ≤ gb511))
                have n4_ := Aside0.mk ((by rw [hg]; exact (below_size (by repeat (first | (with_reducible first | exact HB.out | apply below_alloc | apply pw_below_drewN | apply below_drew1 | refine below_set ?_ GE501.out) | exact HB.out))) : w.heap.size ≤ gb511))
                have n5_ := Aside0.mk ((by rw [hg]; exact Nat.ne_of_lt (blk_lt (g := gb501) (o := .cells #[.int .i64 x502000_1, .int .i64 x502001_1, .int .i64 x502002_1, .int .i64 x502003_1, .bool x502004_1] 49 (0, 0)) (by (with_reducible repeat (first | refine blk_drewN ?_ _ | refine blk_drew ?_ | refine blk_alloc ?_ _)); exact BK501.out)) : gb501 ≠ gb511))
                have n6_ := Aside0.mk ((by rw [hg]; exact Nat.ne_of_gt (blk_lt (g := gb501) (o := .cells #[.int .i64 x502000_1, .int .i64 x502001_1, .int .i64 x502002_1, .int .i64 x502003_1, .bool x502004_1] 49 (0, 0)) (by (with_reducible repeat (first | refine blk_drewN ?_ _ | refine blk_drew ?_ | refine blk_alloc ?_ _)); exact BK501.out)) : gb511 ≠ gb501))
                clear BK501
                clear HB
                have BK501 := n0_
                have HB := n1_
                have BK511 := n2_
                have GW511 := n3_
                have GE511 := n4_
                have NB501_511 := n5_
                have NB511_501 := n6_
                clear n0_ n1_ n2_ n3_ n4_ n5_ n6_
                clear hb hbox hg
                refine hK.out _ _ ⟨(blk_cell BK501.out 0).trans rfl, (blk_cell BK501.out 1).trans rfl, (blk_cell BK501.out 2).trans rfl, (blk_cell BK501.out 3).trans rfl, (blk_cell BK501.out 4).trans rfl, ((HB.out.cell (World.block_lt_of_cell? w _ hw504_0)).trans hw504_0), ((HB.out.cell (World.block_lt_of_cell? w _ hw504_1)).trans hw504_1), ((HB.out.cell (World.block_lt_of_cell? w _ hw504_2)).trans hw504_2)⟩ (fun hHeld => ?_)
                clear hK K
                refine norm_ (a' := ?_) ?_ ?_
                rotate_left
                ·
                 show Act.put _ (some 11) _ = _
                 simp only [Act.put, List.setIfInBounds_toArray, List.set_cons_zero, List.set_cons_succ, i64_w, i32_w]
                 rfl
                refine one_ (i := 3) (N := some 46) #[true, true, true, true, true, true, true, true, true, true, false, false, false, false, true, false, false] rfl rfl (one_of HT_.out (by kernel_rfl)) (by decide) (fun K hK => ?_)
                refine goes_ Try.func36 (by kernel_rfl) rfl #[.int .i64 x6_1] (by rfl) rfl rfl (by (try simp only [List.map_toArray, List.map_cons, List.map_nil]); first | done | rfl | (simp only [List.length_drop, List.length_take]; rfl)) ?_
                with_reducible refine (ambidexterref24_Quant.calls x6_1 t503 _ A17.out).mono ?_
                rintro e w' ⟨rfl, ⟨nd, rfl⟩⟩
                refine ⟨_, rfl, ?_⟩
                refine hK.out _ _ ⟨(blk_cell BK501.out 0).trans rfl, (blk_cell BK501.out 1).trans rfl, (blk_cell BK501.out 2).trans rfl, (blk_cell BK501.out 3).trans rfl, (blk_cell BK501.out 4).trans rfl, ((HB.out.cell (World.block_lt_of_cell? w _ hw504_0)).trans hw504_0), ((HB.out.cell (World.block_lt_of_cell? w _ hw504_1)).trans hw504_1), ((HB.out.cell (World.block_lt_of_cell? w _ hw504_2)).trans hw504_2)⟩ (fun hHeld => ?_)
                clear hK K
                refine norm_ (a' := ?_) ?_ ?_
                rotate_left
                ·
                 show Act.put _ (some 46) _ = _
                 simp only [Act.put, List.setIfInBounds_toArray, List.set_cons_zero, List.set_cons_succ, i64_w, i32_w]
                 rfl
                refine one_ (i := 10) (N := some 53) #[true, true, true, true, true, true, true, true, true, true, true, false, false, false, true, false, false] rfl rfl (one_of HT_.out (by kernel_rfl)) (by decide) (fun K hK => ?_)
                refine goes_ Try.func32 (by kernel_rfl) rfl #[.agg #[.int .i64 x502000_1, .int .i64 x502001_1, .int .i64 x502002_1, .int .i64 x502003_1, .bool x502004_1], .int .i64 x10_12, .int .i64 t503, .int .i64 (wrap64 ((rd_T54 l1 x9_1).f2))] (by rfl) rfl rfl (by (try simp only [List.map_toArray, List.map_cons, List.map_nil]); first | done | rfl | (simp only [List.length_drop, List.length_take]; rfl)) ?_
                with_reducible refine (servo_Step.calls x502000_1 x502001_1 x502002_1 x502003_1 x502004_1 x10_12 t503 (wrap64 ((rd_T54 l1 x9_1).f2)) t505 t506 t507 t508 false t510 _ A20.out).mono ?_
                rintro e w56 ⟨rfl, hb⟩
                refine ⟨_, rfl, ?_⟩
                have n0_ := Aside0.mk (blk_below (g := gb501) (o := .cells #[.int .i64 x502000_1, .int .i64 x502001_1, .int .i64 x502002_1, .int .i64 x502003_1, .bool x502004_1] 49 (0, 0)) (by (with_reducible repeat (first | refine blk_drewN ?_ _ | refine blk_drew ?_ | refine blk_alloc ?_ _)); exact BK501.out) hb)
                have n1_ := Aside0.mk (blk_below (g := gb511) (o := .cells #[.int .i64 0, .int .i64 0, .int .i64 0, .int .i64 0, .bool false] 49 (0, 0)) (by (with_reducible repeat (first | refine blk_drewN ?_ _ | refine blk_drew ?_ | refine blk_alloc ?_ _)); exact BK511.out) hb)
                have n2_ := Aside0.mk (below_step (by repeat (first | (with_reducible first | exact HB.out | apply below_alloc | apply pw_below_drewN | apply below_drew1 | refine below_set ?_ GE501.out | refine below_set ?_ GE511.out) | exact HB.out)) hb)
                clear BK501
                clear BK511
                clear HB
                have BK501 := n0_
                have BK511 := n1_
                have HB := n2_
                clear n0_ n1_ n2_
                (try clear hb)
                (try clear hb2)
                (try clear hk)
                (try clear hi)
                refine hK.out _ _ ⟨(blk_cell BK501.out 0).trans rfl, (blk_cell BK501.out 1).trans rfl, (blk_cell BK501.out 2).trans rfl, (blk_cell BK501.out 3).trans rfl, (blk_cell BK501.out 4).trans rfl, ((HB.out.cell (World.block_lt_of_cell? w _ hw504_0)).trans hw504_0), ((HB.out.cell (World.block_lt_of_cell? w _ hw504_1)).trans hw504_1), ((HB.out.cell (World.block_lt_of_cell? w _ hw504_2)).trans hw504_2)⟩ (fun hHeld => ?_)
                clear hK K
                refine norm_ (a' := ?_) ?_ ?_
                rotate_left
                ·
                 show Act.put _ (some 53) _ = _
                 simp only [Act.put, List.setIfInBounds_toArray, List.set_cons_zero, List.set_cons_succ, i64_w, i32_w]
                 rfl
                refine pure_ (i := 11) (N := some 42) (v := ?_) (a' := ?_) #[true, true, true, true, true, true, true, true, true, true, true, true, false, false, true, false, false] rfl rfl (any_of HT_.out (by kernel_rfl)) (fun _ _ _ h => h) (Or.inl ⟨by rfl, ?_⟩) ?_ ?_
                rotate_left
                ·
                 intro w'
                 go_simp
                 with_reducible rfl
                rotate_left
                ·
                 simp only [Act.put, List.setIfInBounds_toArray, List.set_cons_zero, List.set_cons_succ, i64_w, i32_w]
                 rfl
                refine pure_ (i := 12) (N := some 54) (v := ?_) (a' := ?_) #[true, true, true, true, true, true, true, true, true, true, true, true, true, false, true, false, false] rfl rfl (any_of HT_.out (by kernel_rfl)) (fun _ _ _ h => h) (Or.inl ⟨by rfl, ?_⟩) ?_ ?_
                rotate_left
                ·
                 intro w'
                 go_simp
                 with_reducible rfl
                rotate_left
                ·
                 simp only [Act.put, List.setIfInBounds_toArray, List.set_cons_zero, List.set_cons_succ, i64_w, i32_w]
                 rfl
                refine pure_ (i := 13) (N := some 55) (v := ?_) (a' := ?_) #[true, true, true, true, true, true, true, true, true, true, true, true, true, true, true, false, false] rfl rfl (any_of HT_.out (by kernel_rfl)) (fun _ _ _ h => h) (Or.inl ⟨by rfl, ?_⟩) ?_ ?_
                rotate_left
                ·
                 intro w'
                 go_simp
                 with_reducible rfl
                rotate_left
                ·
                 simp only [Act.put, List.setIfInBounds_toArray, List.set_cons_zero, List.set_cons_succ, i64_w, i32_w]
                 rfl
                exact norm_ (by simp only [putAll, Act.put, List.setIfInBounds_toArray, List.set_cons_zero, List.set_cons_succ]) (hCont (gb511) _ ⟨hHeld, (by (with_reducible repeat (first | refine blk_drewN ?_ _ | refine blk_drew ?_ | refine blk_alloc ?_ _)); exact BK501.out), (by (with_reducible repeat (first | refine blk_drewN ?_ _ | refine blk_drew ?_ | refine blk_alloc ?_ _)); exact BK511.out), GW511.out, GE511.out, NB501_511.out, NB511_501.out, (by repeat (first | (with_reducible first | exact HB.out | apply below_alloc | apply pw_below_drewN | apply below_drew1 | refine below_set ?_ GE501.out | refine below_set ?_ GE511.out) | exact HB.out))⟩)
              rintro gb511 w57 ⟨hS_, h0_, h1_, h2_, h3_, h4_, h5_, h6_⟩
              have n0_ : Aside0 (w57.heap[gb501]? = some (.cells #[.int .i64 x502000_1, .int .i64 x502001_1, .int .i64 x502002_1, .int .i64 x502003_1, .bool x502004_1] 49 (0, 0))) := ⟨h0_⟩
              have n1_ : Aside0 (w57.heap[gb511]? = some (.cells #[.int .i64 0, .int .i64 0, .int .i64 0, .int .i64 0, .bool false] 49 (0, 0))) := ⟨h1_⟩
              have n2_ : Aside0 (w.heap.size ≤ gb511) := ⟨h2_⟩
              have n3_ : Aside0 (w.heap.size ≤ gb511) := ⟨h3_⟩
              have n4_ : Aside0 (gb501 ≠ gb511) := ⟨h4_⟩
              have n5_ : Aside0 (gb511 ≠ gb501) := ⟨h5_⟩
              have n6_ : Aside0 (Below w.heap.size w w57) := ⟨h6_⟩
              clear BK501
              clear HB
              clear h0_ h1_ h2_ h3_ h4_ h5_ h6_
              have BK501 := n0_
              have BK511 := n1_
              have GW511 := n2_
              have GE511 := n3_
              have NB501_511 := n4_
              have NB511_501 := n5_
              have HB := n6_
              clear n0_ n1_ n2_ n3_ n4_ n5_ n6_
              have hHeld : w57.cell? ⟨gb501, 0, none⟩ = some (.int .i64 x502000_1) ∧ w57.cell? ⟨gb501, 1, none⟩ = some (.int .i64 x502001_1) ∧ w57.cell? ⟨gb501, 2, none⟩ = some (.int .i64 x502002_1) ∧ w57.cell? ⟨gb501, 3, none⟩ = some (.int .i64 x502003_1) ∧ w57.cell? ⟨gb501, 4, none⟩ = some (.bool x502004_1) ∧ w57.cell? (ad502.add ((x9_1).toNat * 3)) = some (.int .u8 ((rd_T54 l1 x9_1).f0)) ∧ w57.cell? ⟨(ad502.add ((x9_1).toNat * 3)).block, (ad502.add ((x9_1).toNat * 3)).off + 1, none⟩ = some (.int .i16 ((rd_T54 l1 x9_1).f1)) ∧ w57.cell? ⟨(ad502.add ((x9_1).toNat * 3)).block, (ad502.add ((x9_1).toNat * 3)).off + 2, none⟩ = some (.int .i16 ((rd_T54 l1 x9_1).f2)) := hS_
              refine norm_ (a' := ?_) ?_ ?_
              rotate_left
              ·
               simp only [putAll, Act.put, List.setIfInBounds_toArray, List.set_cons_zero, List.set_cons_succ]
               rfl
              refine one_ (i := 15) (N := none) #[true, true, true, true, true, true, true, true, true, true, true, true, true, true, true, true, false] rfl rfl (one_of HT_.out (by kernel_rfl)) (by decide) (fun K hK => ?_)
              have hs58 : w57.cell? ⟨gb511, 0, none⟩ = some (.int .i64 0) := (blk_cell BK511.out 0).trans rfl
              have hfs58 := blk_frozen BK511.out 0
              have hns58_0 := NB501_511.out
              have hms58_0 := NB511_501.out
              have hs59 : w57.cell? ⟨gb511, 1, none⟩ = some (.int .i64 0) := (blk_cell BK511.out 1).trans rfl
              have hfs59 := blk_frozen BK511.out 1
              have hns59_0 := NB501_511.out
              have hms59_0 := NB511_501.out
              have hs60 : w57.cell? ⟨gb511, 2, none⟩ = some (.int .i64 0) := (blk_cell BK511.out 2).trans rfl
              have hfs60 := blk_frozen BK511.out 2
              have hns60_0 := NB501_511.out
              have hms60_0 := NB511_501.out
              have hs61 : w57.cell? ⟨gb511, 3, none⟩ = some (.int .i64 0) := (blk_cell BK511.out 3).trans rfl
              have hfs61 := blk_frozen BK511.out 3
              have hns61_0 := NB501_511.out
              have hms61_0 := NB511_501.out
              have hs62 : w57.cell? ⟨gb511, 4, none⟩ = some (.bool false) := (blk_cell BK511.out 4).trans rfl
              have hfs62 := blk_frozen BK511.out 4
              have hns62_0 := NB501_511.out
              have hms62_0 := NB511_501.out
              refine skip_ (w1 := ?_) (by rfl) rfl ?_ ?_
              rotate_left
              ·
               go_simp
               rfl
              refine hK.out _ _ ⟨((cell_far5 (g := gb511) NB501_511.out).trans (hHeld.1)), ((cell_far5 (g := gb511) NB501_511.out).trans (hHeld.2.1)), ((cell_far5 (g := gb511) NB501_511.out).trans (hHeld.2.2.1)), ((cell_far5 (g := gb511) NB501_511.out).trans (hHeld.2.2.2.1)), ((cell_far5 (g := gb511) NB501_511.out).trans (hHeld.2.2.2.2.1)), ((cell_far5 (g := gb511) (by first | exact Nat.ne_of_lt (Nat.lt_of_lt_of_le (by have := World.block_lt_of_cell? _ _ hw504_0; first | rwa [add_block] at this | exact this) GW511.out) | (rw [add_block]; exact Nat.ne_of_lt (Nat.lt_of_lt_of_le (by have := World.block_lt_of_cell? _ _ hw504_0; first | rwa [add_block] at this | exact this) GW511.out)) | (show (Addr.add _ _).block ≠ _; rw [add_block]; exact Nat.ne_of_lt (Nat.lt_of_lt_of_le (by have := World.block_lt_of_cell? _ _ hw504_0; first | rwa [add_block] at this | exact this) GW511.out)) | (dsimp only; exact Nat.ne_of_lt (Nat.lt_of_lt_of_le (by have := World.block_lt_of_cell? _ _ hw504_0; first | rwa [add_block] at this | exact this) GW511.out)))).trans (hHeld.2.2.2.2.2.1)), ((cell_far5 (g := gb511) (by first | exact Nat.ne_of_lt (Nat.lt_of_lt_of_le (by have := World.block_lt_of_cell? _ _ hw504_1; first | rwa [add_block] at this | exact this) GW511.out) | (rw [add_block]; exact Nat.ne_of_lt (Nat.lt_of_lt_of_le (by have := World.block_lt_of_cell? _ _ hw504_1; first | rwa [add_block] at this | exact this) GW511.out)) | (show (Addr.add _ _).block ≠ _; rw [add_block]; exact Nat.ne_of_lt (Nat.lt_of_lt_of_le (by have := World.block_lt_of_cell? _ _ hw504_1; first | rwa [add_block] at this | exact this) GW511.out)) | (dsimp only; exact Nat.ne_of_lt (Nat.lt_of_lt_of_le (by have := World.block_lt_of_cell? _ _ hw504_1; first | rwa [add_block] at this | exact this) GW511.out)))).trans (hHeld.2.2.2.2.2.2.1)), ((cell_far5 (g := gb511) (by first | exact Nat.ne_of_lt (Nat.lt_of_lt_of_le (by have := World.block_lt_of_cell? _ _ hw504_2; first | rwa [add_block] at this | exact this) GW511.out) | (rw [add_block]; exact Nat.ne_of_lt (Nat.lt_of_lt_of_le (by have := World.block_lt_of_cell? _ _ hw504_2; first | rwa [add_block] at this | exact this) GW511.out)) | (show (Addr.add _ _).block ≠ _; rw [add_block]; exact Nat.ne_of_lt (Nat.lt_of_lt_of_le (by have := World.block_lt_of_cell? _ _ hw504_2; first | rwa [add_block] at this | exact this) GW511.out)) | (dsimp only; exact Nat.ne_of_lt (Nat.lt_of_lt_of_le (by have := World.block_lt_of_cell? _ _ hw504_2; first | rwa [add_block] at this | exact this) GW511.out)))).trans (hHeld.2.2.2.2.2.2.2))⟩ (fun hHeld => ?_)
              clear hK K
              refine pure_ (i := 16) (N := some 12) (v := ?_) (a' := ?_) #[true, true, true, true, true, true, true, true, true, true, true, true, true, true, true, true, true] rfl rfl (any_of HT_.out (by kernel_rfl)) (fun _ _ _ h => h) (Or.inl ⟨by rfl, ?_⟩) ?_ ?_
              rotate_left
              ·
               intro w'
               go_simp
               with_reducible rfl
              rotate_left
              ·
               simp only [Act.put, List.setIfInBounds_toArray, List.set_cons_zero, List.set_cons_succ, i64_w, i32_w]
               rfl
              refine done_ (done_of HT_.out (by kernel_rfl)) ?_
              try go_wp2
              have n0_ : Aside0 ((((((w57.setCell ⟨gb511, 0, none⟩ (.int .i64 t505)).setCell ⟨gb511, 1, none⟩ (.int .i64 t506)).setCell ⟨gb511, 2, none⟩ (.int .i64 t507)).setCell ⟨gb511, 3, none⟩ (.int .i64 t508)).setCell ⟨gb511, 4, none⟩ (.bool false)).heap[gb501]? = some (.cells #[.int .i64 x502000_1, .int .i64 x502001_1, .int .i64 x502002_1, .int .i64 x502003_1, .bool x502004_1] 49 (0, 0))) := ⟨by (with_reducible repeat (first | refine blk_drewN ?_ _ | refine blk_drew ?_ | refine blk_alloc ?_ _)); refine blk_far ?_ NB501_511.out _; (with_reducible repeat (first | refine blk_drewN ?_ _ | refine blk_drew ?_ | refine blk_alloc ?_ _)); refine blk_far ?_ NB501_511.out _; (with_reducible repeat (first | refine blk_drewN ?_ _ | refine blk_drew ?_ | refine blk_alloc ?_ _)); refine blk_far ?_ NB501_511.out _; (with_reducible repeat (first | refine blk_drewN ?_ _ | refine blk_drew ?_ | refine blk_alloc ?_ _)); refine blk_far ?_ NB501_511.out _; (with_reducible repeat (first | refine blk_drewN ?_ _ | refine blk_drew ?_ | refine blk_alloc ?_ _)); refine blk_far ?_ NB501_511.out _; (with_reducible repeat (first | refine blk_drewN ?_ _ | refine blk_drew ?_ | refine blk_alloc ?_ _)); exact BK501.out⟩
              have n1_ : Aside0 ((((((w57.setCell ⟨gb511, 0, none⟩ (.int .i64 t505)).setCell ⟨gb511, 1, none⟩ (.int .i64 t506)).setCell ⟨gb511, 2, none⟩ (.int .i64 t507)).setCell ⟨gb511, 3, none⟩ (.int .i64 t508)).setCell ⟨gb511, 4, none⟩ (.bool false)).heap[gb511]? = some (.cells #[.int .i64 t505, .int .i64 t506, .int .i64 t507, .int .i64 t508, .bool false] 49 (0, 0))) := ⟨by (with_reducible repeat (first | refine blk_drewN ?_ _ | refine blk_drew ?_ | refine blk_alloc ?_ _)); refine blk_put (cs := #[.int .i64 t505, .int .i64 t506, .int .i64 t507, .int .i64 t508, .bool false]) ?_ 4 _ rfl; (with_reducible repeat (first | refine blk_drewN ?_ _ | refine blk_drew ?_ | refine blk_alloc ?_ _)); refine blk_put (cs := #[.int .i64 t505, .int .i64 t506, .int .i64 t507, .int .i64 0, .bool false]) ?_ 3 _ rfl; (with_reducible repeat (first | refine blk_drewN ?_ _ | refine blk_drew ?_ | refine blk_alloc ?_ _)); refine blk_put (cs := #[.int .i64 t505, .int .i64 t506, .int .i64 0, .int .i64 0, .bool false]) ?_ 2 _ rfl; (with_reducible repeat (first | refine blk_drewN ?_ _ | refine blk_drew ?_ | refine blk_alloc ?_ _)); refine blk_put (cs := #[.int .i64 t505, .int .i64 0, .int .i64 0, .int .i64 0, .bool false]) ?_ 1 _ rfl; (with_reducible repeat (first | refine blk_drewN ?_ _ | refine blk_drew ?_ | refine blk_alloc ?_ _)); refine blk_put (cs := #[.int .i64 0, .int .i64 0, .int .i64 0, .int .i64 0, .bool false]) ?_ 0 _ rfl; (with_reducible repeat (first | refine blk_drewN ?_ _ | refine blk_drew ?_ | refine blk_alloc ?_ _)); exact BK511.out⟩
              have n2_ : Aside0 (Below w.heap.size w (((((w57.setCell ⟨gb511, 0, none⟩ (.int .i64 t505)).setCell ⟨gb511, 1, none⟩ (.int .i64 t506)).setCell ⟨gb511, 2, none⟩ (.int .i64 t507)).setCell ⟨gb511, 3, none⟩ (.int .i64 t508)).setCell ⟨gb511, 4, none⟩ (.bool false))) := ⟨by repeat (first | (with_reducible first | exact HB.out | apply below_alloc | apply pw_below_drewN | apply below_drew1 | refine below_set ?_ GE501.out | refine below_set ?_ GE511.out) | exact HB.out)⟩
              (try clear BK501)
              (try clear BK511)
              (try clear HB)
              generalize (((((w57.setCell ⟨gb511, 0, none⟩ (.int .i64 t505)).setCell ⟨gb511, 1, none⟩ (.int .i64 t506)).setCell ⟨gb511, 2, none⟩ (.int .i64 t507)).setCell ⟨gb511, 3, none⟩ (.int .i64 t508)).setCell ⟨gb511, 4, none⟩ (.bool false)) = w63 at n0_ n1_ n2_ ⊢
              have BK501 := n0_
              have BK511 := n1_
              have HB := n2_
              clear n0_ n1_ n2_
              have n0_ := Aside0.mk (blk_drew BK501.out)
              have n1_ := Aside0.mk (blk_drew BK511.out)
              have n2_ := Aside0.mk (below_drew1 HB.out)
              clear BK501
              clear BK511
              clear HB
              have BK501 := n0_
              have BK511 := n1_
              have HB := n2_
              clear n0_ n1_ n2_
              refine start_ (n := 21) (S := fun w' => w'.cell? ⟨gb511, 0, none⟩ = some (.int .i64 t505) ∧ w'.cell? ⟨gb511, 1, none⟩ = some (.int .i64 t506) ∧ w'.cell? ⟨gb511, 2, none⟩ = some (.int .i64 t507) ∧ w'.cell? ⟨gb511, 3, none⟩ = some (.int .i64 t508) ∧ w'.cell? ⟨gb511, 4, none⟩ = some (.bool false)) (ds := []) #[false, false, false, false, false, false, false, false, false, false, false, false, false, false, false, false, false, false, false, false, false] (by kernel_rfl) rfl rfl ⟨(blk_cell BK511.out 0).trans rfl, (blk_cell BK511.out 1).trans rfl, (blk_cell BK511.out 2).trans rfl, (blk_cell BK511.out 3).trans rfl, (blk_cell BK511.out 4).trans rfl⟩ (fun hHeld => ?_); refine with_tabW ambidexterlaw25_ServoTracksTarget.tab18 ambidexterlaw25_ServoTracksTarget.bits18 (fun HT_ HW_ => ?_)
              generalize w63.drew = w64 at BK501 BK511 HB hHeld ⊢
              refine pure_ (i := 0) (N := some 59) (v := ?_) (a' := ?_) #[true, false, false, false, false, false, false, false, false, false, false, false, false, false, false, false, false, false, false, false, false] rfl rfl (any_of HT_.out (by kernel_rfl)) (fun _ _ _ h => h) (Or.inl ⟨by rfl, ?_⟩) ?_ ?_
              rotate_left
              ·
               intro w'
               go_simp
               with_reducible rfl
              rotate_left
              ·
               simp only [Act.put, List.setIfInBounds_toArray, List.set_cons_zero, List.set_cons_succ, i64_w, i32_w]
               rfl
              refine take_ (i := 1) (N := some 60) (v := ?_) (a' := ?_) #[true, true, false, false, false, false, false, false, false, false, false, false, false, false, false, false, false, false, false, false, false] rfl rfl (take_ofW HT_.out HW_.out (by kernel_rfl)) (fun _ _ _ h => h) (Or.inl ⟨by rfl, ?_⟩) hHeld ?_ ?_
              rotate_left
              ·
               rintro w' ⟨s0, s1, s2, s3, s4⟩
               go_simp
               with_reducible rfl
              rotate_left
              ·
               simp only [Act.put, List.setIfInBounds_toArray, List.set_cons_zero, List.set_cons_succ, i64_w, i32_w]
               rfl
              refine pure_ (i := 2) (N := some 61) (v := ?_) (a' := ?_) #[true, true, true, false, false, false, false, false, false, false, false, false, false, false, false, false, false, false, false, false, false] rfl rfl (any_of HT_.out (by kernel_rfl)) (fun _ _ _ h => h) (Or.inl ⟨by rfl, ?_⟩) ?_ ?_
              rotate_left
              ·
               intro w'
               go_simp
               with_reducible rfl
              rotate_left
              ·
               simp only [Act.put, List.setIfInBounds_toArray, List.set_cons_zero, List.set_cons_succ, i64_w, i32_w]
               rfl
              refine pure_ (i := 3) (N := some 62) (v := ?_) (a' := ?_) #[true, true, true, true, false, false, false, false, false, false, false, false, false, false, false, false, false, false, false, false, false] rfl rfl (any_of HT_.out (by kernel_rfl)) (fun _ _ _ h => h) (Or.inl ⟨by rfl, ?_⟩) ?_ ?_
              rotate_left
              ·
               intro w'
               go_simp
               with_reducible rfl
              rotate_left
              ·
               simp only [Act.put, List.setIfInBounds_toArray, List.set_cons_zero, List.set_cons_succ, i64_w, i32_w]
               rfl
              refine pure_ (i := 4) (N := some 63) (v := ?_) (a' := ?_) #[true, true, true, true, true, false, false, false, false, false, false, false, false, false, false, false, false, false, false, false, false] rfl rfl (any_of HT_.out (by kernel_rfl)) (fun _ _ _ h => h) (Or.inl ⟨by rfl, ?_⟩) ?_ ?_
              rotate_left
              ·
               intro w'
               go_simp
               with_reducible rfl
              rotate_left
              ·
               simp only [Act.put, List.setIfInBounds_toArray, List.set_cons_zero, List.set_cons_succ, i64_w, i32_w]
               rfl
              refine pure_ (i := 5) (N := some 64) (v := ?_) (a' := ?_) #[true, true, true, true, true, true, false, false, false, false, false, false, false, false, false, false, false, false, false, false, false] rfl rfl (any_of HT_.out (by kernel_rfl)) (fun _ _ _ h => h) (Or.inl ⟨by rfl, ?_⟩) ?_ ?_
              rotate_left
              ·
               intro w'
               go_simp
               with_reducible rfl
              rotate_left
              ·
               simp only [Act.put, List.setIfInBounds_toArray, List.set_cons_zero, List.set_cons_succ, i64_w, i32_w]
               rfl
              refine pure_ (i := 6) (N := some 65) (v := undef) (a' := ?_) #[true, true, true, true, true, true, true, false, false, false, false, false, false, false, false, false, false, false, false, false, false] rfl rfl (any_of HT_.out (by kernel_rfl)) (fun _ _ _ h => h) (Or.inr ⟨by rfl, rfl⟩) ?_ ?_
              rotate_left
              ·
               simp only [Act.put, List.setIfInBounds_toArray, List.set_cons_zero, List.set_cons_succ, i64_w, i32_w]
               rfl
              refine pure_ (i := 7) (N := some 66) (v := undef) (a' := ?_) #[true, true, true, true, true, true, true, true, false, false, false, false, false, false, false, false, false, false, false, false, false] rfl rfl (any_of HT_.out (by kernel_rfl)) (fun _ _ _ h => h) (Or.inr ⟨by rfl, rfl⟩) ?_ ?_
              rotate_left
              ·
               simp only [Act.put, List.setIfInBounds_toArray, List.set_cons_zero, List.set_cons_succ, i64_w, i32_w]
               rfl
              refine pure_ (i := 8) (N := some 67) (v := ?_) (a' := ?_) #[true, true, true, true, true, true, true, true, true, false, false, false, false, false, false, false, false, false, false, false, false] rfl rfl (any_of HT_.out (by kernel_rfl)) (fun _ _ _ h => h) (Or.inl ⟨by rfl, ?_⟩) ?_ ?_
              rotate_left
              ·
               intro w'
               go_simp
               with_reducible rfl
              rotate_left
              ·
               simp only [Act.put, List.setIfInBounds_toArray, List.set_cons_zero, List.set_cons_succ, i64_w, i32_w]
               rfl
              refine pure_ (i := 9) (N := some 68) (v := ?_) (a' := ?_) #[true, true, true, true, true, true, true, true, true, true, false, false, false, false, false, false, false, false, false, false, false] rfl rfl (any_of HT_.out (by kernel_rfl)) (fun _ _ _ h => h) (Or.inl ⟨by rfl, ?_⟩) ?_ ?_
              rotate_left
              ·
               intro w'
               go_simp
               with_reducible rfl
              rotate_left
              ·
               simp only [Act.put, List.setIfInBounds_toArray, List.set_cons_zero, List.set_cons_succ, i64_w, i32_w]
               rfl
              refine pure_ (i := 10) (N := some 69) (v := undef) (a' := ?_) #[true, true, true, true, true, true, true, true, true, true, true, false, false, false, false, false, false, false, false, false, false] rfl rfl (any_of HT_.out (by kernel_rfl)) (fun _ _ _ h => h) (Or.inr ⟨by rfl, rfl⟩) ?_ ?_
              rotate_left
              ·
               simp only [Act.put, List.setIfInBounds_toArray, List.set_cons_zero, List.set_cons_succ, i64_w, i32_w]
               rfl
              refine pure_ (i := 11) (N := some 70) (v := undef) (a' := ?_) #[true, true, true, true, true, true, true, true, true, true, true, true, false, false, false, false, false, false, false, false, false] rfl rfl (any_of HT_.out (by kernel_rfl)) (fun _ _ _ h => h) (Or.inr ⟨by rfl, rfl⟩) ?_ ?_
              rotate_left
              ·
               simp only [Act.put, List.setIfInBounds_toArray, List.set_cons_zero, List.set_cons_succ, i64_w, i32_w]
               rfl
              refine pure_ (i := 12) (N := some 71) (v := undef) (a' := ?_) #[true, true, true, true, true, true, true, true, true, true, true, true, true, false, false, false, false, false, false, false, false] rfl rfl (any_of HT_.out (by kernel_rfl)) (fun _ _ _ h => h) (Or.inr ⟨by rfl, rfl⟩) ?_ ?_
              rotate_left
              ·
               simp only [Act.put, List.setIfInBounds_toArray, List.set_cons_zero, List.set_cons_succ, i64_w, i32_w]
               rfl
              refine pure_ (i := 13) (N := some 72) (v := undef) (a' := ?_) #[true, true, true, true, true, true, true, true, true, true, true, true, true, true, false, false, false, false, false, false, false] rfl rfl (any_of HT_.out (by kernel_rfl)) (fun _ _ _ h => h) (Or.inr ⟨by rfl, rfl⟩) ?_ ?_
              rotate_left
              ·
               simp only [Act.put, List.setIfInBounds_toArray, List.set_cons_zero, List.set_cons_succ, i64_w, i32_w]
               rfl
              refine pure_ (i := 14) (N := some 73) (v := undef) (a' := ?_) #[true, true, true, true, true, true, true, true, true, true, true, true, true, true, true, false, false, false, false, false, false] rfl rfl (any_of HT_.out (by kernel_rfl)) (fun _ _ _ h => h) (Or.inr ⟨by rfl, rfl⟩) ?_ ?_
              rotate_left
              ·
               simp only [Act.put, List.setIfInBounds_toArray, List.set_cons_zero, List.set_cons_succ, i64_w, i32_w]
               rfl
              refine pure_ (i := 15) (N := some 74) (v := undef) (a' := ?_) #[true, true, true, true, true, true, true, true, true, true, true, true, true, true, true, true, false, false, false, false, false] rfl rfl (any_of HT_.out (by kernel_rfl)) (fun _ _ _ h => h) (Or.inr ⟨by rfl, rfl⟩) ?_ ?_
              rotate_left
              ·
               simp only [Act.put, List.setIfInBounds_toArray, List.set_cons_zero, List.set_cons_succ, i64_w, i32_w]
               rfl
              refine pure_ (i := 16) (N := some 75) (v := undef) (a' := ?_) #[true, true, true, true, true, true, true, true, true, true, true, true, true, true, true, true, true, false, false, false, false] rfl rfl (any_of HT_.out (by kernel_rfl)) (fun _ _ _ h => h) (Or.inr ⟨by rfl, rfl⟩) ?_ ?_
              rotate_left
              ·
               simp only [Act.put, List.setIfInBounds_toArray, List.set_cons_zero, List.set_cons_succ, i64_w, i32_w]
               rfl
              refine pure_ (i := 17) (N := some 76) (v := undef) (a' := ?_) #[true, true, true, true, true, true, true, true, true, true, true, true, true, true, true, true, true, true, false, false, false] rfl rfl (any_of HT_.out (by kernel_rfl)) (fun _ _ _ h => h) (Or.inr ⟨by rfl, rfl⟩) ?_ ?_
              rotate_left
              ·
               simp only [Act.put, List.setIfInBounds_toArray, List.set_cons_zero, List.set_cons_succ, i64_w, i32_w]
               rfl
              refine pure_ (i := 18) (N := some 77) (v := undef) (a' := ?_) #[true, true, true, true, true, true, true, true, true, true, true, true, true, true, true, true, true, true, true, false, false] rfl rfl (any_of HT_.out (by kernel_rfl)) (fun _ _ _ h => h) (Or.inr ⟨by rfl, rfl⟩) ?_ ?_
              rotate_left
              ·
               simp only [Act.put, List.setIfInBounds_toArray, List.set_cons_zero, List.set_cons_succ, i64_w, i32_w]
               rfl
              refine pure_ (i := 19) (N := some 78) (v := ?_) (a' := ?_) #[true, true, true, true, true, true, true, true, true, true, true, true, true, true, true, true, true, true, true, true, false] rfl rfl (any_of HT_.out (by kernel_rfl)) (fun _ _ _ h => h) (Or.inl ⟨by rfl, ?_⟩) ?_ ?_
              rotate_left
              ·
               intro w'
               go_simp
               with_reducible rfl
              rotate_left
              ·
               simp only [Act.put, List.setIfInBounds_toArray, List.set_cons_zero, List.set_cons_succ, i64_w, i32_w]
               rfl
              refine pure_ (i := 20) (N := some 79) (v := ?_) (a' := ?_) #[true, true, true, true, true, true, true, true, true, true, true, true, true, true, true, true, true, true, true, true, true] rfl rfl (any_of HT_.out (by kernel_rfl)) (fun _ _ _ h => h) (Or.inl ⟨by rfl, ?_⟩) ?_ ?_
              rotate_left
              ·
               intro w'
               go_simp
               with_reducible rfl
              rotate_left
              ·
               simp only [Act.put, List.setIfInBounds_toArray, List.set_cons_zero, List.set_cons_succ, i64_w, i32_w]
               rfl
              refine done_ (done_of HT_.out (by kernel_rfl)) ?_
              have hnb65 := NB511_501.out
              have hnc65 := NB501_511.out
              have hcz66_0 : w64.cell? ⟨gb511, 0, none⟩ = some (.int .i64 t505) := (blk_cell BK511.out 0).trans rfl
              have hcz66_1 : w64.cell? ⟨gb511, 1, none⟩ = some (.int .i64 t506) := (blk_cell BK511.out 1).trans rfl
              have hcz66_2 : w64.cell? ⟨gb511, 2, none⟩ = some (.int .i64 t507) := (blk_cell BK511.out 2).trans rfl
              have hcz66_3 : w64.cell? ⟨gb511, 3, none⟩ = some (.int .i64 t508) := (blk_cell BK511.out 3).trans rfl
              have hcz66_4 : w64.cell? ⟨gb511, 4, none⟩ = some (.bool false) := (blk_cell BK511.out 4).trans rfl
              have hfz66_0 := blk_frozen BK511.out 0
              have hfz66_1 := blk_frozen BK511.out 1
              have hfz66_2 := blk_frozen BK511.out 2
              have hfz66_3 := blk_frozen BK511.out 3
              have hfz66_4 := blk_frozen BK511.out 4
              have hcz67_0 : w64.cell? ⟨gb501, 0, none⟩ = some (.int .i64 x502000_1) := (blk_cell BK501.out 0).trans rfl
              have hcz67_1 : w64.cell? ⟨gb501, 1, none⟩ = some (.int .i64 x502001_1) := (blk_cell BK501.out 1).trans rfl
              have hcz67_2 : w64.cell? ⟨gb501, 2, none⟩ = some (.int .i64 x502002_1) := (blk_cell BK501.out 2).trans rfl
              have hcz67_3 : w64.cell? ⟨gb501, 3, none⟩ = some (.int .i64 x502003_1) := (blk_cell BK501.out 3).trans rfl
              have hcz67_4 : w64.cell? ⟨gb501, 4, none⟩ = some (.bool x502004_1) := (blk_cell BK501.out 4).trans rfl
              have hfz67_0 := blk_frozen BK501.out 0
              have hfz67_1 := blk_frozen BK501.out 1
              have hfz67_2 := blk_frozen BK501.out 2
              have hfz67_3 := blk_frozen BK501.out 3
              have hfz67_4 := blk_frozen BK501.out 4
              try go_wp2
              go_roundg kj14
              case measure => have := HK1.out; have := HJ12.out; have := HJ14.out; omega
              case rel => exact ⟨(wrap64 (x6_1 + t510)), (x8_14), (wrap64 (x9_1 + 1)), (t505), (t506), (t507), (t508), (false), (by first | rfl | (simp; done) | (simp [*]; done)), (by first | rfl | (simp; done) | (simp [*]; done)), (by first | rfl | (simp; done) | (simp [*]; done)), H', ⟨by have := HK1.out; have := HJ12.out; have := HJ14.out; omega⟩, ⟨by (with_reducible repeat (first | refine blk_drewN ?_ _ | refine blk_drew ?_ | refine blk_alloc ?_ _)); refine blk_put (cs := #[.int .i64 t505, .int .i64 t506, .int .i64 t507, .int .i64 t508, .bool x502004_1]) ?_ 4 _ rfl; (with_reducible repeat (first | refine blk_drewN ?_ _ | refine blk_drew ?_ | refine blk_alloc ?_ _)); refine blk_put (cs := #[.int .i64 t505, .int .i64 t506, .int .i64 t507, .int .i64 x502003_1, .bool x502004_1]) ?_ 3 _ rfl; (with_reducible repeat (first | refine blk_drewN ?_ _ | refine blk_drew ?_ | refine blk_alloc ?_ _)); refine blk_put (cs := #[.int .i64 t505, .int .i64 t506, .int .i64 x502002_1, .int .i64 x502003_1, .bool x502004_1]) ?_ 2 _ rfl; (with_reducible repeat (first | refine blk_drewN ?_ _ | refine blk_drew ?_ | refine blk_alloc ?_ _)); refine blk_put (cs := #[.int .i64 t505, .int .i64 x502001_1, .int .i64 x502002_1, .int .i64 x502003_1, .bool x502004_1]) ?_ 1 _ rfl; (with_reducible repeat (first | refine blk_drewN ?_ _ | refine blk_drew ?_ | refine blk_alloc ?_ _)); refine blk_put (cs := #[.int .i64 x502000_1, .int .i64 x502001_1, .int .i64 x502002_1, .int .i64 x502003_1, .bool x502004_1]) ?_ 0 _ rfl; (with_reducible repeat (first | refine blk_drewN ?_ _ | refine blk_drew ?_ | refine blk_alloc ?_ _)); exact BK501.out⟩, ⟨by repeat (first | (with_reducible first | exact HB.out | apply below_alloc | apply pw_below_drewN | apply below_drew1 | refine below_set ?_ GE501.out | refine below_set ?_ GE511.out) | exact HB.out)⟩⟩
           ·
            rw [if_neg c19] at H
            exact absurd H (by simp)
          ·
           rw [if_neg c18] at H
           exact absurd H (by simp)
     ·
      rw [if_neg c12] at H
      exact absurd H (by simp)
    ·
     rw [if_neg c11] at H
     have c11b0 : decide (x9_1 < (l1.length : Int)) = false := decide_eq_false c11
     clear c11
     obtain rfl := Option.some.inj H
     go_wp2
     go_ret
     exact ⟨by first | rfl | (simp [errW_none, errW_some] <;> rfl) | (simp [*, errW_none, errW_some] <;> rfl), by repeat (first | (with_reducible first | exact HB.out | apply below_alloc | apply pw_below_drewN | apply below_drew1 | refine below_set ?_ GE501.out) | exact HB.out)⟩

end Go.Proofs.Ytehibiikdlgneaa.P
