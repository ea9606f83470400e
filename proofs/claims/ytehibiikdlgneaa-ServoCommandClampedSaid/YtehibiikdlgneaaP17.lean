-- Written by this session's own program, for this seat. Lean checks it.
import Derived.Test.YtehibiikdlgneaaP0
import Derived.Test.YtehibiikdlgneaaP11
import Derived.Test.YtehibiikdlgneaaP12
namespace Go.Proofs.Ytehibiikdlgneaa.P
open Go.RowKit Go.Proofs.YtehibiikdlgneaaW.PrintWords Go.Proofs.YtehibiikdlgneaaW.PrintLast Go.Proofs.YtehibiikdlgneaaW.PrintMore
attribute [local go_sem] max2_int min2_int max_two min_two max_three min_three max_four min_four   -- for this text's walks alone
set_option linter.unusedVariables false
set_option linter.unusedSimpArgs false

/-! ### ambidexterlaw25_ServoCommandClamped: function 12 -/
mutual
def ambidexterlaw25_ServoCommandClamped.l0 : Nat → List (S54) → Int → Bool → Int → Int → Int → Int → Int → Bool → Option (Bool)
  | 0, _, _, _, _, _, _, _, _, _ => none
  | k + 1, x1, x2, x7, x9, x537000, x537001, x537002, x537003, x537004 => if x9 < (x1.length : Int) then ((servo_TrackingError.f x537000 x537001 x537002 x537003 x537004 (wrap64 (x2))).bind fun t537 => (if 0 ≤ x9 then ((servo_Step.f x537000 x537001 x537002 x537003 x537004 (Int.tmod (wrap64 ((rd_T54 x1 x9).f0)) 4) (wrap64 ((rd_T54 x1 x9).f1)) (wrap64 ((rd_T54 x1 x9).f2))).bind fun bt541 => (if bt541.2.2.2.2.2 > 128 then (ambidexterlaw25_ServoCommandClamped.j1 k x1 x2 x7 x9 t537 bt541.2.2.2.2.2 true bt541.1 bt541.2.1 bt541.2.2.1 bt541.2.2.2.1 bt541.2.2.2.2.1) else (if bt541.2.2.2.2.2 < (-128) then (ambidexterlaw25_ServoCommandClamped.j1 k x1 x2 x7 x9 t537 bt541.2.2.2.2.2 true bt541.1 bt541.2.1 bt541.2.2.1 bt541.2.2.2.1 bt541.2.2.2.2.1) else (ambidexterlaw25_ServoCommandClamped.j1 k x1 x2 x7 x9 t537 bt541.2.2.2.2.2 (bt541.2.2.2.1 != bt541.2.2.2.2.2) bt541.1 bt541.2.1 bt541.2.2.1 bt541.2.2.2.1 bt541.2.2.2.2.1)))) else (none))) else (some x7)
def ambidexterlaw25_ServoCommandClamped.j1 : Nat → List (S54) → Int → Bool → Int → Int → Int → Bool → Int → Int → Int → Int → Bool → Option (Bool)
  | 0, _, _, _, _, _, _, _, _, _, _, _, _ => none
  | k + 1, x1, x2, x7, x9, x10, x12, x66, x548000, x548001, x548002, x548003, x548004 => if x66 = true then (some false) else (if 0 ≤ x9 then (if x9 < (x1.length : Int) then (if (Int.tmod (wrap64 ((rd_T54 x1 x9).f0)) 4) = 1 then (ambidexterlaw25_ServoCommandClamped.l0 k x1 x2 x7 (wrap64 (x9 + 1)) x548000 x548001 x548002 x548003 x548004) else ((servo_TrackingError.f x548000 x548001 x548002 x548003 x548004 (wrap64 (x2))).bind fun t549 => (if t549 = (wrap64 (x10 - x12)) then (ambidexterlaw25_ServoCommandClamped.l0 k x1 x2 x7 (wrap64 (x9 + 1)) x548000 x548001 x548002 x548003 x548004) else (some false)))) else (none)) else (none))
end
def ambidexterlaw25_ServoCommandClamped.f (k : Nat) (a0 : Int) (l1 : List (S54)) (a2 : Int) : Option (Bool) := (ambidexterlaw25_head.f).bind fun t530 => (if (l1.length : Int) > 300 then (some t530) else ((servo_New.f (wrap64 (a0))).bind fun bt531 => (ambidexterlaw25_ServoCommandClamped.l0 k l1 a2 t530 0 bt531.1 bt531.2.1 bt531.2.2.1 bt531.2.2.2.1 bt531.2.2.2.2)))
theorem ambidexterlaw25_ServoCommandClamped.mono_l : ∀ k, (∀ y0 y1 y2 y3 y4 y5 y6 y7 y8, LeO (ambidexterlaw25_ServoCommandClamped.l0 k y0 y1 y2 y3 y4 y5 y6 y7 y8) (ambidexterlaw25_ServoCommandClamped.l0 (k + 1) y0 y1 y2 y3 y4 y5 y6 y7 y8)) ∧ (∀ y0 y1 y2 y3 y4 y5 y6 y7 y8 y9 y10 y11, LeO (ambidexterlaw25_ServoCommandClamped.j1 k y0 y1 y2 y3 y4 y5 y6 y7 y8 y9 y10 y11) (ambidexterlaw25_ServoCommandClamped.j1 (k + 1) y0 y1 y2 y3 y4 y5 y6 y7 y8 y9 y10 y11))
  | 0 => ⟨fun _ _ _ _ _ _ _ _ _ r h => by simp [ambidexterlaw25_ServoCommandClamped.l0] at h, fun _ _ _ _ _ _ _ _ _ _ _ _ r h => by simp [ambidexterlaw25_ServoCommandClamped.j1] at h⟩
  | k + 1 => by
    obtain ⟨ih0, ih1⟩ := ambidexterlaw25_ServoCommandClamped.mono_l k
    refine ⟨?_, ?_⟩
    · intro y0 y1 y2 y3 y4 y5 y6 y7 y8
      unfold ambidexterlaw25_ServoCommandClamped.l0
      repeat' first
      | (with_reducible exact ih0 _ _ _ _ _ _ _ _ _)
      | (with_reducible exact ih1 _ _ _ _ _ _ _ _ _ _ _ _)
      | (with_reducible exact LeO.refl _)
      | (with_reducible exact LeO.none _)
      | (with_reducible refine LeO.ite ?_ ?_)
      | (with_reducible refine LeO.bind ?_ (fun _ => ?_))
      | exact ih0 _ _ _ _ _ _ _ _ _
      | exact ih1 _ _ _ _ _ _ _ _ _ _ _ _
      | exact LeO.none _
      | refine LeO.ite ?_ ?_
      | refine LeO.bind ?_ (fun _ => ?_)
    · intro y0 y1 y2 y3 y4 y5 y6 y7 y8 y9 y10 y11
      unfold ambidexterlaw25_ServoCommandClamped.j1
      repeat' first
      | (with_reducible exact ih0 _ _ _ _ _ _ _ _ _)
      | (with_reducible exact ih1 _ _ _ _ _ _ _ _ _ _ _ _)
      | (with_reducible exact LeO.refl _)
      | (with_reducible exact LeO.none _)
      | (with_reducible refine LeO.ite ?_ ?_)
      | (with_reducible refine LeO.bind ?_ (fun _ => ?_))
      | exact ih0 _ _ _ _ _ _ _ _ _
      | exact ih1 _ _ _ _ _ _ _ _ _ _ _ _
      | exact LeO.none _
      | refine LeO.ite ?_ ?_
      | refine LeO.bind ?_ (fun _ => ?_)
theorem ambidexterlaw25_ServoCommandClamped.mono : ∀ a0 a1 a2 k, LeO (ambidexterlaw25_ServoCommandClamped.f k a0 a1 a2) (ambidexterlaw25_ServoCommandClamped.f (k + 1) a0 a1 a2) := by
  intro a0 a1 a2 k
  obtain ⟨ih0, ih1⟩ := ambidexterlaw25_ServoCommandClamped.mono_l k
  unfold ambidexterlaw25_ServoCommandClamped.f
  repeat' first
      | (with_reducible exact ih0 _ _ _ _ _ _ _ _ _)
      | (with_reducible exact ih1 _ _ _ _ _ _ _ _ _ _ _ _)
      | (with_reducible exact LeO.refl _)
      | (with_reducible exact LeO.none _)
      | (with_reducible refine LeO.ite ?_ ?_)
      | (with_reducible refine LeO.bind ?_ (fun _ => ?_))
      | exact ih0 _ _ _ _ _ _ _ _ _
      | exact ih1 _ _ _ _ _ _ _ _ _ _ _ _
      | exact LeO.none _
      | refine LeO.ite ?_ ?_
      | refine LeO.bind ?_ (fun _ => ?_)
def ambidexterlaw25_ServoCommandClamped.T9 : Bool × List (List Nat × List Nat) := (true, [([], []), ([], []), ([], []), ([1, 2], [1, 2]), ([3], [3]), ([4], [4]), ([5], [5]), ([6], [6]), ([], []), ([], []), ([8, 9], [8, 9]), ([10], [10]), ([11], [11]), ([12], [12]), ([], []), ([], []), ([14, 15], [14, 15]), ([16], [16]), ([17], [17]), ([18], [18]), ([0, 7, 13, 19], [0, 7, 13, 19]), ([20], [20]), ([21], [21]), ([21], [21]), ([], []), ([24, 22, 20, 0, 1, 2, 3, 4, 5, 6, 7, 8, 9, 10, 11, 12, 13, 14, 15, 16, 17, 18, 19, 20, 21, 22, 24], [22, 24]), ([23, 25, 0, 1, 2, 3, 4, 5, 6, 7, 8, 9, 10, 11, 12, 13, 14, 15, 16, 17, 18, 19, 20, 21, 22, 23, 24, 25], [23])])
def ambidexterlaw25_ServoCommandClamped.B9 : List Nat := [0, 0, 0, 6, 14, 30, 62, 126, 0, 0, 768, 1792, 3840, 7936, 0, 0, 49152, 114688, 245760, 507904, 1048575, 2097151, 4194303, 4194303, 0, 25165823, 67108863]
theorem ambidexterlaw25_ServoCommandClamped.tab9 : rtab .any (opsOf Try.f12 9) = ambidexterlaw25_ServoCommandClamped.T9 := by kernel_rfl
theorem ambidexterlaw25_ServoCommandClamped.bits9 : waitsOk ambidexterlaw25_ServoCommandClamped.T9.2 ambidexterlaw25_ServoCommandClamped.B9 = true := by kernel_rfl
set_option maxHeartbeats 8000000 in
set_option maxRecDepth 100000 in
theorem ambidexterlaw25_ServoCommandClamped.calls0 (k : Nat) (a0 : Int) (A1 : Option Addr) (c1 : Nat) (l1 : List (S54)) (a2 : Int) (r : Bool) (w : World) (hr1 : Kd.C k54 w A1 l1.length l1) (hc1 : l1.length ≤ c1) (h : ambidexterlaw25_ServoCommandClamped.f k a0 l1 a2 = some r) (hT : r = true) :
    Calls Try.prog 12 #[.int .i16 a0, .slice A1 l1.length c1, .int .i16 a2] w fun e w' => e = .returned (.bool r) ∧ Below w.heap.size w w' := by
  have hu49 := Try.underlying49
  have HR1 := Aside0.mk hr1
  have HC1 := Aside0.mk hc1
  clear hr1 hc1
  have HB := Aside0.mk (Below.refl w.heap.size w)
  have H : ((ambidexterlaw25_head.f).bind fun t530 => (if (l1.length : Int) > 300 then (some t530) else ((servo_New.f (wrap64 (a0))).bind fun bt531 => (ambidexterlaw25_ServoCommandClamped.l0 k l1 a2 t530 0 bt531.1 bt531.2.1 bt531.2.2.1 bt531.2.2.2.1 bt531.2.2.2.2)))) = some r := h
  clear h
  have HT := Aside0.mk hT
  clear hT
  replace H := Option.bind_eq_some_iff.mp H
  obtain ⟨t530, A40, H⟩ := H
  obtain rfl := ambidexterlaw25_head.is_true A40
  replace H : (if (l1.length : Int) > 300 then (some true) else ((servo_New.f (wrap64 (a0))).bind fun bt531 => (ambidexterlaw25_ServoCommandClamped.l0 k l1 a2 true 0 bt531.1 bt531.2.1 bt531.2.2.1 bt531.2.2.2.1 bt531.2.2.2.2))) = some r := H
  have A4 := Aside0.mk A40
  clear A40
  by_cases c5 : (l1.length : Int) > 300
  · rw [if_pos c5] at H
    have c5b0 : decide (300 < (l1.length : Int)) = true := decide_eq_true c5
    have c5b1 : decide (300 < l1.length) = true := decide_eq_true (by omega)
    clear c5
    obtain rfl := Option.some.inj H
    go_enter Try.func12, Try.ntmps12
    go_wp2_with (first | ((with_reducible refine gate_callee (f := 29) rfl ?_); refine goesL_ (some 13) rfl rfl Try.func29 (by kernel_rfl) rfl #[] rfl (by (try simp only [List.map_toArray, List.map_cons, List.map_nil]); first | done | rfl | (simp only [List.length_drop, List.length_take]; rfl)) ?_; (with_reducible refine (ambidexterlaw25_head.calls  true _ A4.out).mono ?_); rintro e w6 ⟨rfl, hb⟩; refine ⟨_, rfl, ?_⟩; have n0_ := Aside0.mk (below_step (by repeat (first | (with_reducible first | exact HB.out | apply below_alloc | apply pw_below_drewN | apply below_drew1) | exact HB.out)) hb); clear HB; have HB := n0_; clear n0_; (try clear hb); (try clear hb2); (try clear hk); (try clear hi)))
    go_ret
    exact ⟨by first | rfl | (simp [errW_none, errW_some] <;> rfl) | (simp [*, errW_none, errW_some] <;> rfl), by repeat (first | (with_reducible first | exact HB.out | apply below_alloc | apply pw_below_drewN | apply below_drew1) | exact HB.out)⟩
  · rw [if_neg c5] at H
    have c5b0 : decide (300 < (l1.length : Int)) = false := decide_eq_false c5
    have c5b1 : decide (300 < l1.length) = false := decide_eq_false (by omega)
    clear c5
    replace H := Option.bind_eq_some_iff.mp H
    obtain ⟨⟨t531, t532, t533, t534, t535⟩, A70, H⟩ := H
    replace H : (ambidexterlaw25_ServoCommandClamped.l0 k l1 a2 true 0 t531 t532 t533 t534 t535) = some r := H
    have A7 := Aside0.mk A70
    clear A70
    have H' := Aside0.mk H
    clear H
    go_enter Try.func12, Try.ntmps12
    go_wp2_with (first | ((with_reducible refine gate_callee (f := 29) rfl ?_); refine goesL_ (some 13) rfl rfl Try.func29 (by kernel_rfl) rfl #[] rfl (by (try simp only [List.map_toArray, List.map_cons, List.map_nil]); first | done | rfl | (simp only [List.length_drop, List.length_take]; rfl)) ?_; (with_reducible refine (ambidexterlaw25_head.calls  true _ A4.out).mono ?_); rintro e w8 ⟨rfl, hb⟩; refine ⟨_, rfl, ?_⟩; have n0_ := Aside0.mk (below_step (by repeat (first | (with_reducible first | exact HB.out | apply below_alloc | apply pw_below_drewN | apply below_drew1) | exact HB.out)) hb); clear HB; have HB := n0_; clear n0_; (try clear hb); (try clear hb2); (try clear hk); (try clear hi)) | ((with_reducible refine gate_callee (f := 30) rfl ?_); refine goesL_ (some 20) rfl rfl Try.func30 (by kernel_rfl) rfl #[.int .i64 (wrap64 (a0))] rfl (by (try simp only [List.map_toArray, List.map_cons, List.map_nil]); first | done | rfl | (simp only [List.length_drop, List.length_take]; rfl)) ?_; (with_reducible refine (servo_New.calls (wrap64 (a0)) t531 t532 t533 t534 t535 _ A7.out).mono ?_); rintro e w9 ⟨rfl, hb⟩; refine ⟨_, rfl, ?_⟩; have n0_ := Aside0.mk (below_step (by repeat (first | (with_reducible first | exact HB.out | apply below_alloc | apply pw_below_drewN | apply below_drew1) | exact HB.out)) hb); clear HB; have HB := n0_; clear n0_; (try clear hb); (try clear hb2); (try clear hk); (try clear hi)) | ((with_reducible refine gate_dst (N := 8) rfl ?_); refine box_event ?hg (N := 8) ?hd (cs := #[.int .i64 0, .int .i64 0, .int .i64 0, .int .i64 0, .bool false]) (t := 49) ?hr ?_; (case hd => rfl); (case hg => rfl); (case hr => first | (go_simp; done) | (go_simp; rfl)); intro gb536 hg w10 hbox hb; have n0_ := Aside0.mk (below_step (by repeat (first | (with_reducible first | exact HB.out | apply below_alloc | apply pw_below_drewN | apply below_drew1) | exact HB.out)) hb); have n1_ := Aside0.mk (hbox); have n2_ := Aside0.mk ((by rw [hg]; exact (below_size (by repeat (first | (with_reducible first | exact HB.out | apply below_alloc | apply pw_below_drewN | apply below_drew1) | exact HB.out))) : w.heap.size ≤ gb536)); have n3_ := Aside0.mk ((by rw [hg]; exact (below_size (by repeat (first | (with_reducible first | exact HB.out | apply below_alloc | apply pw_below_drewN | apply below_drew1) | exact HB.out))) : w.heap.size ≤ gb536)); clear HB; have HB := n0_; have BK536 := n1_; have GW536 := n2_; have GE536 := n3_; clear n0_ n1_ n2_ n3_; clear hb hbox hg; have hcz11_0 : w10.cell? ⟨gb536, 0, none⟩ = some (.int .i64 0) := (blk_cell BK536.out 0).trans rfl; have hcz11_1 : w10.cell? ⟨gb536, 1, none⟩ = some (.int .i64 0) := (blk_cell BK536.out 1).trans rfl; have hcz11_2 : w10.cell? ⟨gb536, 2, none⟩ = some (.int .i64 0) := (blk_cell BK536.out 2).trans rfl; have hcz11_3 : w10.cell? ⟨gb536, 3, none⟩ = some (.int .i64 0) := (blk_cell BK536.out 3).trans rfl; have hcz11_4 : w10.cell? ⟨gb536, 4, none⟩ = some (.bool false) := (blk_cell BK536.out 4).trans rfl; have hfz11_0 := blk_frozen BK536.out 0; have hfz11_1 := blk_frozen BK536.out 1; have hfz11_2 := blk_frozen BK536.out 2; have hfz11_3 := blk_frozen BK536.out 3; have hfz11_4 := blk_frozen BK536.out 4))
    go_loopg [9] k (fun kq v9 w' => ∃ (x9_1 : Int) (x537000_1 : Int) (x537001_1 : Int) (x537002_1 : Int) (x537003_1 : Int) (x537004_1 : Bool), v9 = .int .i64 x9_1 ∧ Aside0 (ambidexterlaw25_ServoCommandClamped.l0 kq l1 a2 true x9_1 x537000_1 x537001_1 x537002_1 x537003_1 x537004_1 = some r) ∧ Aside0 (kq ≤ k) ∧ Aside0 (w'.heap[gb536]? = some (.cells #[.int .i64 x537000_1, .int .i64 x537001_1, .int .i64 x537002_1, .int .i64 x537003_1, .bool x537004_1] 49 (0, 0))) ∧ Aside0 (Below w.heap.size w w'))
    case atStart => exact ⟨(0), (t531), (t532), (t533), (t534), (t535), (by first | rfl | (simp; done) | (simp [*]; done)), H', ⟨Nat.le_refl _⟩, ⟨by (with_reducible repeat (first | refine blk_drewN ?_ _ | refine blk_drew ?_ | refine blk_alloc ?_ _)); refine blk_put (cs := #[.int .i64 t531, .int .i64 t532, .int .i64 t533, .int .i64 t534, .bool false]) ?_ 4 _ rfl; (with_reducible repeat (first | refine blk_drewN ?_ _ | refine blk_drew ?_ | refine blk_alloc ?_ _)); refine blk_put (cs := #[.int .i64 t531, .int .i64 t532, .int .i64 t533, .int .i64 0, .bool false]) ?_ 3 _ rfl; (with_reducible repeat (first | refine blk_drewN ?_ _ | refine blk_drew ?_ | refine blk_alloc ?_ _)); refine blk_put (cs := #[.int .i64 t531, .int .i64 t532, .int .i64 0, .int .i64 0, .bool false]) ?_ 2 _ rfl; (with_reducible repeat (first | refine blk_drewN ?_ _ | refine blk_drew ?_ | refine blk_alloc ?_ _)); refine blk_put (cs := #[.int .i64 t531, .int .i64 0, .int .i64 0, .int .i64 0, .bool false]) ?_ 1 _ rfl; (with_reducible repeat (first | refine blk_drewN ?_ _ | refine blk_drew ?_ | refine blk_alloc ?_ _)); refine blk_put (cs := #[.int .i64 0, .int .i64 0, .int .i64 0, .int .i64 0, .bool false]) ?_ 0 _ rfl; (with_reducible repeat (first | refine blk_drewN ?_ _ | refine blk_drew ?_ | refine blk_alloc ?_ _)); exact BK536.out⟩, ⟨by repeat (first | (with_reducible first | exact HB.out | apply below_alloc | apply pw_below_drewN | apply below_drew1 | refine below_set ?_ GE536.out) | exact HB.out)⟩⟩
    case round =>
      clear H'
      try clear c1
      try clear c2
      try clear p2
      try clear c3
      try clear c5
      try clear c5b0
      try clear c5b1
      try clear p6
      try clear hcz11_0
      try clear hcz11_1
      try clear hcz11_2
      try clear hcz11_3
      try clear hcz11_4
      try clear hfz11_0
      try clear hfz11_1
      try clear hfz11_2
      try clear hfz11_3
      try clear hfz11_4
      obtain ⟨x9_1, x537000_1, x537001_1, x537002_1, x537003_1, x537004_1, rfl, HA, HK1, BK536, HB⟩ := hrel
      cases gk with
      | zero => exact absurd HA.out (by simp [ambidexterlaw25_ServoCommandClamped.l0])
      | succ k1 =>
        have H := HA.out
        clear HA
        simp only [ambidexterlaw25_ServoCommandClamped.l0] at H
        by_cases c12 : x9_1 < (l1.length : Int)
        · rw [if_pos c12] at H
          have c12b0 : decide (x9_1 < (l1.length : Int)) = true := decide_eq_true c12
          clear c12
          replace H := Option.bind_eq_some_iff.mp H
          obtain ⟨t537, A130, H⟩ := H
          replace H : (if 0 ≤ x9_1 then ((servo_Step.f x537000_1 x537001_1 x537002_1 x537003_1 x537004_1 (Int.tmod (wrap64 ((rd_T54 l1 x9_1).f0)) 4) (wrap64 ((rd_T54 l1 x9_1).f1)) (wrap64 ((rd_T54 l1 x9_1).f2))).bind fun bt541 => (if bt541.2.2.2.2.2 > 128 then (ambidexterlaw25_ServoCommandClamped.j1 k1 l1 a2 true x9_1 t537 bt541.2.2.2.2.2 true bt541.1 bt541.2.1 bt541.2.2.1 bt541.2.2.2.1 bt541.2.2.2.2.1) else (if bt541.2.2.2.2.2 < (-128) then (ambidexterlaw25_ServoCommandClamped.j1 k1 l1 a2 true x9_1 t537 bt541.2.2.2.2.2 true bt541.1 bt541.2.1 bt541.2.2.1 bt541.2.2.2.1 bt541.2.2.2.2.1) else (ambidexterlaw25_ServoCommandClamped.j1 k1 l1 a2 true x9_1 t537 bt541.2.2.2.2.2 (bt541.2.2.2.1 != bt541.2.2.2.2.2) bt541.1 bt541.2.1 bt541.2.2.1 bt541.2.2.2.1 bt541.2.2.2.2.1)))) else (none)) = some r := H
          have A13 := Aside0.mk A130
          clear A130
          by_cases c14 : 0 ≤ x9_1
          · rw [if_pos c14] at H
            have c14b0 : decide (0 ≤ x9_1) = true := decide_eq_true c14
            clear c14
            replace H := Option.bind_eq_some_iff.mp H
            obtain ⟨⟨t541, t542, t543, t544, t545, t546⟩, A150, H⟩ := H
            replace H : (if t546 > 128 then (ambidexterlaw25_ServoCommandClamped.j1 k1 l1 a2 true x9_1 t537 t546 true t541 t542 t543 t544 t545) else (if t546 < (-128) then (ambidexterlaw25_ServoCommandClamped.j1 k1 l1 a2 true x9_1 t537 t546 true t541 t542 t543 t544 t545) else (ambidexterlaw25_ServoCommandClamped.j1 k1 l1 a2 true x9_1 t537 t546 (t544 != t546) t541 t542 t543 t544 t545))) = some r := H
            have A15 := Aside0.mk A150
            clear A150
            have HC16 := Aside0.mk H
            clear H
            have hcz17_0 : wr.cell? ⟨gb536, 0, none⟩ = some (.int .i64 x537000_1) := (blk_cell BK536.out 0).trans rfl
            have hcz17_1 : wr.cell? ⟨gb536, 1, none⟩ = some (.int .i64 x537001_1) := (blk_cell BK536.out 1).trans rfl
            have hcz17_2 : wr.cell? ⟨gb536, 2, none⟩ = some (.int .i64 x537002_1) := (blk_cell BK536.out 2).trans rfl
            have hcz17_3 : wr.cell? ⟨gb536, 3, none⟩ = some (.int .i64 x537003_1) := (blk_cell BK536.out 3).trans rfl
            have hcz17_4 : wr.cell? ⟨gb536, 4, none⟩ = some (.bool x537004_1) := (blk_cell BK536.out 4).trans rfl
            have hfz17_0 := blk_frozen BK536.out 0
            have hfz17_1 := blk_frozen BK536.out 1
            have hfz17_2 := blk_frozen BK536.out 2
            have hfz17_3 := blk_frozen BK536.out 3
            have hfz17_4 := blk_frozen BK536.out 4
            try go_wp2_with (first | ((with_reducible refine gate_callee (f := 34) rfl ?_); refine goesL_ (some 30) rfl rfl Try.func34 (by kernel_rfl) rfl #[.agg #[.int .i64 x537000_1, .int .i64 x537001_1, .int .i64 x537002_1, .int .i64 x537003_1, .bool x537004_1], .int .i64 (wrap64 (a2))] rfl (by (try simp only [List.map_toArray, List.map_cons, List.map_nil]); first | done | rfl | (simp only [List.length_drop, List.length_take]; rfl)) ?_; (with_reducible refine (servo_TrackingError.calls x537000_1 x537001_1 x537002_1 x537003_1 x537004_1 (wrap64 (a2)) t537 _ A13.out).mono ?_); rintro e w18 ⟨rfl, hb⟩; refine ⟨_, rfl, ?_⟩; have n0_ := Aside0.mk (blk_below (g := gb536) (o := .cells #[.int .i64 x537000_1, .int .i64 x537001_1, .int .i64 x537002_1, .int .i64 x537003_1, .bool x537004_1] 49 (0, 0)) (by (with_reducible repeat (first | refine blk_drewN ?_ _ | refine blk_drew ?_ | refine blk_alloc ?_ _)); exact BK536.out) hb); have n1_ := Aside0.mk (below_step (by repeat (first | (with_reducible first | exact HB.out | apply below_alloc | apply pw_below_drewN | apply below_drew1 | refine below_set ?_ GE536.out) | exact HB.out)) hb); clear BK536; clear HB; have BK536 := n0_; have HB := n1_; clear n0_ n1_; (try clear hb); (try clear hb2); (try clear hk); (try clear hi)))
            have n0_ := Aside0.mk (blk_drew BK536.out)
            have n1_ := Aside0.mk (below_drew1 HB.out)
            clear BK536
            clear HB
            have BK536 := n0_
            have HB := n1_
            clear n0_ n1_
            have p538 : 0 ≤ (x9_1 : Int) := of_decide_eq_true (by first | (with_reducible assumption) | assumption)
            have q538 : x9_1 < (l1.length : Int) := of_decide_eq_true (by first | (with_reducible assumption) | assumption)
            obtain ⟨ad538, e538, hx538_0, hx538_1, hx538_2⟩ := at_T54 HR1.out x9_1 p538 q538
            have hw538_2 := hx538_2
            have hw538_1 := hx538_1
            have hw538_0 := hx538_0
            cases e538
            replace hx538_0 := (HB.out.cell (World.block_lt_of_cell? w _ hx538_0)).trans hx538_0
            replace hx538_1 := (HB.out.cell (World.block_lt_of_cell? w _ hx538_1)).trans hx538_1
            replace hx538_2 := (HB.out.cell (World.block_lt_of_cell? w _ hx538_2)).trans hx538_2
            replace p538 := eq_true p538
            replace q538 := eq_true q538
            have p539 : 0 ≤ (x9_1 : Int) := of_decide_eq_true (by first | (with_reducible assumption) | assumption)
            have q539 : x9_1 < (l1.length : Int) := of_decide_eq_true (by first | (with_reducible assumption) | assumption)
            obtain ⟨ad539, e539, hx539_0, hx539_1, hx539_2⟩ := at_T54 HR1.out x9_1 p539 q539
            have hw539_2 := hx539_2
            have hw539_1 := hx539_1
            have hw539_0 := hx539_0
            obtain rfl : ad538 = ad539 := (by injection e539)
            replace hx539_0 := (HB.out.cell (World.block_lt_of_cell? w _ hx539_0)).trans hx539_0
            replace hx539_1 := (HB.out.cell (World.block_lt_of_cell? w _ hx539_1)).trans hx539_1
            replace hx539_2 := (HB.out.cell (World.block_lt_of_cell? w _ hx539_2)).trans hx539_2
            replace p539 := eq_true p539
            replace q539 := eq_true q539
            have p540 : 0 ≤ (x9_1 : Int) := of_decide_eq_true (by first | (with_reducible assumption) | assumption)
            have q540 : x9_1 < (l1.length : Int) := of_decide_eq_true (by first | (with_reducible assumption) | assumption)
            obtain ⟨ad540, e540, hx540_0, hx540_1, hx540_2⟩ := at_T54 HR1.out x9_1 p540 q540
            have hw540_2 := hx540_2
            have hw540_1 := hx540_1
            have hw540_0 := hx540_0
            obtain rfl : ad538 = ad540 := (by injection e540)
            replace hx540_0 := (HB.out.cell (World.block_lt_of_cell? w _ hx540_0)).trans hx540_0
            replace hx540_1 := (HB.out.cell (World.block_lt_of_cell? w _ hx540_1)).trans hx540_1
            replace hx540_2 := (HB.out.cell (World.block_lt_of_cell? w _ hx540_2)).trans hx540_2
            replace p540 := eq_true p540
            replace q540 := eq_true q540
            refine start_ (n := 27) (S := fun w' => w'.cell? ⟨gb536, 0, none⟩ = some (.int .i64 x537000_1) ∧ w'.cell? ⟨gb536, 1, none⟩ = some (.int .i64 x537001_1) ∧ w'.cell? ⟨gb536, 2, none⟩ = some (.int .i64 x537002_1) ∧ w'.cell? ⟨gb536, 3, none⟩ = some (.int .i64 x537003_1) ∧ w'.cell? ⟨gb536, 4, none⟩ = some (.bool x537004_1) ∧ w'.cell? (ad538.add ((x9_1).toNat * 3)) = some (.int .u8 ((rd_T54 l1 x9_1).f0)) ∧ w'.cell? ⟨(ad538.add ((x9_1).toNat * 3)).block, (ad538.add ((x9_1).toNat * 3)).off + 1, none⟩ = some (.int .i16 ((rd_T54 l1 x9_1).f1)) ∧ w'.cell? ⟨(ad538.add ((x9_1).toNat * 3)).block, (ad538.add ((x9_1).toNat * 3)).off + 2, none⟩ = some (.int .i16 ((rd_T54 l1 x9_1).f2)) ∧ w'.cell? (ad538.add ((x9_1).toNat * 3)) = some (.int .u8 ((rd_T54 l1 x9_1).f0)) ∧ w'.cell? ⟨(ad538.add ((x9_1).toNat * 3)).block, (ad538.add ((x9_1).toNat * 3)).off + 1, none⟩ = some (.int .i16 ((rd_T54 l1 x9_1).f1)) ∧ w'.cell? ⟨(ad538.add ((x9_1).toNat * 3)).block, (ad538.add ((x9_1).toNat * 3)).off + 2, none⟩ = some (.int .i16 ((rd_T54 l1 x9_1).f2)) ∧ w'.cell? (ad538.add ((x9_1).toNat * 3)) = some (.int .u8 ((rd_T54 l1 x9_1).f0)) ∧ w'.cell? ⟨(ad538.add ((x9_1).toNat * 3)).block, (ad538.add ((x9_1).toNat * 3)).off + 1, none⟩ = some (.int .i16 ((rd_T54 l1 x9_1).f1)) ∧ w'.cell? ⟨(ad538.add ((x9_1).toNat * 3)).block, (ad538.add ((x9_1).toNat * 3)).off + 2, none⟩ = some (.int .i16 ((rd_T54 l1 x9_1).f2))) (ds := []) #[false, false, false, false, false, false, false, false, false, false, false, false, false, false, false, false, false, false, false, false, false, false, false, false, false, false, false] (by kernel_rfl) rfl rfl ⟨(blk_cell BK536.out 0).trans rfl, (blk_cell BK536.out 1).trans rfl, (blk_cell BK536.out 2).trans rfl, (blk_cell BK536.out 3).trans rfl, (blk_cell BK536.out 4).trans rfl, ((HB.out.cell (World.block_lt_of_cell? w _ hw538_0)).trans hw538_0), ((HB.out.cell (World.block_lt_of_cell? w _ hw538_1)).trans hw538_1), ((HB.out.cell (World.block_lt_of_cell? w _ hw538_2)).trans hw538_2), ((HB.out.cell (World.block_lt_of_cell? w _ hw539_0)).trans hw539_0), ((HB.out.cell (World.block_lt_of_cell? w _ hw539_1)).trans hw539_1), ((HB.out.cell (World.block_lt_of_cell? w _ hw539_2)).trans hw539_2), ((HB.out.cell (World.block_lt_of_cell? w _ hw540_0)).trans hw540_0), ((HB.out.cell (World.block_lt_of_cell? w _ hw540_1)).trans hw540_1), ((HB.out.cell (World.block_lt_of_cell? w _ hw540_2)).trans hw540_2)⟩ (fun hHeld => ?_); refine with_tabW ambidexterlaw25_ServoCommandClamped.tab9 ambidexterlaw25_ServoCommandClamped.bits9 (fun HT_ HW_ => ?_)
            generalize w18.drew = w19 at BK536 HB hx538_0 hx538_1 hx538_2 hx539_0 hx539_1 hx539_2 hx540_0 hx540_1 hx540_2 hHeld ⊢
            refine pure_ (i := 1) (N := some 33) (v := ?_) (a' := ?_) #[false, true, false, false, false, false, false, false, false, false, false, false, false, false, false, false, false, false, false, false, false, false, false, false, false, false, false] rfl rfl (any_of HT_.out (by kernel_rfl)) (fun _ _ _ h => h) (Or.inl ⟨by rfl, ?_⟩) ?_ ?_
            rotate_left
            · intro w'
              go_simp
              with_reducible rfl
            rotate_left
            · simp only [Act.put, List.setIfInBounds_toArray, List.set_cons_zero, List.set_cons_succ, i64_w, i32_w]
              rfl
            refine pure_ (i := 2) (N := some 34) (v := ?_) (a' := ?_) #[false, true, true, false, false, false, false, false, false, false, false, false, false, false, false, false, false, false, false, false, false, false, false, false, false, false, false] rfl rfl (any_of HT_.out (by kernel_rfl)) (fun _ _ _ h => h) (Or.inl ⟨by rfl, ?_⟩) ?_ ?_
            rotate_left
            · intro w'
              go_simp
              with_reducible rfl
            rotate_left
            · simp only [Act.put, List.setIfInBounds_toArray, List.set_cons_zero, List.set_cons_succ, i64_w, i32_w]
              rfl
            refine pure_ (i := 3) (N := some 35) (v := ?_) (a' := ?_) #[false, true, true, true, false, false, false, false, false, false, false, false, false, false, false, false, false, false, false, false, false, false, false, false, false, false, false] rfl rfl (any_of HT_.out (by kernel_rfl)) (fun _ _ _ h => h) (Or.inl ⟨by rfl, ?_⟩) ?_ ?_
            rotate_left
            · intro w'
              go_simp
              with_reducible rfl
            rotate_left
            · simp only [Act.put, List.setIfInBounds_toArray, List.set_cons_zero, List.set_cons_succ, i64_w, i32_w]
              rfl
            refine pure_ (i := 4) (N := some 36) (v := ?_) (a' := ?_) #[false, true, true, true, true, false, false, false, false, false, false, false, false, false, false, false, false, false, false, false, false, false, false, false, false, false, false] rfl rfl (any_of HT_.out (by kernel_rfl)) (fun _ _ _ h => h) (Or.inl ⟨by rfl, ?_⟩) ?_ ?_
            rotate_left
            · intro w'
              go_simp
              with_reducible rfl
            rotate_left
            · simp only [Act.put, List.setIfInBounds_toArray, List.set_cons_zero, List.set_cons_succ, i64_w, i32_w]
              rfl
            refine pure_ (i := 8) (N := some 40) (v := ?_) (a' := ?_) #[false, true, true, true, true, false, false, false, true, false, false, false, false, false, false, false, false, false, false, false, false, false, false, false, false, false, false] rfl rfl (any_of HT_.out (by kernel_rfl)) (fun _ _ _ h => h) (Or.inl ⟨by rfl, ?_⟩) ?_ ?_
            rotate_left
            · intro w'
              go_simp
              with_reducible rfl
            rotate_left
            · simp only [Act.put, List.setIfInBounds_toArray, List.set_cons_zero, List.set_cons_succ, i64_w, i32_w]
              rfl
            refine pure_ (i := 9) (N := some 41) (v := ?_) (a' := ?_) #[false, true, true, true, true, false, false, false, true, true, false, false, false, false, false, false, false, false, false, false, false, false, false, false, false, false, false] rfl rfl (any_of HT_.out (by kernel_rfl)) (fun _ _ _ h => h) (Or.inl ⟨by rfl, ?_⟩) ?_ ?_
            rotate_left
            · intro w'
              go_simp
              with_reducible rfl
            rotate_left
            · simp only [Act.put, List.setIfInBounds_toArray, List.set_cons_zero, List.set_cons_succ, i64_w, i32_w]
              rfl
            refine pure_ (i := 10) (N := some 42) (v := ?_) (a' := ?_) #[false, true, true, true, true, false, false, false, true, true, true, false, false, false, false, false, false, false, false, false, false, false, false, false, false, false, false] rfl rfl (any_of HT_.out (by kernel_rfl)) (fun _ _ _ h => h) (Or.inl ⟨by rfl, ?_⟩) ?_ ?_
            rotate_left
            · intro w'
              go_simp
              with_reducible rfl
            rotate_left
            · simp only [Act.put, List.setIfInBounds_toArray, List.set_cons_zero, List.set_cons_succ, i64_w, i32_w]
              rfl
            refine pure_ (i := 11) (N := some 43) (v := ?_) (a' := ?_) #[false, true, true, true, true, false, false, false, true, true, true, true, false, false, false, false, false, false, false, false, false, false, false, false, false, false, false] rfl rfl (any_of HT_.out (by kernel_rfl)) (fun _ _ _ h => h) (Or.inl ⟨by rfl, ?_⟩) ?_ ?_
            rotate_left
            · intro w'
              go_simp
              with_reducible rfl
            rotate_left
            · simp only [Act.put, List.setIfInBounds_toArray, List.set_cons_zero, List.set_cons_succ, i64_w, i32_w]
              rfl
            refine pure_ (i := 14) (N := some 46) (v := ?_) (a' := ?_) #[false, true, true, true, true, false, false, false, true, true, true, true, false, false, true, false, false, false, false, false, false, false, false, false, false, false, false] rfl rfl (any_of HT_.out (by kernel_rfl)) (fun _ _ _ h => h) (Or.inl ⟨by rfl, ?_⟩) ?_ ?_
            rotate_left
            · intro w'
              go_simp
              with_reducible rfl
            rotate_left
            · simp only [Act.put, List.setIfInBounds_toArray, List.set_cons_zero, List.set_cons_succ, i64_w, i32_w]
              rfl
            refine pure_ (i := 15) (N := some 47) (v := ?_) (a' := ?_) #[false, true, true, true, true, false, false, false, true, true, true, true, false, false, true, true, false, false, false, false, false, false, false, false, false, false, false] rfl rfl (any_of HT_.out (by kernel_rfl)) (fun _ _ _ h => h) (Or.inl ⟨by rfl, ?_⟩) ?_ ?_
            rotate_left
            · intro w'
              go_simp
              with_reducible rfl
            rotate_left
            · simp only [Act.put, List.setIfInBounds_toArray, List.set_cons_zero, List.set_cons_succ, i64_w, i32_w]
              rfl
            refine pure_ (i := 16) (N := some 48) (v := ?_) (a' := ?_) #[false, true, true, true, true, false, false, false, true, true, true, true, false, false, true, true, true, false, false, false, false, false, false, false, false, false, false] rfl rfl (any_of HT_.out (by kernel_rfl)) (fun _ _ _ h => h) (Or.inl ⟨by rfl, ?_⟩) ?_ ?_
            rotate_left
            · intro w'
              go_simp
              with_reducible rfl
            rotate_left
            · simp only [Act.put, List.setIfInBounds_toArray, List.set_cons_zero, List.set_cons_succ, i64_w, i32_w]
              rfl
            refine pure_ (i := 17) (N := some 49) (v := ?_) (a' := ?_) #[false, true, true, true, true, false, false, false, true, true, true, true, false, false, true, true, true, true, false, false, false, false, false, false, false, false, false] rfl rfl (any_of HT_.out (by kernel_rfl)) (fun _ _ _ h => h) (Or.inl ⟨by rfl, ?_⟩) ?_ ?_
            rotate_left
            · intro w'
              go_simp
              with_reducible rfl
            rotate_left
            · simp only [Act.put, List.setIfInBounds_toArray, List.set_cons_zero, List.set_cons_succ, i64_w, i32_w]
              rfl
            refine take_ (i := 0) (N := some 32) (v := ?_) (a' := ?_) #[true, true, true, true, true, false, false, false, true, true, true, true, false, false, true, true, true, true, false, false, false, false, false, false, false, false, false] rfl rfl (take_ofW HT_.out HW_.out (by kernel_rfl)) (fun _ _ _ h => h) (Or.inl ⟨by rfl, ?_⟩) hHeld ?_ ?_
            rotate_left
            · rintro w' ⟨s0, s1, s2, s3, s4, s5, s6, s7, s8, s9, s10, s11, s12, s13⟩
              go_simp
              with_reducible rfl
            rotate_left
            · simp only [Act.put, List.setIfInBounds_toArray, List.set_cons_zero, List.set_cons_succ, i64_w, i32_w]
              rfl
            refine take_ (i := 5) (N := some 37) (v := ?_) (a' := ?_) #[true, true, true, true, true, true, false, false, true, true, true, true, false, false, true, true, true, true, false, false, false, false, false, false, false, false, false] rfl rfl (take_ofW HT_.out HW_.out (by kernel_rfl)) (fun _ _ _ h => h) (Or.inl ⟨by rfl, ?_⟩) hHeld ?_ ?_
            rotate_left
            · rintro w' ⟨s0, s1, s2, s3, s4, s5, s6, s7, s8, s9, s10, s11, s12, s13⟩
              go_simp
              with_reducible rfl
            rotate_left
            · simp only [Act.put, List.setIfInBounds_toArray, List.set_cons_zero, List.set_cons_succ, i64_w, i32_w]
              rfl
            refine pure_ (i := 6) (N := some 38) (v := ?_) (a' := ?_) #[true, true, true, true, true, true, true, false, true, true, true, true, false, false, true, true, true, true, false, false, false, false, false, false, false, false, false] rfl rfl (any_of HT_.out (by kernel_rfl)) (fun _ _ _ h => h) (Or.inl ⟨by rfl, ?_⟩) ?_ ?_
            rotate_left
            · intro w'
              go_simp
              with_reducible rfl
            rotate_left
            · simp only [Act.put, List.setIfInBounds_toArray, List.set_cons_zero, List.set_cons_succ, i64_w, i32_w]
              rfl
            refine pure_ (i := 7) (N := some 39) (v := ?_) (a' := ?_) #[true, true, true, true, true, true, true, true, true, true, true, true, false, false, true, true, true, true, false, false, false, false, false, false, false, false, false] rfl rfl (any_of HT_.out (by kernel_rfl)) (fun _ _ _ h => h) (Or.inl ⟨by rfl, ?_⟩) ?_ ?_
            rotate_left
            · intro w'
              go_simp
              with_reducible rfl
            rotate_left
            · simp only [Act.put, List.setIfInBounds_toArray, List.set_cons_zero, List.set_cons_succ, i64_w, i32_w]
              rfl
            refine take_ (i := 12) (N := some 44) (v := ?_) (a' := ?_) #[true, true, true, true, true, true, true, true, true, true, true, true, true, false, true, true, true, true, false, false, false, false, false, false, false, false, false] rfl rfl (take_ofW HT_.out HW_.out (by kernel_rfl)) (fun _ _ _ h => h) (Or.inl ⟨by rfl, ?_⟩) hHeld ?_ ?_
            rotate_left
            · rintro w' ⟨s0, s1, s2, s3, s4, s5, s6, s7, s8, s9, s10, s11, s12, s13⟩
              go_simp
              with_reducible rfl
            rotate_left
            · simp only [Act.put, List.setIfInBounds_toArray, List.set_cons_zero, List.set_cons_succ, i64_w, i32_w]
              rfl
            refine pure_ (i := 13) (N := some 45) (v := ?_) (a' := ?_) #[true, true, true, true, true, true, true, true, true, true, true, true, true, true, true, true, true, true, false, false, false, false, false, false, false, false, false] rfl rfl (any_of HT_.out (by kernel_rfl)) (fun _ _ _ h => h) (Or.inl ⟨by rfl, ?_⟩) ?_ ?_
            rotate_left
            · intro w'
              go_simp
              with_reducible rfl
            rotate_left
            · simp only [Act.put, List.setIfInBounds_toArray, List.set_cons_zero, List.set_cons_succ, i64_w, i32_w]
              rfl
            refine take_ (i := 18) (N := some 50) (v := ?_) (a' := ?_) #[true, true, true, true, true, true, true, true, true, true, true, true, true, true, true, true, true, true, true, false, false, false, false, false, false, false, false] rfl rfl (take_ofW HT_.out HW_.out (by kernel_rfl)) (fun _ _ _ h => h) (Or.inl ⟨by rfl, ?_⟩) hHeld ?_ ?_
            rotate_left
            · rintro w' ⟨s0, s1, s2, s3, s4, s5, s6, s7, s8, s9, s10, s11, s12, s13⟩
              go_simp
              with_reducible rfl
            rotate_left
            · simp only [Act.put, List.setIfInBounds_toArray, List.set_cons_zero, List.set_cons_succ, i64_w, i32_w]
              rfl
            refine pure_ (i := 19) (N := some 51) (v := ?_) (a' := ?_) #[true, true, true, true, true, true, true, true, true, true, true, true, true, true, true, true, true, true, true, true, false, false, false, false, false, false, false] rfl rfl (any_of HT_.out (by kernel_rfl)) (fun _ _ _ h => h) (Or.inl ⟨by rfl, ?_⟩) ?_ ?_
            rotate_left
            · intro w'
              go_simp
              with_reducible rfl
            rotate_left
            · simp only [Act.put, List.setIfInBounds_toArray, List.set_cons_zero, List.set_cons_succ, i64_w, i32_w]
              rfl
            refine join_ (σ := Nat) 2 #[true, true, true, true, true, true, true, true, true, true, true, true, true, true, true, true, true, true, true, true, true, true, true, true, true, false, false] (fun s_ => [(52, .tuple #[.agg #[.int .i64 t541, .int .i64 t542, .int .i64 t543, .int .i64 t544, .bool t545], .int .i64 t546]), (11, .pointer (some ⟨s_, 0, none⟩)), (31, .tuple #[.agg #[.int .i64 t541, .int .i64 t542, .int .i64 t543, .int .i64 t544, .bool t545], .int .i64 t546]), (53, .agg #[.int .i64 t541, .int .i64 t542, .int .i64 t543, .int .i64 t544, .bool t545]), (54, .int .i64 t546)]) (fun s_ w' => (w'.cell? ⟨gb536, 0, none⟩ = some (.int .i64 x537000_1) ∧ w'.cell? ⟨gb536, 1, none⟩ = some (.int .i64 x537001_1) ∧ w'.cell? ⟨gb536, 2, none⟩ = some (.int .i64 x537002_1) ∧ w'.cell? ⟨gb536, 3, none⟩ = some (.int .i64 x537003_1) ∧ w'.cell? ⟨gb536, 4, none⟩ = some (.bool x537004_1) ∧ w'.cell? (ad538.add ((x9_1).toNat * 3)) = some (.int .u8 ((rd_T54 l1 x9_1).f0)) ∧ w'.cell? ⟨(ad538.add ((x9_1).toNat * 3)).block, (ad538.add ((x9_1).toNat * 3)).off + 1, none⟩ = some (.int .i16 ((rd_T54 l1 x9_1).f1)) ∧ w'.cell? ⟨(ad538.add ((x9_1).toNat * 3)).block, (ad538.add ((x9_1).toNat * 3)).off + 2, none⟩ = some (.int .i16 ((rd_T54 l1 x9_1).f2)) ∧ w'.cell? (ad538.add ((x9_1).toNat * 3)) = some (.int .u8 ((rd_T54 l1 x9_1).f0)) ∧ w'.cell? ⟨(ad538.add ((x9_1).toNat * 3)).block, (ad538.add ((x9_1).toNat * 3)).off + 1, none⟩ = some (.int .i16 ((rd_T54 l1 x9_1).f1)) ∧ w'.cell? ⟨(ad538.add ((x9_1).toNat * 3)).block, (ad538.add ((x9_1).toNat * 3)).off + 2, none⟩ = some (.int .i16 ((rd_T54 l1 x9_1).f2)) ∧ w'.cell? (ad538.add ((x9_1).toNat * 3)) = some (.int .u8 ((rd_T54 l1 x9_1).f0)) ∧ w'.cell? ⟨(ad538.add ((x9_1).toNat * 3)).block, (ad538.add ((x9_1).toNat * 3)).off + 1, none⟩ = some (.int .i16 ((rd_T54 l1 x9_1).f1)) ∧ w'.cell? ⟨(ad538.add ((x9_1).toNat * 3)).block, (ad538.add ((x9_1).toNat * 3)).off + 2, none⟩ = some (.int .i16 ((rd_T54 l1 x9_1).f2))) ∧ (w'.heap[gb536]? = some (.cells #[.int .i64 x537000_1, .int .i64 x537001_1, .int .i64 x537002_1, .int .i64 x537003_1, .bool x537004_1] 49 (0, 0))) ∧ (w'.heap[s_]? = some (.cells #[.int .i64 0, .int .i64 0, .int .i64 0, .int .i64 0, .bool false] 49 (0, 0))) ∧ (w.heap.size ≤ s_) ∧ (w.heap.size ≤ s_) ∧ (gb536 ≠ s_) ∧ (s_ ≠ gb536) ∧ (Below w.heap.size w w')) ?_ ?_
            rotate_left
            · intro hCont
              refine two_ (i := 20) (j := 24) (Ni := some 52) (Nj := some 11) #[true, true, true, true, true, true, true, true, true, true, true, true, true, true, true, true, true, true, true, true, true, false, false, false, false, false, false] #[true, true, true, true, true, true, true, true, true, true, true, true, true, true, true, true, true, true, true, true, false, false, false, false, true, false, false] rfl rfl rfl rfl (two_of HT_.out (by kernel_rfl)) (by decide) (by decide) (fun K hK => ?_) (fun K hK => ?_)
              · skip
                refine goes_ Try.func32 (by kernel_rfl) rfl #[.agg #[.int .i64 x537000_1, .int .i64 x537001_1, .int .i64 x537002_1, .int .i64 x537003_1, .bool x537004_1], .int .i64 (Int.tmod (wrap64 ((rd_T54 l1 x9_1).f0)) 4), .int .i64 (wrap64 ((rd_T54 l1 x9_1).f1)), .int .i64 (wrap64 ((rd_T54 l1 x9_1).f2))] (by rfl) rfl rfl (by (try simp only [List.map_toArray, List.map_cons, List.map_nil]); first | done | rfl | (simp only [List.length_drop, List.length_take]; rfl)) ?_
                with_reducible refine (servo_Step.calls x537000_1 x537001_1 x537002_1 x537003_1 x537004_1 (Int.tmod (wrap64 ((rd_T54 l1 x9_1).f0)) 4) (wrap64 ((rd_T54 l1 x9_1).f1)) (wrap64 ((rd_T54 l1 x9_1).f2)) t541 t542 t543 t544 t545 t546 _ A15.out).mono ?_
                rintro e w20 ⟨rfl, hb⟩
                refine ⟨_, rfl, ?_⟩
                have n0_ := Aside0.mk (blk_below (g := gb536) (o := .cells #[.int .i64 x537000_1, .int .i64 x537001_1, .int .i64 x537002_1, .int .i64 x537003_1, .bool x537004_1] 49 (0, 0)) (by (with_reducible repeat (first | refine blk_drewN ?_ _ | refine blk_drew ?_ | refine blk_alloc ?_ _)); exact BK536.out) hb)
                have n1_ := Aside0.mk (below_step (by repeat (first | (with_reducible first | exact HB.out | apply below_alloc | apply pw_below_drewN | apply below_drew1 | refine below_set ?_ GE536.out) | exact HB.out)) hb)
                clear BK536
                clear HB
                have BK536 := n0_
                have HB := n1_
                clear n0_ n1_
                (try clear hb)
                (try clear hb2)
                (try clear hk)
                (try clear hi)
                refine hK.out _ _ ⟨(blk_cell BK536.out 0).trans rfl, (blk_cell BK536.out 1).trans rfl, (blk_cell BK536.out 2).trans rfl, (blk_cell BK536.out 3).trans rfl, (blk_cell BK536.out 4).trans rfl, ((HB.out.cell (World.block_lt_of_cell? w _ hw538_0)).trans hw538_0), ((HB.out.cell (World.block_lt_of_cell? w _ hw538_1)).trans hw538_1), ((HB.out.cell (World.block_lt_of_cell? w _ hw538_2)).trans hw538_2), ((HB.out.cell (World.block_lt_of_cell? w _ hw539_0)).trans hw539_0), ((HB.out.cell (World.block_lt_of_cell? w _ hw539_1)).trans hw539_1), ((HB.out.cell (World.block_lt_of_cell? w _ hw539_2)).trans hw539_2), ((HB.out.cell (World.block_lt_of_cell? w _ hw540_0)).trans hw540_0), ((HB.out.cell (World.block_lt_of_cell? w _ hw540_1)).trans hw540_1), ((HB.out.cell (World.block_lt_of_cell? w _ hw540_2)).trans hw540_2)⟩ (fun hHeld => ?_)
                clear hK K
                refine norm_ (a' := ?_) ?_ ?_
                rotate_left
                · show Act.put _ (some 52) _ = _
                  simp only [Act.put, List.setIfInBounds_toArray, List.set_cons_zero, List.set_cons_succ, i64_w, i32_w]
                  rfl
                refine pure_ (i := 21) (N := some 31) (v := ?_) (a' := ?_) #[true, true, true, true, true, true, true, true, true, true, true, true, true, true, true, true, true, true, true, true, true, true, false, false, false, false, false] rfl rfl (any_of HT_.out (by kernel_rfl)) (fun _ _ _ h => h) (Or.inl ⟨by rfl, ?_⟩) ?_ ?_
                rotate_left
                · intro w'
                  go_simp
                  with_reducible rfl
                rotate_left
                · simp only [Act.put, List.setIfInBounds_toArray, List.set_cons_zero, List.set_cons_succ, i64_w, i32_w]
                  rfl
                refine pure_ (i := 22) (N := some 53) (v := ?_) (a' := ?_) #[true, true, true, true, true, true, true, true, true, true, true, true, true, true, true, true, true, true, true, true, true, true, true, false, false, false, false] rfl rfl (any_of HT_.out (by kernel_rfl)) (fun _ _ _ h => h) (Or.inl ⟨by rfl, ?_⟩) ?_ ?_
                rotate_left
                · intro w'
                  go_simp
                  with_reducible rfl
                rotate_left
                · simp only [Act.put, List.setIfInBounds_toArray, List.set_cons_zero, List.set_cons_succ, i64_w, i32_w]
                  rfl
                refine pure_ (i := 23) (N := some 54) (v := ?_) (a' := ?_) #[true, true, true, true, true, true, true, true, true, true, true, true, true, true, true, true, true, true, true, true, true, true, true, true, false, false, false] rfl rfl (any_of HT_.out (by kernel_rfl)) (fun _ _ _ h => h) (Or.inl ⟨by rfl, ?_⟩) ?_ ?_
                rotate_left
                · intro w'
                  go_simp
                  with_reducible rfl
                rotate_left
                · simp only [Act.put, List.setIfInBounds_toArray, List.set_cons_zero, List.set_cons_succ, i64_w, i32_w]
                  rfl
                refine one_ (i := 24) (N := some 11) #[true, true, true, true, true, true, true, true, true, true, true, true, true, true, true, true, true, true, true, true, true, true, true, true, true, false, false] rfl rfl (one_of HT_.out (by kernel_rfl)) (by decide) (fun K hK => ?_)
                refine box_step ?hg (N := 11) ?hd (cs := #[.int .i64 0, .int .i64 0, .int .i64 0, .int .i64 0, .bool false]) (t := 49) ?hr ?_; (case hd => rfl); (case hg => rfl); (case hr => first | (go_simp; done) | (go_simp; rfl))
                intro gb547 hg w21 hbox hb
                have n0_ := Aside0.mk (blk_below (g := gb536) (o := .cells #[.int .i64 x537000_1, .int .i64 x537001_1, .int .i64 x537002_1, .int .i64 x537003_1, .bool x537004_1] 49 (0, 0)) (by (with_reducible repeat (first | refine blk_drewN ?_ _ | refine blk_drew ?_ | refine blk_alloc ?_ _)); exact BK536.out) hb)
                have n1_ := Aside0.mk (below_step (by repeat (first | (with_reducible first | exact HB.out | apply below_alloc | apply pw_below_drewN | apply below_drew1 | refine below_set ?_ GE536.out) | exact HB.out)) hb)
                have n2_ := Aside0.mk (hbox)
                have n3_ := Aside0.mk ((by rw [hg]; exact (below_size (by repeat (first | (with_reducible first | exact HB.out | apply below_alloc | apply pw_below_drewN | apply below_drew1 | refine below_set ?_ GE536.out) | exact HB.out))) : w.heap.size ≤ gb547))
                have n4_ := Aside0.mk ((by rw [hg]; exact (below_size (by repeat (first | (with_reducible first | exact HB.out | apply below_alloc | apply pw_below_drewN | apply below_drew1 | refine below_set ?_ GE536.out) | exact HB.out))) : w.heap.size ≤ gb547))
                have n5_ := Aside0.mk ((by rw [hg]; exact Nat.ne_of_lt (blk_lt (g := gb536) (o := .cells #[.int .i64 x537000_1, .int .i64 x537001_1, .int .i64 x537002_1, .int .i64 x537003_1, .bool x537004_1] 49 (0, 0)) (by (with_reducible repeat (first | refine blk_drewN ?_ _ | refine blk_drew ?_ | refine blk_alloc ?_ _)); exact BK536.out)) : gb536 ≠ gb547))
                have n6_ := Aside0.mk ((by rw [hg]; exact Nat.ne_of_gt (blk_lt (g := gb536) (o := .cells #[.int .i64 x537000_1, .int .i64 x537001_1, .int .i64 x537002_1, .int .i64 x537003_1, .bool x537004_1] 49 (0, 0)) (by (with_reducible repeat (first | refine blk_drewN ?_ _ | refine blk_drew ?_ | refine blk_alloc ?_ _)); exact BK536.out)) : gb547 ≠ gb536))
                clear BK536
                clear HB
                have BK536 := n0_
                have HB := n1_
                have BK547 := n2_
                have GW547 := n3_
                have GE547 := n4_
                have NB536_547 := n5_
                have NB547_536 := n6_
                clear n0_ n1_ n2_ n3_ n4_ n5_ n6_
                clear hb hbox hg
                refine hK.out _ _ ⟨(blk_cell BK536.out 0).trans rfl, (blk_cell BK536.out 1).trans rfl, (blk_cell BK536.out 2).trans rfl, (blk_cell BK536.out 3).trans rfl, (blk_cell BK536.out 4).trans rfl, ((HB.out.cell (World.block_lt_of_cell? w _ hw538_0)).trans hw538_0), ((HB.out.cell (World.block_lt_of_cell? w _ hw538_1)).trans hw538_1), ((HB.out.cell (World.block_lt_of_cell? w _ hw538_2)).trans hw538_2), ((HB.out.cell (World.block_lt_of_cell? w _ hw539_0)).trans hw539_0), ((HB.out.cell (World.block_lt_of_cell? w _ hw539_1)).trans hw539_1), ((HB.out.cell (World.block_lt_of_cell? w _ hw539_2)).trans hw539_2), ((HB.out.cell (World.block_lt_of_cell? w _ hw540_0)).trans hw540_0), ((HB.out.cell (World.block_lt_of_cell? w _ hw540_1)).trans hw540_1), ((HB.out.cell (World.block_lt_of_cell? w _ hw540_2)).trans hw540_2)⟩ (fun hHeld => ?_)
                clear hK K
                refine norm_ (a' := ?_) ?_ ?_
                rotate_left
                · show Act.put _ (some 11) _ = _
                  simp only [Act.put, List.setIfInBounds_toArray, List.set_cons_zero, List.set_cons_succ, i64_w, i32_w]
                  rfl
                exact norm_ (by simp only [putAll, Act.put, List.setIfInBounds_toArray, List.set_cons_zero, List.set_cons_succ]) (hCont (gb547) _ ⟨hHeld, (by (with_reducible repeat (first | refine blk_drewN ?_ _ | refine blk_drew ?_ | refine blk_alloc ?_ _)); exact BK536.out), (by (with_reducible repeat (first | refine blk_drewN ?_ _ | refine blk_drew ?_ | refine blk_alloc ?_ _)); exact BK547.out), GW547.out, GE547.out, NB536_547.out, NB547_536.out, (by repeat (first | (with_reducible first | exact HB.out | apply below_alloc | apply pw_below_drewN | apply below_drew1 | refine below_set ?_ GE536.out | refine below_set ?_ GE547.out) | exact HB.out))⟩)
              · skip
                refine box_step ?hg (N := 11) ?hd (cs := #[.int .i64 0, .int .i64 0, .int .i64 0, .int .i64 0, .bool false]) (t := 49) ?hr ?_; (case hd => rfl); (case hg => rfl); (case hr => first | (go_simp; done) | (go_simp; rfl))
                intro gb547 hg w20 hbox hb
                have n0_ := Aside0.mk (blk_below (g := gb536) (o := .cells #[.int .i64 x537000_1, .int .i64 x537001_1, .int .i64 x537002_1, .int .i64 x537003_1, .bool x537004_1] 49 (0, 0)) (by (with_reducible repeat (first | refine blk_drewN ?_ _ | refine blk_drew ?_ | refine blk_alloc ?_ _)); exact BK536.out) hb)
                have n1_ := Aside0.mk (below_step (by repeat (first | (with_reducible first | exact HB.out | apply below_alloc | apply pw_below_drewN | apply below_drew1 | refine below_set ?_ GE536.out) | exact HB.out)) hb)
                have n2_ := Aside0.mk (hbox)
                have n3_ := Aside0.mk ((by rw [hg]; exact (below_size (by repeat (first | (with_reducible first | exact HB.out | apply below_alloc | apply pw_below_drewN | apply below_drew1 | refine below_set ?_ GE536.out) | exact HB.out))) : w.heap.size ≤ gb547))
                have n4_ := Aside0.mk ((by rw [hg]; exact (below_size (by repeat (first | (with_reducible first | exact HB.out | apply below_alloc | apply pw_below_drewN | apply below_drew1 | refine below_set ?_ GE536.out) | exact HB.out))) : w.heap.size ≤ gb547))
                have n5_ := Aside0.mk ((by rw [hg]; exact Nat.ne_of_lt (blk_lt (g := gb536) (o := .cells #[.int .i64 x537000_1, .int .i64 x537001_1, .int .i64 x537002_1, .int .i64 x537003_1, .bool x537004_1] 49 (0, 0)) (by (with_reducible repeat (first | refine blk_drewN ?_ _ | refine blk_drew ?_ | refine blk_alloc ?_ _)); exact BK536.out)) : gb536 ≠ gb547))
                have n6_ := Aside0.mk ((by rw [hg]; exact Nat.ne_of_gt (blk_lt (g := gb536) (o := .cells #[.int .i64 x537000_1, .int .i64 x537001_1, .int .i64 x537002_1, .int .i64 x537003_1, .bool x537004_1] 49 (0, 0)) (by (with_reducible repeat (first | refine blk_drewN ?_ _ | refine blk_drew ?_ | refine blk_alloc ?_ _)); exact BK536.out)) : gb547 ≠ gb536))
                clear BK536
                clear HB
                have BK536 := n0_
                have HB := n1_
                have BK547 := n2_
                have GW547 := n3_
                have GE547 := n4_
                have NB536_547 := n5_
                have NB547_536 := n6_
                clear n0_ n1_ n2_ n3_ n4_ n5_ n6_
                clear hb hbox hg
                refine hK.out _ _ ⟨(blk_cell BK536.out 0).trans rfl, (blk_cell BK536.out 1).trans rfl, (blk_cell BK536.out 2).trans rfl, (blk_cell BK536.out 3).trans rfl, (blk_cell BK536.out 4).trans rfl, ((HB.out.cell (World.block_lt_of_cell? w _ hw538_0)).trans hw538_0), ((HB.out.cell (World.block_lt_of_cell? w _ hw538_1)).trans hw538_1), ((HB.out.cell (World.block_lt_of_cell? w _ hw538_2)).trans hw538_2), ((HB.out.cell (World.block_lt_of_cell? w _ hw539_0)).trans hw539_0), ((HB.out.cell (World.block_lt_of_cell? w _ hw539_1)).trans hw539_1), ((HB.out.cell (World.block_lt_of_cell? w _ hw539_2)).trans hw539_2), ((HB.out.cell (World.block_lt_of_cell? w _ hw540_0)).trans hw540_0), ((HB.out.cell (World.block_lt_of_cell? w _ hw540_1)).trans hw540_1), ((HB.out.cell (World.block_lt_of_cell? w _ hw540_2)).trans hw540_2)⟩ (fun hHeld => ?_)
                clear hK K
                refine norm_ (a' := ?_) ?_ ?_
                rotate_left
                · show Act.put _ (some 11) _ = _
                  simp only [Act.put, List.setIfInBounds_toArray, List.set_cons_zero, List.set_cons_succ, i64_w, i32_w]
                  rfl
                refine one_ (i := 20) (N := some 52) #[true, true, true, true, true, true, true, true, true, true, true, true, true, true, true, true, true, true, true, true, true, false, false, false, true, false, false] rfl rfl (one_of HT_.out (by kernel_rfl)) (by decide) (fun K hK => ?_)
                refine goes_ Try.func32 (by kernel_rfl) rfl #[.agg #[.int .i64 x537000_1, .int .i64 x537001_1, .int .i64 x537002_1, .int .i64 x537003_1, .bool x537004_1], .int .i64 (Int.tmod (wrap64 ((rd_T54 l1 x9_1).f0)) 4), .int .i64 (wrap64 ((rd_T54 l1 x9_1).f1)), .int .i64 (wrap64 ((rd_T54 l1 x9_1).f2))] (by rfl) rfl rfl (by (try simp only [List.map_toArray, List.map_cons, List.map_nil]); first | done | rfl | (simp only [List.length_drop, List.length_take]; rfl)) ?_
                with_reducible refine (servo_Step.calls x537000_1 x537001_1 x537002_1 x537003_1 x537004_1 (Int.tmod (wrap64 ((rd_T54 l1 x9_1).f0)) 4) (wrap64 ((rd_T54 l1 x9_1).f1)) (wrap64 ((rd_T54 l1 x9_1).f2)) t541 t542 t543 t544 t545 t546 _ A15.out).mono ?_
                rintro e w21 ⟨rfl, hb⟩
                refine ⟨_, rfl, ?_⟩
                have n0_ := Aside0.mk (blk_below (g := gb536) (o := .cells #[.int .i64 x537000_1, .int .i64 x537001_1, .int .i64 x537002_1, .int .i64 x537003_1, .bool x537004_1] 49 (0, 0)) (by (with_reducible repeat (first | refine blk_drewN ?_ _ | refine blk_drew ?_ | refine blk_alloc ?_ _)); exact BK536.out) hb)
                have n1_ := Aside0.mk (blk_below (g := gb547) (o := .cells #[.int .i64 0, .int .i64 0, .int .i64 0, .int .i64 0, .bool false] 49 (0, 0)) (by (with_reducible repeat (first | refine blk_drewN ?_ _ | refine blk_drew ?_ | refine blk_alloc ?_ _)); exact BK547.out) hb)
                have n2_ := Aside0.mk (below_step (by repeat (first | (with_reducible first | exact HB.out | apply below_alloc | apply pw_below_drewN | apply below_drew1 | refine below_set ?_ GE536.out | refine below_set ?_ GE547.out) | exact HB.out)) hb)
                clear BK536
                clear BK547
                clear HB
                have BK536 := n0_
                have BK547 := n1_
                have HB := n2_
                clear n0_ n1_ n2_
                (try clear hb)
                (try clear hb2)
                (try clear hk)
                (try clear hi)
                refine hK.out _ _ ⟨(blk_cell BK536.out 0).trans rfl, (blk_cell BK536.out 1).trans rfl, (blk_cell BK536.out 2).trans rfl, (blk_cell BK536.out 3).trans rfl, (blk_cell BK536.out 4).trans rfl, ((HB.out.cell (World.block_lt_of_cell? w _ hw538_0)).trans hw538_0), ((HB.out.cell (World.block_lt_of_cell? w _ hw538_1)).trans hw538_1), ((HB.out.cell (World.block_lt_of_cell? w _ hw538_2)).trans hw538_2), ((HB.out.cell (World.block_lt_of_cell? w _ hw539_0)).trans hw539_0), ((HB.out.cell (World.block_lt_of_cell? w _ hw539_1)).trans hw539_1), ((HB.out.cell (World.block_lt_of_cell? w _ hw539_2)).trans hw539_2), ((HB.out.cell (World.block_lt_of_cell? w _ hw540_0)).trans hw540_0), ((HB.out.cell (World.block_lt_of_cell? w _ hw540_1)).trans hw540_1), ((HB.out.cell (World.block_lt_of_cell? w _ hw540_2)).trans hw540_2)⟩ (fun hHeld => ?_)
                clear hK K
                refine norm_ (a' := ?_) ?_ ?_
                rotate_left
                · show Act.put _ (some 52) _ = _
                  simp only [Act.put, List.setIfInBounds_toArray, List.set_cons_zero, List.set_cons_succ, i64_w, i32_w]
                  rfl
                refine pure_ (i := 21) (N := some 31) (v := ?_) (a' := ?_) #[true, true, true, true, true, true, true, true, true, true, true, true, true, true, true, true, true, true, true, true, true, true, false, false, true, false, false] rfl rfl (any_of HT_.out (by kernel_rfl)) (fun _ _ _ h => h) (Or.inl ⟨by rfl, ?_⟩) ?_ ?_
                rotate_left
                · intro w'
                  go_simp
                  with_reducible rfl
                rotate_left
                · simp only [Act.put, List.setIfInBounds_toArray, List.set_cons_zero, List.set_cons_succ, i64_w, i32_w]
                  rfl
                refine pure_ (i := 22) (N := some 53) (v := ?_) (a' := ?_) #[true, true, true, true, true, true, true, true, true, true, true, true, true, true, true, true, true, true, true, true, true, true, true, false, true, false, false] rfl rfl (any_of HT_.out (by kernel_rfl)) (fun _ _ _ h => h) (Or.inl ⟨by rfl, ?_⟩) ?_ ?_
                rotate_left
                · intro w'
                  go_simp
                  with_reducible rfl
                rotate_left
                · simp only [Act.put, List.setIfInBounds_toArray, List.set_cons_zero, List.set_cons_succ, i64_w, i32_w]
                  rfl
                refine pure_ (i := 23) (N := some 54) (v := ?_) (a' := ?_) #[true, true, true, true, true, true, true, true, true, true, true, true, true, true, true, true, true, true, true, true, true, true, true, true, true, false, false] rfl rfl (any_of HT_.out (by kernel_rfl)) (fun _ _ _ h => h) (Or.inl ⟨by rfl, ?_⟩) ?_ ?_
                rotate_left
                · intro w'
                  go_simp
                  with_reducible rfl
                rotate_left
                · simp only [Act.put, List.setIfInBounds_toArray, List.set_cons_zero, List.set_cons_succ, i64_w, i32_w]
                  rfl
                exact norm_ (by simp only [putAll, Act.put, List.setIfInBounds_toArray, List.set_cons_zero, List.set_cons_succ]) (hCont (gb547) _ ⟨hHeld, (by (with_reducible repeat (first | refine blk_drewN ?_ _ | refine blk_drew ?_ | refine blk_alloc ?_ _)); exact BK536.out), (by (with_reducible repeat (first | refine blk_drewN ?_ _ | refine blk_drew ?_ | refine blk_alloc ?_ _)); exact BK547.out), GW547.out, GE547.out, NB536_547.out, NB547_536.out, (by repeat (first | (with_reducible first | exact HB.out | apply below_alloc | apply pw_below_drewN | apply below_drew1 | refine below_set ?_ GE536.out | refine below_set ?_ GE547.out) | exact HB.out))⟩)
            rintro gb547 w22 ⟨hS_, h0_, h1_, h2_, h3_, h4_, h5_, h6_⟩
            have n0_ : Aside0 (w22.heap[gb536]? = some (.cells #[.int .i64 x537000_1, .int .i64 x537001_1, .int .i64 x537002_1, .int .i64 x537003_1, .bool x537004_1] 49 (0, 0))) := ⟨h0_⟩
            have n1_ : Aside0 (w22.heap[gb547]? = some (.cells #[.int .i64 0, .int .i64 0, .int .i64 0, .int .i64 0, .bool false] 49 (0, 0))) := ⟨h1_⟩
            have n2_ : Aside0 (w.heap.size ≤ gb547) := ⟨h2_⟩
            have n3_ : Aside0 (w.heap.size ≤ gb547) := ⟨h3_⟩
            have n4_ : Aside0 (gb536 ≠ gb547) := ⟨h4_⟩
            have n5_ : Aside0 (gb547 ≠ gb536) := ⟨h5_⟩
            have n6_ : Aside0 (Below w.heap.size w w22) := ⟨h6_⟩
            clear BK536
            clear HB
            clear h0_ h1_ h2_ h3_ h4_ h5_ h6_
            have BK536 := n0_
            have BK547 := n1_
            have GW547 := n2_
            have GE547 := n3_
            have NB536_547 := n4_
            have NB547_536 := n5_
            have HB := n6_
            clear n0_ n1_ n2_ n3_ n4_ n5_ n6_
            have hHeld : w22.cell? ⟨gb536, 0, none⟩ = some (.int .i64 x537000_1) ∧ w22.cell? ⟨gb536, 1, none⟩ = some (.int .i64 x537001_1) ∧ w22.cell? ⟨gb536, 2, none⟩ = some (.int .i64 x537002_1) ∧ w22.cell? ⟨gb536, 3, none⟩ = some (.int .i64 x537003_1) ∧ w22.cell? ⟨gb536, 4, none⟩ = some (.bool x537004_1) ∧ w22.cell? (ad538.add ((x9_1).toNat * 3)) = some (.int .u8 ((rd_T54 l1 x9_1).f0)) ∧ w22.cell? ⟨(ad538.add ((x9_1).toNat * 3)).block, (ad538.add ((x9_1).toNat * 3)).off + 1, none⟩ = some (.int .i16 ((rd_T54 l1 x9_1).f1)) ∧ w22.cell? ⟨(ad538.add ((x9_1).toNat * 3)).block, (ad538.add ((x9_1).toNat * 3)).off + 2, none⟩ = some (.int .i16 ((rd_T54 l1 x9_1).f2)) ∧ w22.cell? (ad538.add ((x9_1).toNat * 3)) = some (.int .u8 ((rd_T54 l1 x9_1).f0)) ∧ w22.cell? ⟨(ad538.add ((x9_1).toNat * 3)).block, (ad538.add ((x9_1).toNat * 3)).off + 1, none⟩ = some (.int .i16 ((rd_T54 l1 x9_1).f1)) ∧ w22.cell? ⟨(ad538.add ((x9_1).toNat * 3)).block, (ad538.add ((x9_1).toNat * 3)).off + 2, none⟩ = some (.int .i16 ((rd_T54 l1 x9_1).f2)) ∧ w22.cell? (ad538.add ((x9_1).toNat * 3)) = some (.int .u8 ((rd_T54 l1 x9_1).f0)) ∧ w22.cell? ⟨(ad538.add ((x9_1).toNat * 3)).block, (ad538.add ((x9_1).toNat * 3)).off + 1, none⟩ = some (.int .i16 ((rd_T54 l1 x9_1).f1)) ∧ w22.cell? ⟨(ad538.add ((x9_1).toNat * 3)).block, (ad538.add ((x9_1).toNat * 3)).off + 2, none⟩ = some (.int .i16 ((rd_T54 l1 x9_1).f2)) := hS_
            refine norm_ (a' := ?_) ?_ ?_
            rotate_left
            · simp only [putAll, Act.put, List.setIfInBounds_toArray, List.set_cons_zero, List.set_cons_succ]
              rfl
            refine one_ (i := 25) (N := none) #[true, true, true, true, true, true, true, true, true, true, true, true, true, true, true, true, true, true, true, true, true, true, true, true, true, true, false] rfl rfl (one_of HT_.out (by kernel_rfl)) (by decide) (fun K hK => ?_)
            have hs23 : w22.cell? ⟨gb547, 0, none⟩ = some (.int .i64 0) := (blk_cell BK547.out 0).trans rfl
            have hfs23 := blk_frozen BK547.out 0
            have hns23_0 := NB536_547.out
            have hms23_0 := NB547_536.out
            have hs24 : w22.cell? ⟨gb547, 1, none⟩ = some (.int .i64 0) := (blk_cell BK547.out 1).trans rfl
            have hfs24 := blk_frozen BK547.out 1
            have hns24_0 := NB536_547.out
            have hms24_0 := NB547_536.out
            have hs25 : w22.cell? ⟨gb547, 2, none⟩ = some (.int .i64 0) := (blk_cell BK547.out 2).trans rfl
            have hfs25 := blk_frozen BK547.out 2
            have hns25_0 := NB536_547.out
            have hms25_0 := NB547_536.out
            have hs26 : w22.cell? ⟨gb547, 3, none⟩ = some (.int .i64 0) := (blk_cell BK547.out 3).trans rfl
            have hfs26 := blk_frozen BK547.out 3
            have hns26_0 := NB536_547.out
            have hms26_0 := NB547_536.out
            have hs27 : w22.cell? ⟨gb547, 4, none⟩ = some (.bool false) := (blk_cell BK547.out 4).trans rfl
            have hfs27 := blk_frozen BK547.out 4
            have hns27_0 := NB536_547.out
            have hms27_0 := NB547_536.out
            refine skip_ (w1 := ?_) (by rfl) rfl ?_ ?_
            rotate_left
            · go_simp
              rfl
            refine hK.out _ _ ⟨((cell_far (p := ⟨gb547, _, none⟩) NB536_547.out _).trans (((cell_far (p := ⟨gb547, _, none⟩) NB536_547.out _).trans (((cell_far (p := ⟨gb547, _, none⟩) NB536_547.out _).trans (((cell_far (p := ⟨gb547, _, none⟩) NB536_547.out _).trans (((cell_far (p := ⟨gb547, _, none⟩) NB536_547.out _).trans (hHeld.1)))))))))), ((cell_far (p := ⟨gb547, _, none⟩) NB536_547.out _).trans (((cell_far (p := ⟨gb547, _, none⟩) NB536_547.out _).trans (((cell_far (p := ⟨gb547, _, none⟩) NB536_547.out _).trans (((cell_far (p := ⟨gb547, _, none⟩) NB536_547.out _).trans (((cell_far (p := ⟨gb547, _, none⟩) NB536_547.out _).trans (hHeld.2.1)))))))))), ((cell_far (p := ⟨gb547, _, none⟩) NB536_547.out _).trans (((cell_far (p := ⟨gb547, _, none⟩) NB536_547.out _).trans (((cell_far (p := ⟨gb547, _, none⟩) NB536_547.out _).trans (((cell_far (p := ⟨gb547, _, none⟩) NB536_547.out _).trans (((cell_far (p := ⟨gb547, _, none⟩) NB536_547.out _).trans (hHeld.2.2.1)))))))))), ((cell_far (p := ⟨gb547, _, none⟩) NB536_547.out _).trans (((cell_far (p := ⟨gb547, _, none⟩) NB536_547.out _).trans (((cell_far (p := ⟨gb547, _, none⟩) NB536_547.out _).trans (((cell_far (p := ⟨gb547, _, none⟩) NB536_547.out _).trans (((cell_far (p := ⟨gb547, _, none⟩) NB536_547.out _).trans (hHeld.2.2.2.1)))))))))), ((cell_far (p := ⟨gb547, _, none⟩) NB536_547.out _).trans (((cell_far (p := ⟨gb547, _, none⟩) NB536_547.out _).trans (((cell_far (p := ⟨gb547, _, none⟩) NB536_547.out _).trans (((cell_far (p := ⟨gb547, _, none⟩) NB536_547.out _).trans (((cell_far (p := ⟨gb547, _, none⟩) NB536_547.out _).trans (hHeld.2.2.2.2.1)))))))))), ((cell_far (p := ⟨gb547, _, none⟩) (by first | exact Nat.ne_of_lt (Nat.lt_of_lt_of_le (by have := World.block_lt_of_cell? _ _ hw538_0; first | rwa [add_block] at this | exact this) GW547.out) | (rw [add_block]; exact Nat.ne_of_lt (Nat.lt_of_lt_of_le (by have := World.block_lt_of_cell? _ _ hw538_0; first | rwa [add_block] at this | exact this) GW547.out)) | (show (Addr.add _ _).block ≠ _; rw [add_block]; exact Nat.ne_of_lt (Nat.lt_of_lt_of_le (by have := World.block_lt_of_cell? _ _ hw538_0; first | rwa [add_block] at this | exact this) GW547.out)) | (dsimp only; exact Nat.ne_of_lt (Nat.lt_of_lt_of_le (by have := World.block_lt_of_cell? _ _ hw538_0; first | rwa [add_block] at this | exact this) GW547.out))) _).trans (((cell_far (p := ⟨gb547, _, none⟩) (by first | exact Nat.ne_of_lt (Nat.lt_of_lt_of_le (by have := World.block_lt_of_cell? _ _ hw538_0; first | rwa [add_block] at this | exact this) GW547.out) | (rw [add_block]; exact Nat.ne_of_lt (Nat.lt_of_lt_of_le (by have := World.block_lt_of_cell? _ _ hw538_0; first | rwa [add_block] at this | exact this) GW547.out)) | (show (Addr.add _ _).block ≠ _; rw [add_block]; exact Nat.ne_of_lt (Nat.lt_of_lt_of_le (by have := World.block_lt_of_cell? _ _ hw538_0; first | rwa [add_block] at this | exact this) GW547.out)) | (dsimp only; exact Nat.ne_of_lt (Nat.lt_of_lt_of_le (by have := World.block_lt_of_cell? _ _ hw538_0; first | rwa [add_block] at this | exact this) GW547.out))) _).trans (((cell_far (p := ⟨gb547, _, none⟩) (by first | exact Nat.ne_of_lt (Nat.lt_of_lt_of_le (by have := World.block_lt_of_cell? _ _ hw538_0; first | rwa [add_block] at this | exact this) GW547.out) | (rw [add_block]; exact Nat.ne_of_lt (Nat.lt_of_lt_of_le (by have := World.block_lt_of_cell? _ _ hw538_0; first | rwa [add_block] at this | exact this) GW547.out)) | (show (Addr.add _ _).block ≠ _; rw [add_block]; exact Nat.ne_of_lt (Nat.lt_of_lt_of_le (by have := World.block_lt_of_cell? _ _ hw538_0; first | rwa [add_block] at this | exact this) GW547.out)) | (dsimp only; exact Nat.ne_of_lt (Nat.lt_of_lt_of_le (by have := World.block_lt_of_cell? _ _ hw538_0; first | rwa [add_block] at this | exact this) GW547.out))) _).trans (((cell_far (p := ⟨gb547, _, none⟩) (by first | exact Nat.ne_of_lt (Nat.lt_of_lt_of_le (by have := World.block_lt_of_cell? _ _ hw538_0; first | rwa [add_block] at this | exact this) GW547.out) | (rw [add_block]; exact Nat.ne_of_lt (Nat.lt_of_lt_of_le (by have := World.block_lt_of_cell? _ _ hw538_0; first | rwa [add_block] at this | exact this) GW547.out)) | (show (Addr.add _ _).block ≠ _; rw [add_block]; exact Nat.ne_of_lt (Nat.lt_of_lt_of_le (by have := World.block_lt_of_cell? _ _ hw538_0; first | rwa [add_block] at this | exact this) GW547.out)) | (dsimp only; exact Nat.ne_of_lt (Nat.lt_of_lt_of_le (by have := World.block_lt_of_cell? _ _ hw538_0; first | rwa [add_block] at this | exact this) GW547.out))) _).trans (((cell_far (p := ⟨gb547, _, none⟩) (by first | exact Nat.ne_of_lt (Nat.lt_of_lt_of_le (by have := World.block_lt_of_cell? _ _ hw538_0; first | rwa [add_block] at this | exact this) GW547.out) | (rw [add_block]; exact Nat.ne_of_lt (Nat.lt_of_lt_of_le (by have := World.block_lt_of_cell? _ _ hw538_0; first | rwa [add_block] at this | exact this) GW547.out)) | (show (Addr.add _ _).block ≠ _; rw [add_block]; exact Nat.ne_of_lt (Nat.lt_of_lt_of_le (by have := World.block_lt_of_cell? _ _ hw538_0; first | rwa [add_block] at this | exact this) GW547.out)) | (dsimp only; exact Nat.ne_of_lt (Nat.lt_of_lt_of_le (by have := World.block_lt_of_cell? _ _ hw538_0; first | rwa [add_block] at this | exact this) GW547.out))) _).trans (hHeld.2.2.2.2.2.1)))))))))), ((cell_far (p := ⟨gb547, _, none⟩) (by first | exact Nat.ne_of_lt (Nat.lt_of_lt_of_le (by have := World.block_lt_of_cell? _ _ hw538_1; first | rwa [add_block] at this | exact this) GW547.out) | (rw [add_block]; exact Nat.ne_of_lt (Nat.lt_of_lt_of_le (by have := World.block_lt_of_cell? _ _ hw538_1; first | rwa [add_block] at this | exact this) GW547.out)) | (show (Addr.add _ _).block ≠ _; rw [add_block]; exact Nat.ne_of_lt (Nat.lt_of_lt_of_le (by have := World.block_lt_of_cell? _ _ hw538_1; first | rwa [add_block] at this | exact this) GW547.out)) | (dsimp only; exact Nat.ne_of_lt (Nat.lt_of_lt_of_le (by have := World.block_lt_of_cell? _ _ hw538_1; first | rwa [add_block] at this | exact this) GW547.out))) _).trans (((cell_far (p := ⟨gb547, _, none⟩) (by first | exact Nat.ne_of_lt (Nat.lt_of_lt_of_le (by have := World.block_lt_of_cell? _ _ hw538_1; first | rwa [add_block] at this | exact this) GW547.out) | (rw [add_block]; exact Nat.ne_of_lt (Nat.lt_of_lt_of_le (by have := World.block_lt_of_cell? _ _ hw538_1; first | rwa [add_block] at this | exact this) GW547.out)) | (show (Addr.add _ _).block ≠ _; rw [add_block]; exact Nat.ne_of_lt (Nat.lt_of_lt_of_le (by have := World.block_lt_of_cell? _ _ hw538_1; first | rwa [add_block] at this | exact this) GW547.out)) | (dsimp only; exact Nat.ne_of_lt (Nat.lt_of_lt_of_le (by have := World.block_lt_of_cell? _ _ hw538_1; first | rwa [add_block] at this | exact this) GW547.out))) _).trans (((cell_far (p := ⟨gb547, _, none⟩) (by first | exact Nat.ne_of_lt (Nat.lt_of_lt_of_le (by have := World.block_lt_of_cell? _ _ hw538_1; first | rwa [add_block] at this | exact this) GW547.out) | (rw [add_block]; exact Nat.ne_of_lt (Nat.lt_of_lt_of_le (by have := World.block_lt_of_cell? _ _ hw538_1; first | rwa [add_block] at this | exact this) GW547.out)) | (show (Addr.add _ _).block ≠ _; rw [add_block]; exact Nat.ne_of_lt (Nat.lt_of_lt_of_le (by have := World.block_lt_of_cell? _ _ hw538_1; first | rwa [add_block] at this | exact this) GW547.out)) | (dsimp only; exact Nat.ne_of_lt (Nat.lt_of_lt_of_le (by have := World.block_lt_of_cell? _ _ hw538_1; first | rwa [add_block] at this | exact this) GW547.out))) _).trans (((cell_far (p := ⟨gb547, _, none⟩) (by first | exact Nat.ne_of_lt (Nat.lt_of_lt_of_le (by have := World.block_lt_of_cell? _ _ hw538_1; first | rwa [add_block] at this | exact this) GW547.out) | (rw [add_block]; exact Nat.ne_of_lt (Nat.lt_of_lt_of_le (by have := World.block_lt_of_cell? _ _ hw538_1; first | rwa [add_block] at this | exact this) GW547.out)) | (show (Addr.add _ _).block ≠ _; rw [add_block]; exact Nat.ne_of_lt (Nat.lt_of_lt_of_le (by have := World.block_lt_of_cell? _ _ hw538_1; first | rwa [add_block] at this | exact this) GW547.out)) | (dsimp only; exact Nat.ne_of_lt (Nat.lt_of_lt_of_le (by have := World.block_lt_of_cell? _ _ hw538_1; first | rwa [add_block] at this | exact this) GW547.out))) _).trans (((cell_far (p := ⟨gb547, _, none⟩) (by first | exact Nat.ne_of_lt (Nat.lt_of_lt_of_le (by have := World.block_lt_of_cell? _ _ hw538_1; first | rwa [add_block] at this | exact this) GW547.out) | (rw [add_block]; exact Nat.ne_of_lt (Nat.lt_of_lt_of_le (by have := World.block_lt_of_cell? _ _ hw538_1; first | rwa [add_block] at this | exact this) GW547.out)) | (show (Addr.add _ _).block ≠ _; rw [add_block]; exact Nat.ne_of_lt (Nat.lt_of_lt_of_le (by have := World.block_lt_of_cell? _ _ hw538_1; first | rwa [add_block] at this | exact this) GW547.out)) | (dsimp only; exact Nat.ne_of_lt (Nat.lt_of_lt_of_le (by have := World.block_lt_of_cell? _ _ hw538_1; first | rwa [add_block] at this | exact this) GW547.out))) _).trans (hHeld.2.2.2.2.2.2.1)))))))))), ((cell_far (p := ⟨gb547, _, none⟩) (by first | exact Nat.ne_of_lt (Nat.lt_of_lt_of_le (by have := World.block_lt_of_cell? _ _ hw538_2; first | rwa [add_block] at this | exact this) GW547.out) | (rw [add_block]; exact Nat.ne_of_lt (Nat.lt_of_lt_of_le (by have := World.block_lt_of_cell? _ _ hw538_2; first | rwa [add_block] at this | exact this) GW547.out)) | (show (Addr.add _ _).block ≠ _; rw [add_block]; exact Nat.ne_of_lt (Nat.lt_of_lt_of_le (by have := World.block_lt_of_cell? _ _ hw538_2; first | rwa [add_block] at this | exact this) GW547.out)) | (dsimp only; exact Nat.ne_of_lt (Nat.lt_of_lt_of_le (by have := World.block_lt_of_cell? _ _ hw538_2; first | rwa [add_block] at this | exact this) GW547.out))) _).trans (((cell_far (p := ⟨gb547, _, none⟩) (by first | exact Nat.ne_of_lt (Nat.lt_of_lt_of_le (by have := World.block_lt_of_cell? _ _ hw538_2; first | rwa [add_block] at this | exact this) GW547.out) | (rw [add_block]; exact Nat.ne_of_lt (Nat.lt_of_lt_of_le (by have := World.block_lt_of_cell? _ _ hw538_2; first | rwa [add_block] at this | exact this) GW547.out)) | (show (Addr.add _ _).block ≠ _; rw [add_block]; exact Nat.ne_of_lt (Nat.lt_of_lt_of_le (by have := World.block_lt_of_cell? _ _ hw538_2; first | rwa [add_block] at this | exact this) GW547.out)) | (dsimp only; exact Nat.ne_of_lt (Nat.lt_of_lt_of_le (by have := World.block_lt_of_cell? _ _ hw538_2; first | rwa [add_block] at this | exact this) GW547.out))) _).trans (((cell_far (p := ⟨gb547, _, none⟩) (by first | exact Nat.ne_of_lt (Nat.lt_of_lt_of_le (by have := World.block_lt_of_cell? _ _ hw538_2; first | rwa [add_block] at this | exact this) GW547.out) | (rw [add_block]; exact Nat.ne_of_lt (Nat.lt_of_lt_of_le (by have := World.block_lt_of_cell? _ _ hw538_2; first | rwa [add_block] at this | exact this) GW547.out)) | (show (Addr.add _ _).block ≠ _; rw [add_block]; exact Nat.ne_of_lt (Nat.lt_of_lt_of_le (by have := World.block_lt_of_cell? _ _ hw538_2; first | rwa [add_block] at this | exact this) GW547.out)) | (dsimp only; exact Nat.ne_of_lt (Nat.lt_of_lt_of_le (by have := World.block_lt_of_cell? _ _ hw538_2; first | rwa [add_block] at this | exact this) GW547.out))) _).trans (((cell_far (p := ⟨gb547, _, none⟩) (by first | exact Nat.ne_of_lt (Nat.lt_of_lt_of_le (by have := World.block_lt_of_cell? _ _ hw538_2; first | rwa [add_block] at this | exact this) GW547.out) | (rw [add_block]; exact Nat.ne_of_lt (Nat.lt_of_lt_of_le (by have := World.block_lt_of_cell? _ _ hw538_2; first | rwa [add_block] at this | exact this) GW547.out)) | (show (Addr.add _ _).block ≠ _; rw [add_block]; exact Nat.ne_of_lt (Nat.lt_of_lt_of_le (by have := World.block_lt_of_cell? _ _ hw538_2; first | rwa [add_block] at this | exact this) GW547.out)) | (dsimp only; exact Nat.ne_of_lt (Nat.lt_of_lt_of_le (by have := World.block_lt_of_cell? _ _ hw538_2; first | rwa [add_block] at this | exact this) GW547.out))) _).trans (((cell_far (p := ⟨gb547, _, none⟩) (by first | exact Nat.ne_of_lt (Nat.lt_of_lt_of_le (by have := World.block_lt_of_cell? _ _ hw538_2; first | rwa [add_block] at this | exact this) GW547.out) | (rw [add_block]; exact Nat.ne_of_lt (Nat.lt_of_lt_of_le (by have := World.block_lt_of_cell? _ _ hw538_2; first | rwa [add_block] at this | exact this) GW547.out)) | (show (Addr.add _ _).block ≠ _; rw [add_block]; exact Nat.ne_of_lt (Nat.lt_of_lt_of_le (by have := World.block_lt_of_cell? _ _ hw538_2; first | rwa [add_block] at this | exact this) GW547.out)) | (dsimp only; exact Nat.ne_of_lt (Nat.lt_of_lt_of_le (by have := World.block_lt_of_cell? _ _ hw538_2; first | rwa [add_block] at this | exact this) GW547.out))) _).trans (hHeld.2.2.2.2.2.2.2.1)))))))))), ((cell_far (p := ⟨gb547, _, none⟩) (by first | exact Nat.ne_of_lt (Nat.lt_of_lt_of_le (by have := World.block_lt_of_cell? _ _ hw539_0; first | rwa [add_block] at this | exact this) GW547.out) | (rw [add_block]; exact Nat.ne_of_lt (Nat.lt_of_lt_of_le (by have := World.block_lt_of_cell? _ _ hw539_0; first | rwa [add_block] at this | exact this) GW547.out)) | (show (Addr.add _ _).block ≠ _; rw [add_block]; exact Nat.ne_of_lt (Nat.lt_of_lt_of_le (by have := World.block_lt_of_cell? _ _ hw539_0; first | rwa [add_block] at this | exact this) GW547.out)) | (dsimp only; exact Nat.ne_of_lt (Nat.lt_of_lt_of_le (by have := World.block_lt_of_cell? _ _ hw539_0; first | rwa [add_block] at this | exact this) GW547.out))) _).trans (((cell_far (p := ⟨gb547, _, none⟩) (by first | exact Nat.ne_of_lt (Nat.lt_of_lt_of_le (by have := World.block_lt_of_cell? _ _ hw539_0; first | rwa [add_block] at this | exact this) GW547.out) | (rw [add_block]; exact Nat.ne_of_lt (Nat.lt_of_lt_of_le (by have := World.block_lt_of_cell? _ _ hw539_0; first | rwa [add_block] at this | exact this) GW547.out)) | (show (Addr.add _ _).block ≠ _; rw [add_block]; exact Nat.ne_of_lt (Nat.lt_of_lt_of_le (by have := World.block_lt_of_cell? _ _ hw539_0; first | rwa [add_block] at this | exact this) GW547.out)) | (dsimp only; exact Nat.ne_of_lt (Nat.lt_of_lt_of_le (by have := World.block_lt_of_cell? _ _ hw539_0; first | rwa [add_block] at this | exact this) GW547.out))) _).trans (((cell_far (p := ⟨gb547, _, none⟩) (by first | exact Nat.ne_of_lt (Nat.lt_of_lt_of_le (by have := World.block_lt_of_cell? _ _ hw539_0; first | rwa [add_block] at this | exact this) GW547.out) | (rw [add_block]; exact Nat.ne_of_lt (Nat.lt_of_lt_of_le (by have := World.block_lt_of_cell? _ _ hw539_0; first | rwa [add_block] at this | exact this) GW547.out)) | (show (Addr.add _ _).block ≠ _; rw [add_block]; exact Nat.ne_of_lt (Nat.lt_of_lt_of_le (by have := World.block_lt_of_cell? _ _ hw539_0; first | rwa [add_block] at this | exact this) GW547.out)) | (dsimp only; exact Nat.ne_of_lt (Nat.lt_of_lt_of_le (by have := World.block_lt_of_cell? _ _ hw539_0; first | rwa [add_block] at this | exact this) GW547.out))) _).trans (((cell_far (p := ⟨gb547, _, none⟩) (by first | exact Nat.ne_of_lt (Nat.lt_of_lt_of_le (by have := World.block_lt_of_cell? _ _ hw539_0; first | rwa [add_block] at this | exact this) GW547.out) | (rw [add_block]; exact Nat.ne_of_lt (Nat.lt_of_lt_of_le (by have := World.block_lt_of_cell? _ _ hw539_0; first | rwa [add_block] at this | exact this) GW547.out)) | (show (Addr.add _ _).block ≠ _; rw [add_block]; exact Nat.ne_of_lt (Nat.lt_of_lt_of_le (by have := World.block_lt_of_cell? _ _ hw539_0; first | rwa [add_block] at this | exact this) GW547.out)) | (dsimp only; exact Nat.ne_of_lt (Nat.lt_of_lt_of_le (by have := World.block_lt_of_cell? _ _ hw539_0; first | rwa [add_block] at this | exact this) GW547.out))) _).trans (((cell_far (p := ⟨gb547, _, none⟩) (by first | exact Nat.ne_of_lt (Nat.lt_of_lt_of_le (by have := World.block_lt_of_cell? _ _ hw539_0; first | rwa [add_block] at this | exact this) GW547.out) | (rw [add_block]; exact Nat.ne_of_lt (Nat.lt_of_lt_of_le (by have := World.block_lt_of_cell? _ _ hw539_0; first | rwa [add_block] at this | exact this) GW547.out)) | (show (Addr.add _ _).block ≠ _; rw [add_block]; exact Nat.ne_of_lt (Nat.lt_of_lt_of_le (by have := World.block_lt_of_cell? _ _ hw539_0; first | rwa [add_block] at this | exact this) GW547.out)) | (dsimp only; exact Nat.ne_of_lt (Nat.lt_of_lt_of_le (by have := World.block_lt_of_cell? _ _ hw539_0; first | rwa [add_block] at this | exact this) GW547.out))) _).trans (hHeld.2.2.2.2.2.2.2.2.1)))))))))), ((cell_far (p := ⟨gb547, _, none⟩) (by first | exact Nat.ne_of_lt (Nat.lt_of_lt_of_le (by have := World.block_lt_of_cell? _ _ hw539_1; first | rwa [add_block] at this | exact this) GW547.out) | (rw [add_block]; exact Nat.ne_of_lt (Nat.lt_of_lt_of_le (by have := World.block_lt_of_cell? _ _ hw539_1; first | rwa [add_block] at this | exact this) GW547.out)) | (show (Addr.add _ _).block ≠ _; rw [add_block]; exact Nat.ne_of_lt (Nat.lt_of_lt_of_le (by have := World.block_lt_of_cell? _ _ hw539_1; first | rwa [add_block] at this | exact this) GW547.out)) | (dsimp only; exact Nat.ne_of_lt (Nat.lt_of_lt_of_le (by have := World.block_lt_of_cell? _ _ hw539_1; first | rwa [add_block] at this | exact this) GW547.out))) _).trans (((cell_far (p := ⟨gb547, _, none⟩) (by first | exact Nat.ne_of_lt (Nat.lt_of_lt_of_le (by have := World.block_lt_of_cell? _ _ hw539_1; first | rwa [add_block] at this | exact this) GW547.out) | (rw [add_block]; exact Nat.ne_of_lt (Nat.lt_of_lt_of_le (by have := World.block_lt_of_cell? _ _ hw539_1; first | rwa [add_block] at this | exact this) GW547.out)) | (show (Addr.add _ _).block ≠ _; rw [add_block]; exact Nat.ne_of_lt (Nat.lt_of_lt_of_le (by have := World.block_lt_of_cell? _ _ hw539_1; first | rwa [add_block] at this | exact this) GW547.out)) | (dsimp only; exact Nat.ne_of_lt (Nat.lt_of_lt_of_le (by have := World.block_lt_of_cell? _ _ hw539_1; first | rwa [add_block] at this | exact this) GW547.out))) _).trans (((cell_far (p := ⟨gb547, _, none⟩) (by first | exact Nat.ne_of_lt (Nat.lt_of_lt_of_le (by have := World.block_lt_of_cell? _ _ hw539_1; first | rwa [add_block] at this | exact this) GW547.out) | (rw [add_block]; exact Nat.ne_of_lt (Nat.lt_of_lt_of_le (by have := World.block_lt_of_cell? _ _ hw539_1; first | rwa [add_block] at this | exact this) GW547.out)) | (show (Addr.add _ _).block ≠ _; rw [add_block]; exact Nat.ne_of_lt (Nat.lt_of_lt_of_le (by have := World.block_lt_of_cell? _ _ hw539_1; first | rwa [add_block] at this | exact this) GW547.out)) | (dsimp only; exact Nat.ne_of_lt (Nat.lt_of_lt_of_le (by have := World.block_lt_of_cell? _ _ hw539_1; first | rwa [add_block] at this | exact this) GW547.out))) _).trans (((cell_far (p := ⟨gb547, _, none⟩) (by first | exact Nat.ne_of_lt (Nat.lt_of_lt_of_le (by have := World.block_lt_of_cell? _ _ hw539_1; first | rwa [add_block] at this | exact this) GW547.out) | (rw [add_block]; exact Nat.ne_of_lt (Nat.lt_of_lt_of_le (by have := World.block_lt_of_cell? _ _ hw539_1; first | rwa [add_block] at this | exact this) GW547.out)) | (show (Addr.add _ _).block ≠ _; rw [add_block]; exact Nat.ne_of_lt (Nat.lt_of_lt_of_le (by have := World.block_lt_of_cell? _ _ hw539_1; first | rwa [add_block] at this | exact this) GW547.out)) | (dsimp only; exact Nat.ne_of_lt (Nat.lt_of_lt_of_le (by have := World.block_lt_of_cell? _ _ hw539_1; first | rwa [add_block] at this | exact this) GW547.out))) _).trans (((cell_far (p := ⟨gb547, _, none⟩) (by first | exact Nat.ne_of_lt (Nat.lt_of_lt_of_le (by have := World.block_lt_of_cell? _ _ hw539_1; first | rwa [add_block] at this | exact this) GW547.out) | (rw [add_block]; exact Nat.ne_of_lt (Nat.lt_of_lt_of_le (by have := World.block_lt_of_cell? _ _ hw539_1; first | rwa [add_block] at this | exact this) GW547.out)) | (show (Addr.add _ _).block ≠ _; rw [add_block]; exact Nat.ne_of_lt (Nat.lt_of_lt_of_le (by have := World.block_lt_of_cell? _ _ hw539_1; first | rwa [add_block] at this | exact this) GW547.out)) | (dsimp only; exact Nat.ne_of_lt (Nat.lt_of_lt_of_le (by have := World.block_lt_of_cell? _ _ hw539_1; first | rwa [add_block] at this | exact this) GW547.out))) _).trans (hHeld.2.2.2.2.2.2.2.2.2.1)))))))))), ((cell_far (p := ⟨gb547, _, none⟩) (by first | exact Nat.ne_of_lt (Nat.lt_of_lt_of_le (by have := World.block_lt_of_cell? _ _ hw539_2; first | rwa [add_block] at this | exact this) GW547.out) | (rw [add_block]; exact Nat.ne_of_lt (Nat.lt_of_lt_of_le (by have := World.block_lt_of_cell? _ _ hw539_2; first | rwa [add_block] at this | exact this) GW547.out)) | (show (Addr.add _ _).block ≠ _; rw [add_block]; exact Nat.ne_of_lt (Nat.lt_of_lt_of_le (by have := World.block_lt_of_cell? _ _ hw539_2; first | rwa [add_block] at this | exact this) GW547.out)) | (dsimp only; exact Nat.ne_of_lt (Nat.lt_of_lt_of_le (by have := World.block_lt_of_cell? _ _ hw539_2; first | rwa [add_block] at this | exact this) GW547.out))) _).trans (((cell_far (p := ⟨gb547, _, none⟩) (by first | exact Nat.ne_of_lt (Nat.lt_of_lt_of_le (by have := World.block_lt_of_cell? _ _ hw539_2; first | rwa [add_block] at this | exact this) GW547.out) | (rw [add_block]; exact Nat.ne_of_lt (Nat.lt_of_lt_of_le (by have := World.block_lt_of_cell? _ _ hw539_2; first | rwa [add_block] at this | exact this) GW547.out)) | (show (Addr.add _ _).block ≠ _; rw [add_block]; exact Nat.ne_of_lt (Nat.lt_of_lt_of_le (by have := World.block_lt_of_cell? _ _ hw539_2; first | rwa [add_block] at this | exact this) GW547.out)) | (dsimp only; exact Nat.ne_of_lt (Nat.lt_of_lt_of_le (by have := World.block_lt_of_cell? _ _ hw539_2; first | rwa [add_block] at this | exact this) GW547.out))) _).trans (((cell_far (p := ⟨gb547, _, none⟩) (by first | exact Nat.ne_of_lt (Nat.lt_of_lt_of_le (by have := World.block_lt_of_cell? _ _ hw539_2; first | rwa [add_block] at this | exact this) GW547.out) | (rw [add_block]; exact Nat.ne_of_lt (Nat.lt_of_lt_of_le (by have := World.block_lt_of_cell? _ _ hw539_2; first | rwa [add_block] at this | exact this) GW547.out)) | (show (Addr.add _ _).block ≠ _; rw [add_block]; exact Nat.ne_of_lt (Nat.lt_of_lt_of_le (by have := World.block_lt_of_cell? _ _ hw539_2; first | rwa [add_block] at this | exact this) GW547.out)) | (dsimp only; exact Nat.ne_of_lt (Nat.lt_of_lt_of_le (by have := World.block_lt_of_cell? _ _ hw539_2; first | rwa [add_block] at this | exact this) GW547.out))) _).trans (((cell_far (p := ⟨gb547, _, none⟩) (by first | exact Nat.ne_of_lt (Nat.lt_of_lt_of_le (by have := World.block_lt_of_cell? _ _ hw539_2; first | rwa [add_block] at this | exact this) GW547.out) | (rw [add_block]; exact Nat.ne_of_lt (Nat.lt_of_lt_of_le (by have := World.block_lt_of_cell? _ _ hw539_2; first | rwa [add_block] at this | exact this) GW547.out)) | (show (Addr.add _ _).block ≠ _; rw [add_block]; exact Nat.ne_of_lt (Nat.lt_of_lt_of_le (by have := World.block_lt_of_cell? _ _ hw539_2; first | rwa [add_block] at this | exact this) GW547.out)) | (dsimp only; exact Nat.ne_of_lt (Nat.lt_of_lt_of_le (by have := World.block_lt_of_cell? _ _ hw539_2; first | rwa [add_block] at this | exact this) GW547.out))) _).trans (((cell_far (p := ⟨gb547, _, none⟩) (by first | exact Nat.ne_of_lt (Nat.lt_of_lt_of_le (by have := World.block_lt_of_cell? _ _ hw539_2; first | rwa [add_block] at this | exact this) GW547.out) | (rw [add_block]; exact Nat.ne_of_lt (Nat.lt_of_lt_of_le (by have := World.block_lt_of_cell? _ _ hw539_2; first | rwa [add_block] at this | exact this) GW547.out)) | (show (Addr.add _ _).block ≠ _; rw [add_block]; exact Nat.ne_of_lt (Nat.lt_of_lt_of_le (by have := World.block_lt_of_cell? _ _ hw539_2; first | rwa [add_block] at this | exact this) GW547.out)) | (dsimp only; exact Nat.ne_of_lt (Nat.lt_of_lt_of_le (by have := World.block_lt_of_cell? _ _ hw539_2; first | rwa [add_block] at this | exact this) GW547.out))) _).trans (hHeld.2.2.2.2.2.2.2.2.2.2.1)))))))))), ((cell_far (p := ⟨gb547, _, none⟩) (by first | exact Nat.ne_of_lt (Nat.lt_of_lt_of_le (by have := World.block_lt_of_cell? _ _ hw540_0; first | rwa [add_block] at this | exact this) GW547.out) | (rw [add_block]; exact Nat.ne_of_lt (Nat.lt_of_lt_of_le (by have := World.block_lt_of_cell? _ _ hw540_0; first | rwa [add_block] at this | exact this) GW547.out)) | (show (Addr.add _ _).block ≠ _; rw [add_block]; exact Nat.ne_of_lt (Nat.lt_of_lt_of_le (by have := World.block_lt_of_cell? _ _ hw540_0; first | rwa [add_block] at this | exact this) GW547.out)) | (dsimp only; exact Nat.ne_of_lt (Nat.lt_of_lt_of_le (by have := World.block_lt_of_cell? _ _ hw540_0; first | rwa [add_block] at this | exact this) GW547.out))) _).trans (((cell_far (p := ⟨gb547, _, none⟩) (by first | exact Nat.ne_of_lt (Nat.lt_of_lt_of_le (by have := World.block_lt_of_cell? _ _ hw540_0; first | rwa [add_block] at this | exact this) GW547.out) | (rw [add_block]; exact Nat.ne_of_lt (Nat.lt_of_lt_of_le (by have := World.block_lt_of_cell? _ _ hw540_0; first | rwa [add_block] at this | exact this) GW547.out)) | (show (Addr.add _ _).block ≠ _; rw [add_block]; exact Nat.ne_of_lt (Nat.lt_of_lt_of_le (by have := World.block_lt_of_cell? _ _ hw540_0; first | rwa [add_block] at this | exact this) GW547.out)) | (dsimp only; exact Nat.ne_of_lt (Nat.lt_of_lt_of_le (by have := World.block_lt_of_cell? _ _ hw540_0; first | rwa [add_block] at this | exact this) GW547.out))) _).trans (((cell_far (p := ⟨gb547, _, none⟩) (by first | exact Nat.ne_of_lt (Nat.lt_of_lt_of_le (by have := World.block_lt_of_cell? _ _ hw540_0; first | rwa [add_block] at this | exact this) GW547.out) | (rw [add_block]; exact Nat.ne_of_lt (Nat.lt_of_lt_of_le (by have := World.block_lt_of_cell? _ _ hw540_0; first | rwa [add_block] at this | exact this) GW547.out)) | (show (Addr.add _ _).block ≠ _; rw [add_block]; exact Nat.ne_of_lt (Nat.lt_of_lt_of_le (by have := World.block_lt_of_cell? _ _ hw540_0; first | rwa [add_block] at this | exact this) GW547.out)) | (dsimp only; exact Nat.ne_of_lt (Nat.lt_of_lt_of_le (by have := World.block_lt_of_cell? _ _ hw540_0; first | rwa [add_block] at this | exact this) GW547.out))) _).trans (((cell_far (p := ⟨gb547, _, none⟩) (by first | exact Nat.ne_of_lt (Nat.lt_of_lt_of_le (by have := World.block_lt_of_cell? _ _ hw540_0; first | rwa [add_block] at this | exact this) GW547.out) | (rw [add_block]; exact Nat.ne_of_lt (Nat.lt_of_lt_of_le (by have := World.block_lt_of_cell? _ _ hw540_0; first | rwa [add_block] at this | exact this) GW547.out)) | (show (Addr.add _ _).block ≠ _; rw [add_block]; exact Nat.ne_of_lt (Nat.lt_of_lt_of_le (by have := World.block_lt_of_cell? _ _ hw540_0; first | rwa [add_block] at this | exact this) GW547.out)) | (dsimp only; exact Nat.ne_of_lt (Nat.lt_of_lt_of_le (by have := World.block_lt_of_cell? _ _ hw540_0; first | rwa [add_block] at this | exact this) GW547.out))) _).trans (((cell_far (p := ⟨gb547, _, none⟩) (by first | exact Nat.ne_of_lt (Nat.lt_of_lt_of_le (by have := World.block_lt_of_cell? _ _ hw540_0; first | rwa [add_block] at this | exact this) GW547.out) | (rw [add_block]; exact Nat.ne_of_lt (Nat.lt_of_lt_of_le (by have := World.block_lt_of_cell? _ _ hw540_0; first | rwa [add_block] at this | exact this) GW547.out)) | (show (Addr.add _ _).block ≠ _; rw [add_block]; exact Nat.ne_of_lt (Nat.lt_of_lt_of_le (by have := World.block_lt_of_cell? _ _ hw540_0; first | rwa [add_block] at this | exact this) GW547.out)) | (dsimp only; exact Nat.ne_of_lt (Nat.lt_of_lt_of_le (by have := World.block_lt_of_cell? _ _ hw540_0; first | rwa [add_block] at this | exact this) GW547.out))) _).trans (hHeld.2.2.2.2.2.2.2.2.2.2.2.1)))))))))), ((cell_far (p := ⟨gb547, _, none⟩) (by first | exact Nat.ne_of_lt (Nat.lt_of_lt_of_le (by have := World.block_lt_of_cell? _ _ hw540_1; first | rwa [add_block] at this | exact this) GW547.out) | (rw [add_block]; exact Nat.ne_of_lt (Nat.lt_of_lt_of_le (by have := World.block_lt_of_cell? _ _ hw540_1; first | rwa [add_block] at this | exact this) GW547.out)) | (show (Addr.add _ _).block ≠ _; rw [add_block]; exact Nat.ne_of_lt (Nat.lt_of_lt_of_le (by have := World.block_lt_of_cell? _ _ hw540_1; first | rwa [add_block] at this | exact this) GW547.out)) | (dsimp only; exact Nat.ne_of_lt (Nat.lt_of_lt_of_le (by have := World.block_lt_of_cell? _ _ hw540_1; first | rwa [add_block] at this | exact this) GW547.out))) _).trans (((cell_far (p := ⟨gb547, _, none⟩) (by first | exact Nat.ne_of_lt (Nat.lt_of_lt_of_le (by have := World.block_lt_of_cell? _ _ hw540_1; first | rwa [add_block] at this | exact this) GW547.out) | (rw [add_block]; exact Nat.ne_of_lt (Nat.lt_of_lt_of_le (by have := World.block_lt_of_cell? _ _ hw540_1; first | rwa [add_block] at this | exact this) GW547.out)) | (show (Addr.add _ _).block ≠ _; rw [add_block]; exact Nat.ne_of_lt (Nat.lt_of_lt_of_le (by have := World.block_lt_of_cell? _ _ hw540_1; first | rwa [add_block] at this | exact this) GW547.out)) | (dsimp only; exact Nat.ne_of_lt (Nat.lt_of_lt_of_le (by have := World.block_lt_of_cell? _ _ hw540_1; first | rwa [add_block] at this | exact this) GW547.out))) _).trans (((cell_far (p := ⟨gb547, _, none⟩) (by first | exact Nat.ne_of_lt (Nat.lt_of_lt_of_le (by have := World.block_lt_of_cell? _ _ hw540_1; first | rwa [add_block] at this | exact this) GW547.out) | (rw [add_block]; exact Nat.ne_of_lt (Nat.lt_of_lt_of_le (by have := World.block_lt_of_cell? _ _ hw540_1; first | rwa [add_block] at this | exact this) GW547.out)) | (show (Addr.add _ _).block ≠ _; rw [add_block]; exact Nat.ne_of_lt (Nat.lt_of_lt_of_le (by have := World.block_lt_of_cell? _ _ hw540_1; first | rwa [add_block] at this | exact this) GW547.out)) | (dsimp only; exact Nat.ne_of_lt (Nat.lt_of_lt_of_le (by have := World.block_lt_of_cell? _ _ hw540_1; first | rwa [add_block] at this | exact this) GW547.out))) _).trans (((cell_far (p := ⟨gb547, _, none⟩) (by first | exact Nat.ne_of_lt (Nat.lt_of_lt_of_le (by have := World.block_lt_of_cell? _ _ hw540_1; first | rwa [add_block] at this | exact this) GW547.out) | (rw [add_block]; exact Nat.ne_of_lt (Nat.lt_of_lt_of_le (by have := World.block_lt_of_cell? _ _ hw540_1; first | rwa [add_block] at this | exact this) GW547.out)) | (show (Addr.add _ _).block ≠ _; rw [add_block]; exact Nat.ne_of_lt (Nat.lt_of_lt_of_le (by have := World.block_lt_of_cell? _ _ hw540_1; first | rwa [add_block] at this | exact this) GW547.out)) | (dsimp only; exact Nat.ne_of_lt (Nat.lt_of_lt_of_le (by have := World.block_lt_of_cell? _ _ hw540_1; first | rwa [add_block] at this | exact this) GW547.out))) _).trans (((cell_far (p := ⟨gb547, _, none⟩) (by first | exact Nat.ne_of_lt (Nat.lt_of_lt_of_le (by have := World.block_lt_of_cell? _ _ hw540_1; first | rwa [add_block] at this | exact this) GW547.out) | (rw [add_block]; exact Nat.ne_of_lt (Nat.lt_of_lt_of_le (by have := World.block_lt_of_cell? _ _ hw540_1; first | rwa [add_block] at this | exact this) GW547.out)) | (show (Addr.add _ _).block ≠ _; rw [add_block]; exact Nat.ne_of_lt (Nat.lt_of_lt_of_le (by have := World.block_lt_of_cell? _ _ hw540_1; first | rwa [add_block] at this | exact this) GW547.out)) | (dsimp only; exact Nat.ne_of_lt (Nat.lt_of_lt_of_le (by have := World.block_lt_of_cell? _ _ hw540_1; first | rwa [add_block] at this | exact this) GW547.out))) _).trans (hHeld.2.2.2.2.2.2.2.2.2.2.2.2.1)))))))))), ((cell_far (p := ⟨gb547, _, none⟩) (by first | exact Nat.ne_of_lt (Nat.lt_of_lt_of_le (by have := World.block_lt_of_cell? _ _ hw540_2; first | rwa [add_block] at this | exact this) GW547.out) | (rw [add_block]; exact Nat.ne_of_lt (Nat.lt_of_lt_of_le (by have := World.block_lt_of_cell? _ _ hw540_2; first | rwa [add_block] at this | exact this) GW547.out)) | (show (Addr.add _ _).block ≠ _; rw [add_block]; exact Nat.ne_of_lt (Nat.lt_of_lt_of_le (by have := World.block_lt_of_cell? _ _ hw540_2; first | rwa [add_block] at this | exact this) GW547.out)) | (dsimp only; exact Nat.ne_of_lt (Nat.lt_of_lt_of_le (by have := World.block_lt_of_cell? _ _ hw540_2; first | rwa [add_block] at this | exact this) GW547.out))) _).trans (((cell_far (p := ⟨gb547, _, none⟩) (by first | exact Nat.ne_of_lt (Nat.lt_of_lt_of_le (by have := World.block_lt_of_cell? _ _ hw540_2; first | rwa [add_block] at this | exact this) GW547.out) | (rw [add_block]; exact Nat.ne_of_lt (Nat.lt_of_lt_of_le (by have := World.block_lt_of_cell? _ _ hw540_2; first | rwa [add_block] at this | exact this) GW547.out)) | (show (Addr.add _ _).block ≠ _; rw [add_block]; exact Nat.ne_of_lt (Nat.lt_of_lt_of_le (by have := World.block_lt_of_cell? _ _ hw540_2; first | rwa [add_block] at this | exact this) GW547.out)) | (dsimp only; exact Nat.ne_of_lt (Nat.lt_of_lt_of_le (by have := World.block_lt_of_cell? _ _ hw540_2; first | rwa [add_block] at this | exact this) GW547.out))) _).trans (((cell_far (p := ⟨gb547, _, none⟩) (by first | exact Nat.ne_of_lt (Nat.lt_of_lt_of_le (by have := World.block_lt_of_cell? _ _ hw540_2; first | rwa [add_block] at this | exact this) GW547.out) | (rw [add_block]; exact Nat.ne_of_lt (Nat.lt_of_lt_of_le (by have := World.block_lt_of_cell? _ _ hw540_2; first | rwa [add_block] at this | exact this) GW547.out)) | (show (Addr.add _ _).block ≠ _; rw [add_block]; exact Nat.ne_of_lt (Nat.lt_of_lt_of_le (by have := World.block_lt_of_cell? _ _ hw540_2; first | rwa [add_block] at this | exact this) GW547.out)) | (dsimp only; exact Nat.ne_of_lt (Nat.lt_of_lt_of_le (by have := World.block_lt_of_cell? _ _ hw540_2; first | rwa [add_block] at this | exact this) GW547.out))) _).trans (((cell_far (p := ⟨gb547, _, none⟩) (by first | exact Nat.ne_of_lt (Nat.lt_of_lt_of_le (by have := World.block_lt_of_cell? _ _ hw540_2; first | rwa [add_block] at this | exact this) GW547.out) | (rw [add_block]; exact Nat.ne_of_lt (Nat.lt_of_lt_of_le (by have := World.block_lt_of_cell? _ _ hw540_2; first | rwa [add_block] at this | exact this) GW547.out)) | (show (Addr.add _ _).block ≠ _; rw [add_block]; exact Nat.ne_of_lt (Nat.lt_of_lt_of_le (by have := World.block_lt_of_cell? _ _ hw540_2; first | rwa [add_block] at this | exact this) GW547.out)) | (dsimp only; exact Nat.ne_of_lt (Nat.lt_of_lt_of_le (by have := World.block_lt_of_cell? _ _ hw540_2; first | rwa [add_block] at this | exact this) GW547.out))) _).trans (((cell_far (p := ⟨gb547, _, none⟩) (by first | exact Nat.ne_of_lt (Nat.lt_of_lt_of_le (by have := World.block_lt_of_cell? _ _ hw540_2; first | rwa [add_block] at this | exact this) GW547.out) | (rw [add_block]; exact Nat.ne_of_lt (Nat.lt_of_lt_of_le (by have := World.block_lt_of_cell? _ _ hw540_2; first | rwa [add_block] at this | exact this) GW547.out)) | (show (Addr.add _ _).block ≠ _; rw [add_block]; exact Nat.ne_of_lt (Nat.lt_of_lt_of_le (by have := World.block_lt_of_cell? _ _ hw540_2; first | rwa [add_block] at this | exact this) GW547.out)) | (dsimp only; exact Nat.ne_of_lt (Nat.lt_of_lt_of_le (by have := World.block_lt_of_cell? _ _ hw540_2; first | rwa [add_block] at this | exact this) GW547.out))) _).trans (hHeld.2.2.2.2.2.2.2.2.2.2.2.2.2))))))))))⟩ (fun hHeld => ?_)
            clear hK K
            refine pure_ (i := 26) (N := some 12) (v := ?_) (a' := ?_) #[true, true, true, true, true, true, true, true, true, true, true, true, true, true, true, true, true, true, true, true, true, true, true, true, true, true, true] rfl rfl (any_of HT_.out (by kernel_rfl)) (fun _ _ _ h => h) (Or.inl ⟨by rfl, ?_⟩) ?_ ?_
            rotate_left
            · intro w'
              go_simp
              with_reducible rfl
            rotate_left
            · simp only [Act.put, List.setIfInBounds_toArray, List.set_cons_zero, List.set_cons_succ, i64_w, i32_w]
              rfl
            refine done_ (done_of HT_.out (by kernel_rfl)) ?_
            go_upto_region 10 with (fail)
            go_cut [66] (fun v66 wc => ∃ (kq : Nat) (x66_15 : Bool), v66 = .bool x66_15 ∧ Aside0 (ambidexterlaw25_ServoCommandClamped.j1 kq l1 a2 true x9_1 t537 t546 x66_15 t541 t542 t543 t544 t545 = some r) ∧ Aside0 (kq ≤ k1) ∧ Aside0 (wc.heap[gb536]? = some (.cells #[.int .i64 x537000_1, .int .i64 x537001_1, .int .i64 x537002_1, .int .i64 x537003_1, .bool x537004_1] 49 (0, 0))) ∧ Aside0 (wc.heap[gb547]? = some (.cells #[.int .i64 t541, .int .i64 t542, .int .i64 t543, .int .i64 t544, .bool t545] 49 (0, 0))) ∧ Aside0 (Below w.heap.size w wc))
            case first =>
              have H := HC16.out
              clear HC16
              by_cases c28 : t546 > 128
              · rw [if_pos c28] at H
                have c28b0 : decide (128 < t546) = true := decide_eq_true c28
                clear c28
                (first | rw [c28b0] | (simp only [i64_w, i32_w]; rw [c28b0]) | skip)
                have H' := Aside0.mk H
                clear H
                go_wp2
                go_meet
                case rel => exact ⟨_, (true), (by first | rfl | (simp; done) | (simp [*]; done)), H', ⟨by have := HK1.out; first | omega | exact Nat.le_refl _⟩, ⟨by (with_reducible repeat (first | refine blk_drewN ?_ _ | refine blk_drew ?_ | refine blk_alloc ?_ _)); refine blk_far ?_ NB536_547.out _; (with_reducible repeat (first | refine blk_drewN ?_ _ | refine blk_drew ?_ | refine blk_alloc ?_ _)); refine blk_far ?_ NB536_547.out _; (with_reducible repeat (first | refine blk_drewN ?_ _ | refine blk_drew ?_ | refine blk_alloc ?_ _)); refine blk_far ?_ NB536_547.out _; (with_reducible repeat (first | refine blk_drewN ?_ _ | refine blk_drew ?_ | refine blk_alloc ?_ _)); refine blk_far ?_ NB536_547.out _; (with_reducible repeat (first | refine blk_drewN ?_ _ | refine blk_drew ?_ | refine blk_alloc ?_ _)); refine blk_far ?_ NB536_547.out _; (with_reducible repeat (first | refine blk_drewN ?_ _ | refine blk_drew ?_ | refine blk_alloc ?_ _)); exact BK536.out⟩, ⟨by (with_reducible repeat (first | refine blk_drewN ?_ _ | refine blk_drew ?_ | refine blk_alloc ?_ _)); refine blk_put (cs := #[.int .i64 t541, .int .i64 t542, .int .i64 t543, .int .i64 t544, .bool false]) ?_ 4 _ rfl; (with_reducible repeat (first | refine blk_drewN ?_ _ | refine blk_drew ?_ | refine blk_alloc ?_ _)); refine blk_put (cs := #[.int .i64 t541, .int .i64 t542, .int .i64 t543, .int .i64 0, .bool false]) ?_ 3 _ rfl; (with_reducible repeat (first | refine blk_drewN ?_ _ | refine blk_drew ?_ | refine blk_alloc ?_ _)); refine blk_put (cs := #[.int .i64 t541, .int .i64 t542, .int .i64 0, .int .i64 0, .bool false]) ?_ 2 _ rfl; (with_reducible repeat (first | refine blk_drewN ?_ _ | refine blk_drew ?_ | refine blk_alloc ?_ _)); refine blk_put (cs := #[.int .i64 t541, .int .i64 0, .int .i64 0, .int .i64 0, .bool false]) ?_ 1 _ rfl; (with_reducible repeat (first | refine blk_drewN ?_ _ | refine blk_drew ?_ | refine blk_alloc ?_ _)); refine blk_put (cs := #[.int .i64 0, .int .i64 0, .int .i64 0, .int .i64 0, .bool false]) ?_ 0 _ rfl; (with_reducible repeat (first | refine blk_drewN ?_ _ | refine blk_drew ?_ | refine blk_alloc ?_ _)); exact BK547.out⟩, ⟨by repeat (first | (with_reducible first | exact HB.out | apply below_alloc | apply pw_below_drewN | apply below_drew1 | refine below_set ?_ GE536.out | refine below_set ?_ GE547.out) | exact HB.out)⟩⟩
              · rw [if_neg c28] at H
                have c28b0 : decide (128 < t546) = false := decide_eq_false c28
                clear c28
                (first | rw [c28b0] | (simp only [i64_w, i32_w]; rw [c28b0]) | skip)
                by_cases c29 : t546 < (-128)
                · rw [if_pos c29] at H
                  have c29b0 : decide (t546 < (-128)) = true := decide_eq_true c29
                  clear c29
                  have H' := Aside0.mk H
                  clear H
                  go_wp2
                  go_meet
                  case rel => exact ⟨_, (true), (by first | rfl | (simp; done) | (simp [*]; done)), H', ⟨by have := HK1.out; first | omega | exact Nat.le_refl _⟩, ⟨by (with_reducible repeat (first | refine blk_drewN ?_ _ | refine blk_drew ?_ | refine blk_alloc ?_ _)); refine blk_far ?_ NB536_547.out _; (with_reducible repeat (first | refine blk_drewN ?_ _ | refine blk_drew ?_ | refine blk_alloc ?_ _)); refine blk_far ?_ NB536_547.out _; (with_reducible repeat (first | refine blk_drewN ?_ _ | refine blk_drew ?_ | refine blk_alloc ?_ _)); refine blk_far ?_ NB536_547.out _; (with_reducible repeat (first | refine blk_drewN ?_ _ | refine blk_drew ?_ | refine blk_alloc ?_ _)); refine blk_far ?_ NB536_547.out _; (with_reducible repeat (first | refine blk_drewN ?_ _ | refine blk_drew ?_ | refine blk_alloc ?_ _)); refine blk_far ?_ NB536_547.out _; (with_reducible repeat (first | refine blk_drewN ?_ _ | refine blk_drew ?_ | refine blk_alloc ?_ _)); exact BK536.out⟩, ⟨by (with_reducible repeat (first | refine blk_drewN ?_ _ | refine blk_drew ?_ | refine blk_alloc ?_ _)); refine blk_put (cs := #[.int .i64 t541, .int .i64 t542, .int .i64 t543, .int .i64 t544, .bool false]) ?_ 4 _ rfl; (with_reducible repeat (first | refine blk_drewN ?_ _ | refine blk_drew ?_ | refine blk_alloc ?_ _)); refine blk_put (cs := #[.int .i64 t541, .int .i64 t542, .int .i64 t543, .int .i64 0, .bool false]) ?_ 3 _ rfl; (with_reducible repeat (first | refine blk_drewN ?_ _ | refine blk_drew ?_ | refine blk_alloc ?_ _)); refine blk_put (cs := #[.int .i64 t541, .int .i64 t542, .int .i64 0, .int .i64 0, .bool false]) ?_ 2 _ rfl; (with_reducible repeat (first | refine blk_drewN ?_ _ | refine blk_drew ?_ | refine blk_alloc ?_ _)); refine blk_put (cs := #[.int .i64 t541, .int .i64 0, .int .i64 0, .int .i64 0, .bool false]) ?_ 1 _ rfl; (with_reducible repeat (first | refine blk_drewN ?_ _ | refine blk_drew ?_ | refine blk_alloc ?_ _)); refine blk_put (cs := #[.int .i64 0, .int .i64 0, .int .i64 0, .int .i64 0, .bool false]) ?_ 0 _ rfl; (with_reducible repeat (first | refine blk_drewN ?_ _ | refine blk_drew ?_ | refine blk_alloc ?_ _)); exact BK547.out⟩, ⟨by repeat (first | (with_reducible first | exact HB.out | apply below_alloc | apply pw_below_drewN | apply below_drew1 | refine below_set ?_ GE536.out | refine below_set ?_ GE547.out) | exact HB.out)⟩⟩
                · rw [if_neg c29] at H
                  have c29b0 : decide (t546 < (-128)) = false := decide_eq_false c29
                  clear c29
                  have H' := Aside0.mk H
                  clear H
                  have hnb30 := NB547_536.out
                  have hnc30 := NB536_547.out
                  have hcz31_0 : w22.cell? ⟨gb547, 0, none⟩ = some (.int .i64 0) := (blk_cell BK547.out 0).trans rfl
                  have hcz31_1 : w22.cell? ⟨gb547, 1, none⟩ = some (.int .i64 0) := (blk_cell BK547.out 1).trans rfl
                  have hcz31_2 : w22.cell? ⟨gb547, 2, none⟩ = some (.int .i64 0) := (blk_cell BK547.out 2).trans rfl
                  have hcz31_3 : w22.cell? ⟨gb547, 3, none⟩ = some (.int .i64 0) := (blk_cell BK547.out 3).trans rfl
                  have hcz31_4 : w22.cell? ⟨gb547, 4, none⟩ = some (.bool false) := (blk_cell BK547.out 4).trans rfl
                  have hfz31_0 := blk_frozen BK547.out 0
                  have hfz31_1 := blk_frozen BK547.out 1
                  have hfz31_2 := blk_frozen BK547.out 2
                  have hfz31_3 := blk_frozen BK547.out 3
                  have hfz31_4 := blk_frozen BK547.out 4
                  go_wp2
                  go_meet
                  case rel => exact ⟨_, ((t544 != t546)), (by first | rfl | (simp; done) | (simp [*]; done)), H', ⟨by have := HK1.out; first | omega | exact Nat.le_refl _⟩, ⟨by (with_reducible repeat (first | refine blk_drewN ?_ _ | refine blk_drew ?_ | refine blk_alloc ?_ _)); refine blk_far ?_ NB536_547.out _; (with_reducible repeat (first | refine blk_drewN ?_ _ | refine blk_drew ?_ | refine blk_alloc ?_ _)); refine blk_far ?_ NB536_547.out _; (with_reducible repeat (first | refine blk_drewN ?_ _ | refine blk_drew ?_ | refine blk_alloc ?_ _)); refine blk_far ?_ NB536_547.out _; (with_reducible repeat (first | refine blk_drewN ?_ _ | refine blk_drew ?_ | refine blk_alloc ?_ _)); refine blk_far ?_ NB536_547.out _; (with_reducible repeat (first | refine blk_drewN ?_ _ | refine blk_drew ?_ | refine blk_alloc ?_ _)); refine blk_far ?_ NB536_547.out _; (with_reducible repeat (first | refine blk_drewN ?_ _ | refine blk_drew ?_ | refine blk_alloc ?_ _)); exact BK536.out⟩, ⟨by (with_reducible repeat (first | refine blk_drewN ?_ _ | refine blk_drew ?_ | refine blk_alloc ?_ _)); refine blk_put (cs := #[.int .i64 t541, .int .i64 t542, .int .i64 t543, .int .i64 t544, .bool false]) ?_ 4 _ rfl; (with_reducible repeat (first | refine blk_drewN ?_ _ | refine blk_drew ?_ | refine blk_alloc ?_ _)); refine blk_put (cs := #[.int .i64 t541, .int .i64 t542, .int .i64 t543, .int .i64 0, .bool false]) ?_ 3 _ rfl; (with_reducible repeat (first | refine blk_drewN ?_ _ | refine blk_drew ?_ | refine blk_alloc ?_ _)); refine blk_put (cs := #[.int .i64 t541, .int .i64 t542, .int .i64 0, .int .i64 0, .bool false]) ?_ 2 _ rfl; (with_reducible repeat (first | refine blk_drewN ?_ _ | refine blk_drew ?_ | refine blk_alloc ?_ _)); refine blk_put (cs := #[.int .i64 t541, .int .i64 0, .int .i64 0, .int .i64 0, .bool false]) ?_ 1 _ rfl; (with_reducible repeat (first | refine blk_drewN ?_ _ | refine blk_drew ?_ | refine blk_alloc ?_ _)); refine blk_put (cs := #[.int .i64 0, .int .i64 0, .int .i64 0, .int .i64 0, .bool false]) ?_ 0 _ rfl; (with_reducible repeat (first | refine blk_drewN ?_ _ | refine blk_drew ?_ | refine blk_alloc ?_ _)); exact BK547.out⟩, ⟨by repeat (first | (with_reducible first | exact HB.out | apply below_alloc | apply pw_below_drewN | apply below_drew1 | refine below_set ?_ GE536.out | refine below_set ?_ GE547.out) | exact HB.out)⟩⟩
            case rest =>
              clear HC16
              try clear c1
              try clear c2
              try clear p2
              try clear c3
              try clear c5
              try clear c5b0
              try clear c5b1
              try clear p5
              try clear q5
              try clear hx5
              try clear p6
              try clear c12
              try clear c12b0
              try clear c14
              try clear c14b0
              try clear c28
              try clear c28b0
              try clear c29
              try clear c29b0
              try clear c30
              try clear hcz11_0
              try clear hcz11_1
              try clear hcz11_2
              try clear hcz11_3
              try clear hcz11_4
              try clear hcz17_0
              try clear hcz17_1
              try clear hcz17_2
              try clear hcz17_3
              try clear hcz17_4
              try clear hcz31_0
              try clear hcz31_1
              try clear hcz31_2
              try clear hcz31_3
              try clear hcz31_4
              try clear hfz11_0
              try clear hfz11_1
              try clear hfz11_2
              try clear hfz11_3
              try clear hfz11_4
              try clear hfz17_0
              try clear hfz17_1
              try clear hfz17_2
              try clear hfz17_3
              try clear hfz17_4
              try clear hfz31_0
              try clear hfz31_1
              try clear hfz31_2
              try clear hfz31_3
              try clear hfz31_4
              try clear hx538_0
              try clear hx538_1
              try clear hx538_2
              try clear hx539_0
              try clear hx539_1
              try clear hx539_2
              try clear hx540_0
              try clear hx540_1
              try clear hx540_2
              try clear p2
              try clear p538
              try clear p539
              try clear p540
              try clear p6
              try clear q538
              try clear q539
              try clear q540
              obtain ⟨kq, x66_15, rfl, HA, HJ15, BK536, BK547, HB⟩ := hcut
              cases kq with
              | zero => exact absurd HA.out (by simp [ambidexterlaw25_ServoCommandClamped.j1])
              | succ kj15 =>
                have H := HA.out
                clear HA
                simp only [ambidexterlaw25_ServoCommandClamped.j1] at H
                by_cases c32 : x66_15 = true
                · subst c32
                  have H1 : (some false) = some r := by rw [if_pos rfl] at H; exact H
                  clear H
                  have H := H1
                  clear H1
                  exact absurd HT.out (by rw [← Option.some.inj H]; decide)
                · replace c32 := Bool.eq_false_iff.mpr c32
                  subst c32
                  have H1 : (if 0 ≤ x9_1 then (if x9_1 < (l1.length : Int) then (if (Int.tmod (wrap64 ((rd_T54 l1 x9_1).f0)) 4) = 1 then (ambidexterlaw25_ServoCommandClamped.l0 kj15 l1 a2 true (wrap64 (x9_1 + 1)) t541 t542 t543 t544 t545) else ((servo_TrackingError.f t541 t542 t543 t544 t545 (wrap64 (a2))).bind fun t549 => (if t549 = (wrap64 (t537 - t546)) then (ambidexterlaw25_ServoCommandClamped.l0 kj15 l1 a2 true (wrap64 (x9_1 + 1)) t541 t542 t543 t544 t545) else (some false)))) else (none)) else (none)) = some r := by rw [if_neg (show ¬ (false = true) by decide)] at H; exact H
                  clear H
                  have H := H1
                  clear H1
                  by_cases c33 : 0 ≤ x9_1
                  · rw [if_pos c33] at H
                    have c33b0 : decide (0 ≤ x9_1) = true := decide_eq_true c33
                    clear c33
                    by_cases c34 : x9_1 < (l1.length : Int)
                    · rw [if_pos c34] at H
                      have c34b0 : decide (x9_1 < (l1.length : Int)) = true := decide_eq_true c34
                      clear c34
                      by_cases c35 : (Int.tmod (wrap64 ((rd_T54 l1 x9_1).f0)) 4) = 1
                      · rw [if_pos c35] at H
                        have c35b0 : ((Int.tmod (wrap64 ((rd_T54 l1 x9_1).f0)) 4) == 1) = true := beq_iff_eq.mpr c35
                        have c35b1 : ((Int.tmod (wrap64 ((rd_T54 l1 x9_1).f0)) 4) != 1) = false := bne_eq_false_iff_eq.mpr c35
                        clear c35
                        have H' := Aside0.mk H
                        clear H
                        have p548 : 0 ≤ (x9_1 : Int) := of_decide_eq_true (by first | (with_reducible assumption) | assumption)
                        have q548 : x9_1 < (l1.length : Int) := of_decide_eq_true (by first | (with_reducible assumption) | assumption)
                        obtain ⟨ad548, e548, hx548_0, hx548_1, hx548_2⟩ := at_T54 HR1.out x9_1 p548 q548
                        obtain rfl : ad538 = ad548 := (by injection e548)
                        replace hx548_0 := (HB.out.cell (World.block_lt_of_cell? w _ hx548_0)).trans hx548_0
                        replace hx548_1 := (HB.out.cell (World.block_lt_of_cell? w _ hx548_1)).trans hx548_1
                        replace hx548_2 := (HB.out.cell (World.block_lt_of_cell? w _ hx548_2)).trans hx548_2
                        replace p548 := eq_true p548
                        replace q548 := eq_true q548
                        have hnb36 := NB547_536.out
                        have hnc36 := NB536_547.out
                        have hcz37_0 : wc.cell? ⟨gb547, 0, none⟩ = some (.int .i64 t541) := (blk_cell BK547.out 0).trans rfl
                        have hcz37_1 : wc.cell? ⟨gb547, 1, none⟩ = some (.int .i64 t542) := (blk_cell BK547.out 1).trans rfl
                        have hcz37_2 : wc.cell? ⟨gb547, 2, none⟩ = some (.int .i64 t543) := (blk_cell BK547.out 2).trans rfl
                        have hcz37_3 : wc.cell? ⟨gb547, 3, none⟩ = some (.int .i64 t544) := (blk_cell BK547.out 3).trans rfl
                        have hcz37_4 : wc.cell? ⟨gb547, 4, none⟩ = some (.bool t545) := (blk_cell BK547.out 4).trans rfl
                        have hfz37_0 := blk_frozen BK547.out 0
                        have hfz37_1 := blk_frozen BK547.out 1
                        have hfz37_2 := blk_frozen BK547.out 2
                        have hfz37_3 := blk_frozen BK547.out 3
                        have hfz37_4 := blk_frozen BK547.out 4
                        have hcz38_0 : wc.cell? ⟨gb536, 0, none⟩ = some (.int .i64 x537000_1) := (blk_cell BK536.out 0).trans rfl
                        have hcz38_1 : wc.cell? ⟨gb536, 1, none⟩ = some (.int .i64 x537001_1) := (blk_cell BK536.out 1).trans rfl
                        have hcz38_2 : wc.cell? ⟨gb536, 2, none⟩ = some (.int .i64 x537002_1) := (blk_cell BK536.out 2).trans rfl
                        have hcz38_3 : wc.cell? ⟨gb536, 3, none⟩ = some (.int .i64 x537003_1) := (blk_cell BK536.out 3).trans rfl
                        have hcz38_4 : wc.cell? ⟨gb536, 4, none⟩ = some (.bool x537004_1) := (blk_cell BK536.out 4).trans rfl
                        have hfz38_0 := blk_frozen BK536.out 0
                        have hfz38_1 := blk_frozen BK536.out 1
                        have hfz38_2 := blk_frozen BK536.out 2
                        have hfz38_3 := blk_frozen BK536.out 3
                        have hfz38_4 := blk_frozen BK536.out 4
                        go_wp2
                        go_roundg kj15
                        case measure => have := HK1.out; have := HJ15.out; omega
                        case rel => exact ⟨(wrap64 (x9_1 + 1)), (t541), (t542), (t543), (t544), (t545), (by first | rfl | (simp; done) | (simp [*]; done)), H', ⟨by have := HK1.out; have := HJ15.out; omega⟩, ⟨by (with_reducible repeat (first | refine blk_drewN ?_ _ | refine blk_drew ?_ | refine blk_alloc ?_ _)); refine blk_put (cs := #[.int .i64 t541, .int .i64 t542, .int .i64 t543, .int .i64 t544, .bool x537004_1]) ?_ 4 _ rfl; (with_reducible repeat (first | refine blk_drewN ?_ _ | refine blk_drew ?_ | refine blk_alloc ?_ _)); refine blk_put (cs := #[.int .i64 t541, .int .i64 t542, .int .i64 t543, .int .i64 x537003_1, .bool x537004_1]) ?_ 3 _ rfl; (with_reducible repeat (first | refine blk_drewN ?_ _ | refine blk_drew ?_ | refine blk_alloc ?_ _)); refine blk_put (cs := #[.int .i64 t541, .int .i64 t542, .int .i64 x537002_1, .int .i64 x537003_1, .bool x537004_1]) ?_ 2 _ rfl; (with_reducible repeat (first | refine blk_drewN ?_ _ | refine blk_drew ?_ | refine blk_alloc ?_ _)); refine blk_put (cs := #[.int .i64 t541, .int .i64 x537001_1, .int .i64 x537002_1, .int .i64 x537003_1, .bool x537004_1]) ?_ 1 _ rfl; (with_reducible repeat (first | refine blk_drewN ?_ _ | refine blk_drew ?_ | refine blk_alloc ?_ _)); refine blk_put (cs := #[.int .i64 x537000_1, .int .i64 x537001_1, .int .i64 x537002_1, .int .i64 x537003_1, .bool x537004_1]) ?_ 0 _ rfl; (with_reducible repeat (first | refine blk_drewN ?_ _ | refine blk_drew ?_ | refine blk_alloc ?_ _)); exact BK536.out⟩, ⟨by repeat (first | (with_reducible first | exact HB.out | apply below_alloc | apply pw_below_drewN | apply below_drew1 | refine below_set ?_ GE536.out | refine below_set ?_ GE547.out) | exact HB.out)⟩⟩
                      · rw [if_neg c35] at H
                        have c35b0 : ((Int.tmod (wrap64 ((rd_T54 l1 x9_1).f0)) 4) == 1) = false := beq_eq_false_iff_ne.mpr c35
                        have c35b1 : ((Int.tmod (wrap64 ((rd_T54 l1 x9_1).f0)) 4) != 1) = true := bne_iff_ne.mpr c35
                        replace H := Option.bind_eq_some_iff.mp H
                        obtain ⟨t549, A390, H⟩ := H
                        replace H : (if t549 = (wrap64 (t537 - t546)) then (ambidexterlaw25_ServoCommandClamped.l0 kj15 l1 a2 true (wrap64 (x9_1 + 1)) t541 t542 t543 t544 t545) else (some false)) = some r := H
                        have A39 := Aside0.mk A390
                        clear A390
                        by_cases c40 : t549 = (wrap64 (t537 - t546))
                        · rw [if_pos c40] at H
                          have c40b0 : (t549 == (wrap64 (t537 - t546))) = true := beq_iff_eq.mpr c40
                          have c40b1 : (t549 != (wrap64 (t537 - t546))) = false := bne_eq_false_iff_eq.mpr c40
                          clear c40
                          have H' := Aside0.mk H
                          clear H
                          have p548 : 0 ≤ (x9_1 : Int) := of_decide_eq_true (by first | (with_reducible assumption) | assumption)
                          have q548 : x9_1 < (l1.length : Int) := of_decide_eq_true (by first | (with_reducible assumption) | assumption)
                          obtain ⟨ad548, e548, hx548_0, hx548_1, hx548_2⟩ := at_T54 HR1.out x9_1 p548 q548
                          obtain rfl : ad538 = ad548 := (by injection e548)
                          replace hx548_0 := (HB.out.cell (World.block_lt_of_cell? w _ hx548_0)).trans hx548_0
                          replace hx548_1 := (HB.out.cell (World.block_lt_of_cell? w _ hx548_1)).trans hx548_1
                          replace hx548_2 := (HB.out.cell (World.block_lt_of_cell? w _ hx548_2)).trans hx548_2
                          replace p548 := eq_true p548
                          replace q548 := eq_true q548
                          have hnb41 := NB547_536.out
                          have hnc41 := NB536_547.out
                          have hcz42_0 : wc.cell? ⟨gb547, 0, none⟩ = some (.int .i64 t541) := (blk_cell BK547.out 0).trans rfl
                          have hcz42_1 : wc.cell? ⟨gb547, 1, none⟩ = some (.int .i64 t542) := (blk_cell BK547.out 1).trans rfl
                          have hcz42_2 : wc.cell? ⟨gb547, 2, none⟩ = some (.int .i64 t543) := (blk_cell BK547.out 2).trans rfl
                          have hcz42_3 : wc.cell? ⟨gb547, 3, none⟩ = some (.int .i64 t544) := (blk_cell BK547.out 3).trans rfl
                          have hcz42_4 : wc.cell? ⟨gb547, 4, none⟩ = some (.bool t545) := (blk_cell BK547.out 4).trans rfl
                          have hfz42_0 := blk_frozen BK547.out 0
                          have hfz42_1 := blk_frozen BK547.out 1
                          have hfz42_2 := blk_frozen BK547.out 2
                          have hfz42_3 := blk_frozen BK547.out 3
                          have hfz42_4 := blk_frozen BK547.out 4
                          go_wp2_with (first | (go_at_call 34; (with_reducible refine (servo_TrackingError.calls t541 t542 t543 t544 t545 (wrap64 (a2)) t549 _ A39.out).mono ?_); rintro e w43 ⟨rfl, hb⟩; have n0_ := Aside0.mk (blk_below (g := gb536) (o := .cells #[.int .i64 x537000_1, .int .i64 x537001_1, .int .i64 x537002_1, .int .i64 x537003_1, .bool x537004_1] 49 (0, 0)) (by (with_reducible repeat (first | refine blk_drewN ?_ _ | refine blk_drew ?_ | refine blk_alloc ?_ _)); exact BK536.out) hb); have n1_ := Aside0.mk (blk_below (g := gb547) (o := .cells #[.int .i64 t541, .int .i64 t542, .int .i64 t543, .int .i64 t544, .bool t545] 49 (0, 0)) (by (with_reducible repeat (first | refine blk_drewN ?_ _ | refine blk_drew ?_ | refine blk_alloc ?_ _)); exact BK547.out) hb); have n2_ := Aside0.mk (below_step (by repeat (first | (with_reducible first | exact HB.out | apply below_alloc | apply pw_below_drewN | apply below_drew1 | refine below_set ?_ GE536.out | refine below_set ?_ GE547.out) | exact HB.out)) hb); clear BK536; clear BK547; clear HB; have BK536 := n0_; have BK547 := n1_; have HB := n2_; clear n0_ n1_ n2_; (try clear hb); (try clear hb2); (try clear hk); (try clear hi); have hcz44_0 : w43.cell? ⟨gb547, 0, none⟩ = some (.int .i64 t541) := (blk_cell BK547.out 0).trans rfl; have hcz44_1 : w43.cell? ⟨gb547, 1, none⟩ = some (.int .i64 t542) := (blk_cell BK547.out 1).trans rfl; have hcz44_2 : w43.cell? ⟨gb547, 2, none⟩ = some (.int .i64 t543) := (blk_cell BK547.out 2).trans rfl; have hcz44_3 : w43.cell? ⟨gb547, 3, none⟩ = some (.int .i64 t544) := (blk_cell BK547.out 3).trans rfl; have hcz44_4 : w43.cell? ⟨gb547, 4, none⟩ = some (.bool t545) := (blk_cell BK547.out 4).trans rfl; have hfz44_0 := blk_frozen BK547.out 0; have hfz44_1 := blk_frozen BK547.out 1; have hfz44_2 := blk_frozen BK547.out 2; have hfz44_3 := blk_frozen BK547.out 3; have hfz44_4 := blk_frozen BK547.out 4; have hcz45_0 : w43.cell? ⟨gb536, 0, none⟩ = some (.int .i64 x537000_1) := (blk_cell BK536.out 0).trans rfl; have hcz45_1 : w43.cell? ⟨gb536, 1, none⟩ = some (.int .i64 x537001_1) := (blk_cell BK536.out 1).trans rfl; have hcz45_2 : w43.cell? ⟨gb536, 2, none⟩ = some (.int .i64 x537002_1) := (blk_cell BK536.out 2).trans rfl; have hcz45_3 : w43.cell? ⟨gb536, 3, none⟩ = some (.int .i64 x537003_1) := (blk_cell BK536.out 3).trans rfl; have hcz45_4 : w43.cell? ⟨gb536, 4, none⟩ = some (.bool x537004_1) := (blk_cell BK536.out 4).trans rfl; have hfz45_0 := blk_frozen BK536.out 0; have hfz45_1 := blk_frozen BK536.out 1; have hfz45_2 := blk_frozen BK536.out 2; have hfz45_3 := blk_frozen BK536.out 3; have hfz45_4 := blk_frozen BK536.out 4))
                          go_roundg kj15
                          case measure => have := HK1.out; have := HJ15.out; omega
                          case rel => exact ⟨(wrap64 (x9_1 + 1)), (t541), (t542), (t543), (t544), (t545), (by first | rfl | (simp; done) | (simp [*]; done)), H', ⟨by have := HK1.out; have := HJ15.out; omega⟩, ⟨by (with_reducible repeat (first | refine blk_drewN ?_ _ | refine blk_drew ?_ | refine blk_alloc ?_ _)); refine blk_put (cs := #[.int .i64 t541, .int .i64 t542, .int .i64 t543, .int .i64 t544, .bool x537004_1]) ?_ 4 _ rfl; (with_reducible repeat (first | refine blk_drewN ?_ _ | refine blk_drew ?_ | refine blk_alloc ?_ _)); refine blk_put (cs := #[.int .i64 t541, .int .i64 t542, .int .i64 t543, .int .i64 x537003_1, .bool x537004_1]) ?_ 3 _ rfl; (with_reducible repeat (first | refine blk_drewN ?_ _ | refine blk_drew ?_ | refine blk_alloc ?_ _)); refine blk_put (cs := #[.int .i64 t541, .int .i64 t542, .int .i64 x537002_1, .int .i64 x537003_1, .bool x537004_1]) ?_ 2 _ rfl; (with_reducible repeat (first | refine blk_drewN ?_ _ | refine blk_drew ?_ | refine blk_alloc ?_ _)); refine blk_put (cs := #[.int .i64 t541, .int .i64 x537001_1, .int .i64 x537002_1, .int .i64 x537003_1, .bool x537004_1]) ?_ 1 _ rfl; (with_reducible repeat (first | refine blk_drewN ?_ _ | refine blk_drew ?_ | refine blk_alloc ?_ _)); refine blk_put (cs := #[.int .i64 x537000_1, .int .i64 x537001_1, .int .i64 x537002_1, .int .i64 x537003_1, .bool x537004_1]) ?_ 0 _ rfl; (with_reducible repeat (first | refine blk_drewN ?_ _ | refine blk_drew ?_ | refine blk_alloc ?_ _)); exact BK536.out⟩, ⟨by repeat (first | (with_reducible first | exact HB.out | apply below_alloc | apply pw_below_drewN | apply below_drew1 | refine below_set ?_ GE536.out | refine below_set ?_ GE547.out) | exact HB.out)⟩⟩
                        · rw [if_neg c40] at H
                          have c40b0 : (t549 == (wrap64 (t537 - t546))) = false := beq_eq_false_iff_ne.mpr c40
                          have c40b1 : (t549 != (wrap64 (t537 - t546))) = true := bne_iff_ne.mpr c40
                          exact absurd HT.out (by rw [← Option.some.inj H]; decide)
                    · rw [if_neg c34] at H
                      exact absurd H (by simp)
                  · rw [if_neg c33] at H
                    exact absurd H (by simp)
          · rw [if_neg c14] at H
            exact absurd H (by simp)
        · rw [if_neg c12] at H
          have c12b0 : decide (x9_1 < (l1.length : Int)) = false := decide_eq_false c12
          clear c12
          obtain rfl := Option.some.inj H
          go_wp2
          go_ret
          exact ⟨by first | rfl | (simp [errW_none, errW_some] <;> rfl) | (simp [*, errW_none, errW_some] <;> rfl), by repeat (first | (with_reducible first | exact HB.out | apply below_alloc | apply pw_below_drewN | apply below_drew1 | refine below_set ?_ GE536.out) | exact HB.out)⟩

end Go.Proofs.Ytehibiikdlgneaa.P
