-- Written by this session's own program, for this seat. Lean checks it.
import Derived.Test.YthnbcedpdjingaaP0
import Derived.Test.YthnbcedpdjingaaP3
namespace Go.Proofs.Ythnbcedpdjingaa.P
open Go.RowKit Go.Proofs.YthnbcedpdjingaaW.PrintWords Go.Proofs.YthnbcedpdjingaaW.PrintLast Go.Proofs.YthnbcedpdjingaaW.PrintMore
attribute [local go_sem] max2_int min2_int max_two min_two max_three min_three max_four min_four   -- for this text's walks alone
set_option linter.unusedVariables false
set_option linter.unusedSimpArgs false

/-! ### ambidexterlaw24_EncoderBoundedError: function 4 -/
mutual
def ambidexterlaw24_EncoderBoundedError.l0 : Nat → List (S35) → Bool → Int → Int → Int → Int → Int → Int → Option (Bool)
  | 0, _, _, _, _, _, _, _, _ => none
  | k + 1, x1, x5, x6, x8, x9, x173000, x173001, x173002 => if x9 < (x1.length : Int) then (if 0 ≤ x9 then (if (Int.tmod (wrap64 ((rd_T35 x1 x9).f1)) 4) = 1 then ((encoder_Quantize.f x6).bind fun t175 => (ambidexterlaw24_EncoderBoundedError.j1 k x1 x5 x6 t175 x9 (Int.tmod (wrap64 ((rd_T35 x1 x9).f1)) 4) x173000 x173001 x173002)) else (ambidexterlaw24_EncoderBoundedError.j1 k x1 x5 x6 x8 x9 (Int.tmod (wrap64 ((rd_T35 x1 x9).f1)) 4) x173000 x173001 x173002)) else (none)) else (some x5)
def ambidexterlaw24_EncoderBoundedError.j1 : Nat → List (S35) → Bool → Int → Int → Int → Int → Int → Int → Int → Option (Bool)
  | 0, _, _, _, _, _, _, _, _, _ => none
  | k + 1, x1, x5, x6, x8, x9, x10, x173000, x173001, x173002 => (encoder_Observe.f x173000 x173001 x173002 x10 x8).bind fun bt176 => ((encoder_Estimate.f bt176.1 bt176.2.1 bt176.2.2).bind fun t179 => (if (wrap64 (t179 - x6)) < (-8) then (ambidexterlaw24_EncoderBoundedError.j2 k x1 x5 x6 x8 x9 true bt176.1 bt176.2.1 bt176.2.2) else (ambidexterlaw24_EncoderBoundedError.j2 k x1 x5 x6 x8 x9 (decide ((wrap64 (t179 - x6)) > 8)) bt176.1 bt176.2.1 bt176.2.2)))
def ambidexterlaw24_EncoderBoundedError.j2 : Nat → List (S35) → Bool → Int → Int → Int → Bool → Int → Int → Int → Option (Bool)
  | 0, _, _, _, _, _, _, _, _, _ => none
  | k + 1, x1, x5, x6, x8, x9, x53, x173000, x173001, x173002 => if x53 = true then (some false) else (if 0 ≤ x9 then (if x9 < (x1.length : Int) then ((encoder_Command.f x173000 x173001 x173002 (wrap64 ((rd_T35 x1 x9).f0))).bind fun bt181 => ((encoder_Estimate.f bt181.1 bt181.2.1 bt181.2.2).bind fun t185 => (if (wrap64 (t185 - (wrap64 (x6 + (wrap64 ((rd_T35 x1 x9).f0)))))) < (-8) then (some false) else (if (wrap64 (t185 - (wrap64 (x6 + (wrap64 ((rd_T35 x1 x9).f0)))))) > 8 then (some false) else (ambidexterlaw24_EncoderBoundedError.l0 k x1 x5 (wrap64 (x6 + (wrap64 ((rd_T35 x1 x9).f0)))) x8 (wrap64 (x9 + 1)) bt181.1 bt181.2.1 bt181.2.2))))) else (none)) else (none))
end
def ambidexterlaw24_EncoderBoundedError.f (k : Nat) (a0 : Int) (l1 : List (S35)) : Option (Bool) := (ambidexterlaw24_head.f).bind fun t168 => (if (l1.length : Int) > 200 then (some t168) else ((encoder_New.f (wrap64 (a0))).bind fun bt169 => ((encoder_Quantize.f (wrap64 (a0))).bind fun t173 => (ambidexterlaw24_EncoderBoundedError.l0 k l1 t168 (wrap64 (a0)) t173 0 bt169.1 bt169.2.1 bt169.2.2))))
theorem ambidexterlaw24_EncoderBoundedError.mono_l : ∀ k, (∀ y0 y1 y2 y3 y4 y5 y6 y7, LeO (ambidexterlaw24_EncoderBoundedError.l0 k y0 y1 y2 y3 y4 y5 y6 y7) (ambidexterlaw24_EncoderBoundedError.l0 (k + 1) y0 y1 y2 y3 y4 y5 y6 y7)) ∧ (∀ y0 y1 y2 y3 y4 y5 y6 y7 y8, LeO (ambidexterlaw24_EncoderBoundedError.j1 k y0 y1 y2 y3 y4 y5 y6 y7 y8) (ambidexterlaw24_EncoderBoundedError.j1 (k + 1) y0 y1 y2 y3 y4 y5 y6 y7 y8)) ∧ (∀ y0 y1 y2 y3 y4 y5 y6 y7 y8, LeO (ambidexterlaw24_EncoderBoundedError.j2 k y0 y1 y2 y3 y4 y5 y6 y7 y8) (ambidexterlaw24_EncoderBoundedError.j2 (k + 1) y0 y1 y2 y3 y4 y5 y6 y7 y8))
  | 0 => ⟨fun _ _ _ _ _ _ _ _ r h => by simp [ambidexterlaw24_EncoderBoundedError.l0] at h, fun _ _ _ _ _ _ _ _ _ r h => by simp [ambidexterlaw24_EncoderBoundedError.j1] at h, fun _ _ _ _ _ _ _ _ _ r h => by simp [ambidexterlaw24_EncoderBoundedError.j2] at h⟩
  | k + 1 => by
    obtain ⟨ih0, ih1, ih2⟩ := ambidexterlaw24_EncoderBoundedError.mono_l k
    refine ⟨?_, ?_, ?_⟩
    · intro y0 y1 y2 y3 y4 y5 y6 y7
      unfold ambidexterlaw24_EncoderBoundedError.l0
      repeat' first
      | (with_reducible exact ih0 _ _ _ _ _ _ _ _)
      | (with_reducible exact ih1 _ _ _ _ _ _ _ _ _)
      | (with_reducible exact ih2 _ _ _ _ _ _ _ _ _)
      | (with_reducible exact LeO.refl _)
      | (with_reducible exact LeO.none _)
      | (with_reducible refine LeO.ite ?_ ?_)
      | (with_reducible refine LeO.bind ?_ (fun _ => ?_))
      | exact ih0 _ _ _ _ _ _ _ _
      | exact ih1 _ _ _ _ _ _ _ _ _
      | exact ih2 _ _ _ _ _ _ _ _ _
      | exact LeO.none _
      | refine LeO.ite ?_ ?_
      | refine LeO.bind ?_ (fun _ => ?_)
    · intro y0 y1 y2 y3 y4 y5 y6 y7 y8
      unfold ambidexterlaw24_EncoderBoundedError.j1
      repeat' first
      | (with_reducible exact ih0 _ _ _ _ _ _ _ _)
      | (with_reducible exact ih1 _ _ _ _ _ _ _ _ _)
      | (with_reducible exact ih2 _ _ _ _ _ _ _ _ _)
      | (with_reducible exact LeO.refl _)
      | (with_reducible exact LeO.none _)
      | (with_reducible refine LeO.ite ?_ ?_)
      | (with_reducible refine LeO.bind ?_ (fun _ => ?_))
      | exact ih0 _ _ _ _ _ _ _ _
      | exact ih1 _ _ _ _ _ _ _ _ _
      | exact ih2 _ _ _ _ _ _ _ _ _
      | exact LeO.none _
      | refine LeO.ite ?_ ?_
      | refine LeO.bind ?_ (fun _ => ?_)
    · intro y0 y1 y2 y3 y4 y5 y6 y7 y8
      unfold ambidexterlaw24_EncoderBoundedError.j2
      repeat' first
      | (with_reducible exact ih0 _ _ _ _ _ _ _ _)
      | (with_reducible exact ih1 _ _ _ _ _ _ _ _ _)
      | (with_reducible exact ih2 _ _ _ _ _ _ _ _ _)
      | (with_reducible exact LeO.refl _)
      | (with_reducible exact LeO.none _)
      | (with_reducible refine LeO.ite ?_ ?_)
      | (with_reducible refine LeO.bind ?_ (fun _ => ?_))
      | exact ih0 _ _ _ _ _ _ _ _
      | exact ih1 _ _ _ _ _ _ _ _ _
      | exact ih2 _ _ _ _ _ _ _ _ _
      | exact LeO.none _
      | refine LeO.ite ?_ ?_
      | refine LeO.bind ?_ (fun _ => ?_)
theorem ambidexterlaw24_EncoderBoundedError.mono : ∀ a0 a1 k, LeO (ambidexterlaw24_EncoderBoundedError.f k a0 a1) (ambidexterlaw24_EncoderBoundedError.f (k + 1) a0 a1) := by
  intro a0 a1 k
  obtain ⟨ih0, ih1, ih2⟩ := ambidexterlaw24_EncoderBoundedError.mono_l k
  unfold ambidexterlaw24_EncoderBoundedError.f
  repeat' first
      | (with_reducible exact ih0 _ _ _ _ _ _ _ _)
      | (with_reducible exact ih1 _ _ _ _ _ _ _ _ _)
      | (with_reducible exact ih2 _ _ _ _ _ _ _ _ _)
      | (with_reducible exact LeO.refl _)
      | (with_reducible exact LeO.none _)
      | (with_reducible refine LeO.ite ?_ ?_)
      | (with_reducible refine LeO.bind ?_ (fun _ => ?_))
      | exact ih0 _ _ _ _ _ _ _ _
      | exact ih1 _ _ _ _ _ _ _ _ _
      | exact ih2 _ _ _ _ _ _ _ _ _
      | exact LeO.none _
      | refine LeO.ite ?_ ?_
      | refine LeO.bind ?_ (fun _ => ?_)
def ambidexterlaw24_EncoderBoundedError.T17 : Bool × List (List Nat × List Nat) := (true, [([], []), ([], []), ([], []), ([1, 2], [1, 2]), ([3], [3]), ([4], [4]), ([5], [5]), ([0, 6], [0, 6]), ([7, 7, 0, 1, 2, 3, 4, 5, 6, 7], [7])])
def ambidexterlaw24_EncoderBoundedError.B17 : List Nat := [0, 0, 0, 6, 14, 30, 62, 127, 255]
theorem ambidexterlaw24_EncoderBoundedError.tab17 : rtab .any (opsOf Try.f4 17) = ambidexterlaw24_EncoderBoundedError.T17 := by kernel_rfl
theorem ambidexterlaw24_EncoderBoundedError.bits17 : waitsOk ambidexterlaw24_EncoderBoundedError.T17.2 ambidexterlaw24_EncoderBoundedError.B17 = true := by kernel_rfl
set_option maxHeartbeats 8000000 in
set_option maxRecDepth 100000 in
theorem ambidexterlaw24_EncoderBoundedError.calls0 (k : Nat) (a0 : Int) (A1 : Option Addr) (c1 : Nat) (l1 : List (S35)) (r : Bool) (w : World) (hr1 : Kd.C k35 w A1 l1.length l1) (hc1 : l1.length ≤ c1) (h : ambidexterlaw24_EncoderBoundedError.f k a0 l1 = some r) (hT : r = true) :
    Calls Try.prog 4 #[.int .i32 a0, .slice A1 l1.length c1] w fun e w' => e = .returned (.bool r) ∧ Below w.heap.size w w' := by
  have hu23 := Try.underlying23
  have HR1 := Aside0.mk hr1
  have HC1 := Aside0.mk hc1
  clear hr1 hc1
  have HB := Aside0.mk (Below.refl w.heap.size w)
  have H : ((ambidexterlaw24_head.f).bind fun t168 => (if (l1.length : Int) > 200 then (some t168) else ((encoder_New.f (wrap64 (a0))).bind fun bt169 => ((encoder_Quantize.f (wrap64 (a0))).bind fun t173 => (ambidexterlaw24_EncoderBoundedError.l0 k l1 t168 (wrap64 (a0)) t173 0 bt169.1 bt169.2.1 bt169.2.2))))) = some r := h
  clear h
  have HT := Aside0.mk hT
  clear hT
  replace H := Option.bind_eq_some_iff.mp H
  obtain ⟨t168, A30, H⟩ := H
  obtain rfl := ambidexterlaw24_head.is_true A30
  replace H : (if (l1.length : Int) > 200 then (some true) else ((encoder_New.f (wrap64 (a0))).bind fun bt169 => ((encoder_Quantize.f (wrap64 (a0))).bind fun t173 => (ambidexterlaw24_EncoderBoundedError.l0 k l1 true (wrap64 (a0)) t173 0 bt169.1 bt169.2.1 bt169.2.2)))) = some r := H
  have A3 := Aside0.mk A30
  clear A30
  by_cases c4 : (l1.length : Int) > 200
  · rw [if_pos c4] at H
    have c4b0 : decide (200 < (l1.length : Int)) = true := decide_eq_true c4
    have c4b1 : decide (200 < l1.length) = true := decide_eq_true (by omega)
    clear c4
    obtain rfl := Option.some.inj H
    go_enter Try.func4, Try.ntmps4
    go_wp2_with (first | ((with_reducible refine gate_callee (f := 15) rfl ?_); refine goesL_ (some 12) rfl rfl Try.func15 (by kernel_rfl) rfl #[] rfl (by (try simp only [List.map_toArray, List.map_cons, List.map_nil]); first | done | rfl | (simp only [List.length_drop, List.length_take]; rfl)) ?_; (with_reducible refine (ambidexterlaw24_head.calls  true _ A3.out).mono ?_); rintro e w5 ⟨rfl, hb⟩; refine ⟨_, rfl, ?_⟩; have n0_ := Aside0.mk (below_step (by repeat (first | (with_reducible first | exact HB.out | apply below_alloc | apply pw_below_drewN | apply below_drew1) | exact HB.out)) hb); clear HB; have HB := n0_; clear n0_; (try clear hb); (try clear hb2); (try clear hk); (try clear hi)))
    go_ret
    exact ⟨by first | rfl | (simp [errW_none, errW_some] <;> rfl) | (simp [*, errW_none, errW_some] <;> rfl), by repeat (first | (with_reducible first | exact HB.out | apply below_alloc | apply pw_below_drewN | apply below_drew1) | exact HB.out)⟩
  · rw [if_neg c4] at H
    have c4b0 : decide (200 < (l1.length : Int)) = false := decide_eq_false c4
    have c4b1 : decide (200 < l1.length) = false := decide_eq_false (by omega)
    clear c4
    replace H := Option.bind_eq_some_iff.mp H
    obtain ⟨⟨t169, t170, t171⟩, A60, H⟩ := H
    replace H : ((encoder_Quantize.f (wrap64 (a0))).bind fun t173 => (ambidexterlaw24_EncoderBoundedError.l0 k l1 true (wrap64 (a0)) t173 0 t169 t170 t171)) = some r := H
    have A6 := Aside0.mk A60
    clear A60
    replace H := Option.bind_eq_some_iff.mp H
    obtain ⟨t173, A70, H⟩ := H
    replace H : (ambidexterlaw24_EncoderBoundedError.l0 k l1 true (wrap64 (a0)) t173 0 t169 t170 t171) = some r := H
    have A7 := Aside0.mk A70
    clear A70
    have H' := Aside0.mk H
    clear H
    go_enter Try.func4, Try.ntmps4
    go_wp2_with (first | ((with_reducible refine gate_callee (f := 15) rfl ?_); refine goesL_ (some 12) rfl rfl Try.func15 (by kernel_rfl) rfl #[] rfl (by (try simp only [List.map_toArray, List.map_cons, List.map_nil]); first | done | rfl | (simp only [List.length_drop, List.length_take]; rfl)) ?_; (with_reducible refine (ambidexterlaw24_head.calls  true _ A3.out).mono ?_); rintro e w8 ⟨rfl, hb⟩; refine ⟨_, rfl, ?_⟩; have n0_ := Aside0.mk (below_step (by repeat (first | (with_reducible first | exact HB.out | apply below_alloc | apply pw_below_drewN | apply below_drew1) | exact HB.out)) hb); clear HB; have HB := n0_; clear n0_; (try clear hb); (try clear hb2); (try clear hk); (try clear hi)) | ((with_reducible refine gate_callee (f := 19) rfl ?_); refine goesL_ (some 20) rfl rfl Try.func19 (by kernel_rfl) rfl #[.int .i64 (wrap64 (a0))] rfl (by (try simp only [List.map_toArray, List.map_cons, List.map_nil]); first | done | rfl | (simp only [List.length_drop, List.length_take]; rfl)) ?_; (with_reducible refine (encoder_New.calls (wrap64 (a0)) t169 t170 t171 _ A6.out).mono ?_); rintro e w9 ⟨rfl, hb⟩; refine ⟨_, rfl, ?_⟩; have n0_ := Aside0.mk (below_step (by repeat (first | (with_reducible first | exact HB.out | apply below_alloc | apply pw_below_drewN | apply below_drew1) | exact HB.out)) hb); clear HB; have HB := n0_; clear n0_; (try clear hb); (try clear hb2); (try clear hk); (try clear hi)) | ((with_reducible refine gate_dst (N := 7) rfl ?_); refine box_event ?hg (N := 7) ?hd (cs := #[.int .i64 0, .int .i64 0, .int .i64 0]) (t := 23) ?hr ?_; (case hd => rfl); (case hg => rfl); (case hr => first | (go_simp; done) | (go_simp; rfl)); intro gb172 hg w10 hbox hb; have n0_ := Aside0.mk (below_step (by repeat (first | (with_reducible first | exact HB.out | apply below_alloc | apply pw_below_drewN | apply below_drew1) | exact HB.out)) hb); have n1_ := Aside0.mk (hbox); have n2_ := Aside0.mk ((by rw [hg]; exact (below_size (by repeat (first | (with_reducible first | exact HB.out | apply below_alloc | apply pw_below_drewN | apply below_drew1) | exact HB.out))) : w.heap.size ≤ gb172)); have n3_ := Aside0.mk ((by rw [hg]; exact (below_size (by repeat (first | (with_reducible first | exact HB.out | apply below_alloc | apply pw_below_drewN | apply below_drew1) | exact HB.out))) : w.heap.size ≤ gb172)); clear HB; have HB := n0_; have BK172 := n1_; have GW172 := n2_; have GE172 := n3_; clear n0_ n1_ n2_ n3_; clear hb hbox hg; have hcz11_0 : w10.cell? ⟨gb172, 0, none⟩ = some (.int .i64 0) := (blk_cell BK172.out 0).trans rfl; have hcz11_1 : w10.cell? ⟨gb172, 1, none⟩ = some (.int .i64 0) := (blk_cell BK172.out 1).trans rfl; have hcz11_2 : w10.cell? ⟨gb172, 2, none⟩ = some (.int .i64 0) := (blk_cell BK172.out 2).trans rfl; have hfz11_0 := blk_frozen BK172.out 0; have hfz11_1 := blk_frozen BK172.out 1; have hfz11_2 := blk_frozen BK172.out 2) | ((with_reducible refine gate_callee (f := 17) rfl ?_); refine goesL_ (some 22) rfl rfl Try.func17 (by kernel_rfl) rfl #[.int .i64 (wrap64 (a0))] rfl (by (try simp only [List.map_toArray, List.map_cons, List.map_nil]); first | done | rfl | (simp only [List.length_drop, List.length_take]; rfl)) ?_; (with_reducible refine (encoder_Quantize.calls (wrap64 (a0)) t173 _ A7.out).mono ?_); rintro e w' ⟨rfl, ⟨nd, rfl⟩⟩; refine ⟨_, rfl, ?_⟩))
    go_loopg [6, 8, 9] k (fun kq v6 v8 v9 w' => ∃ (x6_1 : Int) (x8_1 : Int) (x9_1 : Int) (x173000_1 : Int) (x173001_1 : Int) (x173002_1 : Int), v6 = .int .i64 x6_1 ∧ v8 = .int .i64 x8_1 ∧ v9 = .int .i64 x9_1 ∧ Aside0 (ambidexterlaw24_EncoderBoundedError.l0 kq l1 true x6_1 x8_1 x9_1 x173000_1 x173001_1 x173002_1 = some r) ∧ Aside0 (kq ≤ k) ∧ Aside0 (w'.heap[gb172]? = some (.cells #[.int .i64 x173000_1, .int .i64 x173001_1, .int .i64 x173002_1] 23 (0, 0))) ∧ Aside0 (Below w.heap.size w w'))
    case atStart => exact ⟨(wrap64 (a0)), (t173), (0), (t169), (t170), (t171), (by first | rfl | (simp; done) | (simp [*]; done)), (by first | rfl | (simp; done) | (simp [*]; done)), (by first | rfl | (simp; done) | (simp [*]; done)), H', ⟨Nat.le_refl _⟩, ⟨by (with_reducible repeat (first | refine blk_drewN ?_ _ | refine blk_drew ?_ | refine blk_alloc ?_ _)); refine blk_put (cs := #[.int .i64 t169, .int .i64 t170, .int .i64 0]) ?_ 2 _ rfl; (with_reducible repeat (first | refine blk_drewN ?_ _ | refine blk_drew ?_ | refine blk_alloc ?_ _)); refine blk_put (cs := #[.int .i64 t169, .int .i64 0, .int .i64 0]) ?_ 1 _ rfl; (with_reducible repeat (first | refine blk_drewN ?_ _ | refine blk_drew ?_ | refine blk_alloc ?_ _)); refine blk_put (cs := #[.int .i64 0, .int .i64 0, .int .i64 0]) ?_ 0 _ rfl; (with_reducible repeat (first | refine blk_drewN ?_ _ | refine blk_drew ?_ | refine blk_alloc ?_ _)); exact BK172.out⟩, ⟨by repeat (first | (with_reducible first | exact HB.out | apply below_alloc | apply pw_below_drewN | apply below_drew1 | refine below_set ?_ GE172.out) | exact HB.out)⟩⟩
    case round =>
      clear H'
      try clear c1
      try clear p2
      try clear c4
      try clear c4b0
      try clear c4b1
      try clear p6
      try clear hcz11_0
      try clear hcz11_1
      try clear hcz11_2
      try clear hfz11_0
      try clear hfz11_1
      try clear hfz11_2
      obtain ⟨x6_1, x8_1, x9_1, x173000_1, x173001_1, x173002_1, rfl, rfl, rfl, HA, HK1, BK172, HB⟩ := hrel
      cases gk with
      | zero => exact absurd HA.out (by simp [ambidexterlaw24_EncoderBoundedError.l0])
      | succ k1 =>
        have H := HA.out
        clear HA
        simp only [ambidexterlaw24_EncoderBoundedError.l0] at H
        by_cases c12 : x9_1 < (l1.length : Int)
        · rw [if_pos c12] at H
          have c12b0 : decide (x9_1 < (l1.length : Int)) = true := decide_eq_true c12
          clear c12
          by_cases c13 : 0 ≤ x9_1
          · rw [if_pos c13] at H
            have c13b0 : decide (0 ≤ x9_1) = true := decide_eq_true c13
            clear c13
            have HC14 := Aside0.mk H
            clear H
            have p174 : 0 ≤ (x9_1 : Int) := of_decide_eq_true (by first | (with_reducible assumption) | assumption)
            have q174 : x9_1 < (l1.length : Int) := of_decide_eq_true (by first | (with_reducible assumption) | assumption)
            obtain ⟨ad174, e174, hx174_0, hx174_1⟩ := at_T35 HR1.out x9_1 p174 q174
            cases e174
            replace hx174_0 := (HB.out.cell (World.block_lt_of_cell? w _ hx174_0)).trans hx174_0
            replace hx174_1 := (HB.out.cell (World.block_lt_of_cell? w _ hx174_1)).trans hx174_1
            replace p174 := eq_true p174
            replace q174 := eq_true q174
            go_upto_if 37 with (fail)
            go_cut [8] (fun v8 wc => ∃ (kq : Nat) (x8_13 : Int), v8 = .int .i64 x8_13 ∧ Aside0 (ambidexterlaw24_EncoderBoundedError.j1 kq l1 true x6_1 x8_13 x9_1 (Int.tmod (wrap64 ((rd_T35 l1 x9_1).f1)) 4) x173000_1 x173001_1 x173002_1 = some r) ∧ Aside0 (kq ≤ k1) ∧ Aside0 (wc.heap[gb172]? = some (.cells #[.int .i64 x173000_1, .int .i64 x173001_1, .int .i64 x173002_1] 23 (0, 0))) ∧ Aside0 (Below w.heap.size w wc))
            case first =>
              have H := HC14.out
              clear HC14
              by_cases c15 : (Int.tmod (wrap64 ((rd_T35 l1 x9_1).f1)) 4) = 1
              · rw [if_pos c15] at H
                have c15b0 : ((Int.tmod (wrap64 ((rd_T35 l1 x9_1).f1)) 4) == 1) = true := beq_iff_eq.mpr c15
                have c15b1 : ((Int.tmod (wrap64 ((rd_T35 l1 x9_1).f1)) 4) != 1) = false := bne_eq_false_iff_eq.mpr c15
                clear c15
                (first | rw [c15b0] | (simp only [i64_w, i32_w]; rw [c15b0]) | skip)
                replace H := Option.bind_eq_some_iff.mp H
                obtain ⟨t175, A160, H⟩ := H
                replace H : (ambidexterlaw24_EncoderBoundedError.j1 k1 l1 true x6_1 t175 x9_1 (Int.tmod (wrap64 ((rd_T35 l1 x9_1).f1)) 4) x173000_1 x173001_1 x173002_1) = some r := H
                have A16 := Aside0.mk A160
                clear A160
                have H' := Aside0.mk H
                clear H
                go_wp2_with (first | ((with_reducible refine gate_callee (f := 17) rfl ?_); refine goesL_ (some 39) rfl rfl Try.func17 (by kernel_rfl) rfl #[.int .i64 x6_1] rfl (by (try simp only [List.map_toArray, List.map_cons, List.map_nil]); first | done | rfl | (simp only [List.length_drop, List.length_take]; rfl)) ?_; (with_reducible refine (encoder_Quantize.calls x6_1 t175 _ A16.out).mono ?_); rintro e w' ⟨rfl, ⟨nd, rfl⟩⟩; refine ⟨_, rfl, ?_⟩))
                go_meet
                case rel => exact ⟨_, (t175), (by first | rfl | (simp; done) | (simp [*]; done)), H', ⟨by have := HK1.out; first | omega | exact Nat.le_refl _⟩, ⟨by (with_reducible repeat (first | refine blk_drewN ?_ _ | refine blk_drew ?_ | refine blk_alloc ?_ _)); exact BK172.out⟩, ⟨by repeat (first | (with_reducible first | exact HB.out | apply below_alloc | apply pw_below_drewN | apply below_drew1 | refine below_set ?_ GE172.out) | exact HB.out)⟩⟩
              · rw [if_neg c15] at H
                have c15b0 : ((Int.tmod (wrap64 ((rd_T35 l1 x9_1).f1)) 4) == 1) = false := beq_eq_false_iff_ne.mpr c15
                have c15b1 : ((Int.tmod (wrap64 ((rd_T35 l1 x9_1).f1)) 4) != 1) = true := bne_iff_ne.mpr c15
                (first | rw [c15b0] | (simp only [i64_w, i32_w]; rw [c15b0]) | skip)
                have H' := Aside0.mk H
                clear H
                go_wp2
                go_meet
                case rel => exact ⟨_, (x8_1), (by first | rfl | (simp; done) | (simp [*]; done)), H', ⟨by have := HK1.out; first | omega | exact Nat.le_refl _⟩, ⟨by (with_reducible repeat (first | refine blk_drewN ?_ _ | refine blk_drew ?_ | refine blk_alloc ?_ _)); exact BK172.out⟩, ⟨by repeat (first | (with_reducible first | exact HB.out | apply below_alloc | apply pw_below_drewN | apply below_drew1 | refine below_set ?_ GE172.out) | exact HB.out)⟩⟩
            case rest =>
              clear HC14
              try clear c1
              try clear p1
              try clear q1
              try clear hx1
              try clear p2
              try clear c4
              try clear c4b0
              try clear c4b1
              try clear p6
              try clear c12
              try clear c12b0
              try clear c13
              try clear c13b0
              try clear c15
              try clear c15b0
              try clear c15b1
              try clear hcz11_0
              try clear hcz11_1
              try clear hcz11_2
              try clear hfz11_0
              try clear hfz11_1
              try clear hfz11_2
              try clear hx174_0
              try clear hx174_1
              try clear p174
              try clear p2
              try clear p6
              try clear q174
              obtain ⟨kq, x8_13, rfl, HA, HJ13, BK172, HB⟩ := hcut
              cases kq with
              | zero => exact absurd HA.out (by simp [ambidexterlaw24_EncoderBoundedError.j1])
              | succ kj13 =>
                have H := HA.out
                clear HA
                simp only [ambidexterlaw24_EncoderBoundedError.j1] at H
                replace H := Option.bind_eq_some_iff.mp H
                obtain ⟨⟨t176, t177, t178⟩, A170, H⟩ := H
                replace H : ((encoder_Estimate.f t176 t177 t178).bind fun t179 => (if (wrap64 (t179 - x6_1)) < (-8) then (ambidexterlaw24_EncoderBoundedError.j2 kj13 l1 true x6_1 x8_13 x9_1 true t176 t177 t178) else (ambidexterlaw24_EncoderBoundedError.j2 kj13 l1 true x6_1 x8_13 x9_1 (decide ((wrap64 (t179 - x6_1)) > 8)) t176 t177 t178))) = some r := H
                have A17 := Aside0.mk A170
                clear A170
                replace H := Option.bind_eq_some_iff.mp H
                obtain ⟨t179, A180, H⟩ := H
                replace H : (if (wrap64 (t179 - x6_1)) < (-8) then (ambidexterlaw24_EncoderBoundedError.j2 kj13 l1 true x6_1 x8_13 x9_1 true t176 t177 t178) else (ambidexterlaw24_EncoderBoundedError.j2 kj13 l1 true x6_1 x8_13 x9_1 (decide ((wrap64 (t179 - x6_1)) > 8)) t176 t177 t178)) = some r := H
                have A18 := Aside0.mk A180
                clear A180
                have HC19 := Aside0.mk H
                clear H
                have hcz20_0 : wc.cell? ⟨gb172, 0, none⟩ = some (.int .i64 x173000_1) := (blk_cell BK172.out 0).trans rfl
                have hcz20_1 : wc.cell? ⟨gb172, 1, none⟩ = some (.int .i64 x173001_1) := (blk_cell BK172.out 1).trans rfl
                have hcz20_2 : wc.cell? ⟨gb172, 2, none⟩ = some (.int .i64 x173002_1) := (blk_cell BK172.out 2).trans rfl
                have hfz20_0 := blk_frozen BK172.out 0
                have hfz20_1 := blk_frozen BK172.out 1
                have hfz20_2 := blk_frozen BK172.out 2
                go_upto_region 15 with (first | ((with_reducible refine gate_callee (f := 21) rfl ?_); refine goesL_ (some 43) rfl rfl Try.func21 (by kernel_rfl) rfl #[.agg #[.int .i64 x173000_1, .int .i64 x173001_1, .int .i64 x173002_1], .int .i64 (Int.tmod (wrap64 ((rd_T35 l1 x9_1).f1)) 4), .int .i64 x8_13] rfl (by (try simp only [List.map_toArray, List.map_cons, List.map_nil]); first | done | rfl | (simp only [List.length_drop, List.length_take]; rfl)) ?_; (with_reducible refine (encoder_Observe.calls x173000_1 x173001_1 x173002_1 (Int.tmod (wrap64 ((rd_T35 l1 x9_1).f1)) 4) x8_13 t176 t177 t178 _ A17.out).mono ?_); rintro e w21 ⟨rfl, hb⟩; refine ⟨_, rfl, ?_⟩; have n0_ := Aside0.mk (blk_below (g := gb172) (o := .cells #[.int .i64 x173000_1, .int .i64 x173001_1, .int .i64 x173002_1] 23 (0, 0)) (by (with_reducible repeat (first | refine blk_drewN ?_ _ | refine blk_drew ?_ | refine blk_alloc ?_ _)); exact BK172.out) hb); have n1_ := Aside0.mk (below_step (by repeat (first | (with_reducible first | exact HB.out | apply below_alloc | apply pw_below_drewN | apply below_drew1 | refine below_set ?_ GE172.out) | exact HB.out)) hb); clear BK172; clear HB; have BK172 := n0_; have HB := n1_; clear n0_ n1_; (try clear hb); (try clear hb2); (try clear hk); (try clear hi); have hcz22_0 : w21.cell? ⟨gb172, 0, none⟩ = some (.int .i64 x173000_1) := (blk_cell BK172.out 0).trans rfl; have hcz22_1 : w21.cell? ⟨gb172, 1, none⟩ = some (.int .i64 x173001_1) := (blk_cell BK172.out 1).trans rfl; have hcz22_2 : w21.cell? ⟨gb172, 2, none⟩ = some (.int .i64 x173002_1) := (blk_cell BK172.out 2).trans rfl; have hfz22_0 := blk_frozen BK172.out 0; have hfz22_1 := blk_frozen BK172.out 1; have hfz22_2 := blk_frozen BK172.out 2) | ((with_reducible refine gate_callee (f := 25) rfl ?_); refine goesL_ (some 45) rfl rfl Try.func25 (by kernel_rfl) rfl #[.agg #[.int .i64 t176, .int .i64 t177, .int .i64 t178]] rfl (by (try simp only [List.map_toArray, List.map_cons, List.map_nil]); first | done | rfl | (simp only [List.length_drop, List.length_take]; rfl)) ?_; (with_reducible refine (encoder_Estimate.calls t176 t177 t178 t179 _ A18.out).mono ?_); rintro e w23 ⟨rfl, hb⟩; refine ⟨_, rfl, ?_⟩; have n0_ := Aside0.mk (blk_below (g := gb172) (o := .cells #[.int .i64 t176, .int .i64 t177, .int .i64 t178] 23 (0, 0)) (by (with_reducible repeat (first | refine blk_drewN ?_ _ | refine blk_drew ?_ | refine blk_alloc ?_ _)); refine blk_put (cs := #[.int .i64 t176, .int .i64 t177, .int .i64 x173002_1]) ?_ 2 _ rfl; (with_reducible repeat (first | refine blk_drewN ?_ _ | refine blk_drew ?_ | refine blk_alloc ?_ _)); refine blk_put (cs := #[.int .i64 t176, .int .i64 x173001_1, .int .i64 x173002_1]) ?_ 1 _ rfl; (with_reducible repeat (first | refine blk_drewN ?_ _ | refine blk_drew ?_ | refine blk_alloc ?_ _)); refine blk_put (cs := #[.int .i64 x173000_1, .int .i64 x173001_1, .int .i64 x173002_1]) ?_ 0 _ rfl; (with_reducible repeat (first | refine blk_drewN ?_ _ | refine blk_drew ?_ | refine blk_alloc ?_ _)); exact BK172.out) hb); have n1_ := Aside0.mk (below_step (by repeat (first | (with_reducible first | exact HB.out | apply below_alloc | apply pw_below_drewN | apply below_drew1 | refine below_set ?_ GE172.out) | exact HB.out)) hb); clear BK172; clear HB; have BK172 := n0_; have HB := n1_; clear n0_ n1_; (try clear hb); (try clear hb2); (try clear hk); (try clear hi)))
                (try simp only [Act.put, List.setIfInBounds_toArray, List.set_cons_zero, List.set_cons_succ])
                go_cut [53] (fun v53 wc => ∃ (kq : Nat) (x53_18 : Bool), v53 = .bool x53_18 ∧ Aside0 (ambidexterlaw24_EncoderBoundedError.j2 kq l1 true x6_1 x8_13 x9_1 x53_18 t176 t177 t178 = some r) ∧ Aside0 (kq ≤ kj13) ∧ Aside0 (wc.heap[gb172]? = some (.cells #[.int .i64 t176, .int .i64 t177, .int .i64 t178] 23 (0, 0))) ∧ Aside0 (Below w.heap.size w wc))
                case first =>
                  have H := HC19.out
                  clear HC19
                  by_cases c24 : (wrap64 (t179 - x6_1)) < (-8)
                  · rw [if_pos c24] at H
                    have c24b0 : decide ((wrap64 (t179 - x6_1)) < (-8)) = true := decide_eq_true c24
                    clear c24
                    (first | rw [c24b0] | (simp only [i64_w, i32_w]; rw [c24b0]) | skip)
                    have H' := Aside0.mk H
                    clear H
                    go_wp2
                    go_meet
                    case rel => exact ⟨_, (true), (by first | rfl | (simp; done) | (simp [*]; done)), H', ⟨by have := HK1.out; have := HJ13.out; first | omega | exact Nat.le_refl _⟩, ⟨by (with_reducible repeat (first | refine blk_drewN ?_ _ | refine blk_drew ?_ | refine blk_alloc ?_ _)); exact BK172.out⟩, ⟨by repeat (first | (with_reducible first | exact HB.out | apply below_alloc | apply pw_below_drewN | apply below_drew1 | refine below_set ?_ GE172.out) | exact HB.out)⟩⟩
                  · rw [if_neg c24] at H
                    have c24b0 : decide ((wrap64 (t179 - x6_1)) < (-8)) = false := decide_eq_false c24
                    clear c24
                    (first | rw [c24b0] | (simp only [i64_w, i32_w]; rw [c24b0]) | skip)
                    have H' := Aside0.mk H
                    clear H
                    go_wp2
                    go_meet
                    case rel => exact ⟨_, (decide ((wrap64 (t179 - x6_1)) > 8)), (by first | rfl | (simp; done) | (simp [*]; done)), H', ⟨by have := HK1.out; have := HJ13.out; first | omega | exact Nat.le_refl _⟩, ⟨by (with_reducible repeat (first | refine blk_drewN ?_ _ | refine blk_drew ?_ | refine blk_alloc ?_ _)); exact BK172.out⟩, ⟨by repeat (first | (with_reducible first | exact HB.out | apply below_alloc | apply pw_below_drewN | apply below_drew1 | refine below_set ?_ GE172.out) | exact HB.out)⟩⟩
                case rest =>
                  clear HC19
                  try clear c1
                  try clear p1
                  try clear q1
                  try clear hx1
                  try clear c2
                  try clear p2
                  try clear c4
                  try clear c4b0
                  try clear c4b1
                  try clear p6
                  try clear c12
                  try clear c12b0
                  try clear c13
                  try clear c13b0
                  try clear c15
                  try clear c15b0
                  try clear c15b1
                  try clear c17
                  try clear p17
                  try clear q17
                  try clear hx17
                  try clear c19
                  try clear c21
                  try clear c24
                  try clear c24b0
                  try clear hcz11_0
                  try clear hcz11_1
                  try clear hcz11_2
                  try clear hcz20_0
                  try clear hcz20_1
                  try clear hcz20_2
                  try clear hcz22_0
                  try clear hcz22_1
                  try clear hcz22_2
                  try clear hfz11_0
                  try clear hfz11_1
                  try clear hfz11_2
                  try clear hfz20_0
                  try clear hfz20_1
                  try clear hfz20_2
                  try clear hfz22_0
                  try clear hfz22_1
                  try clear hfz22_2
                  try clear hx174_0
                  try clear hx174_1
                  try clear p1
                  try clear p174
                  try clear p2
                  try clear p6
                  try clear q1
                  try clear q174
                  obtain ⟨kq, x53_18, rfl, HA, HJ18, BK172, HB⟩ := hcut
                  cases kq with
                  | zero => exact absurd HA.out (by simp [ambidexterlaw24_EncoderBoundedError.j2])
                  | succ kj18 =>
                    have H := HA.out
                    clear HA
                    simp only [ambidexterlaw24_EncoderBoundedError.j2] at H
                    by_cases c25 : x53_18 = true
                    · subst c25
                      have H1 : (some false) = some r := by rw [if_pos rfl] at H; exact H
                      clear H
                      have H := H1
                      clear H1
                      exact absurd HT.out (by rw [← Option.some.inj H]; decide)
                    · replace c25 := Bool.eq_false_iff.mpr c25
                      subst c25
                      have H1 : (if 0 ≤ x9_1 then (if x9_1 < (l1.length : Int) then ((encoder_Command.f t176 t177 t178 (wrap64 ((rd_T35 l1 x9_1).f0))).bind fun bt181 => ((encoder_Estimate.f bt181.1 bt181.2.1 bt181.2.2).bind fun t185 => (if (wrap64 (t185 - (wrap64 (x6_1 + (wrap64 ((rd_T35 l1 x9_1).f0)))))) < (-8) then (some false) else (if (wrap64 (t185 - (wrap64 (x6_1 + (wrap64 ((rd_T35 l1 x9_1).f0)))))) > 8 then (some false) else (ambidexterlaw24_EncoderBoundedError.l0 kj18 l1 true (wrap64 (x6_1 + (wrap64 ((rd_T35 l1 x9_1).f0)))) x8_13 (wrap64 (x9_1 + 1)) bt181.1 bt181.2.1 bt181.2.2))))) else (none)) else (none)) = some r := by rw [if_neg (show ¬ (false = true) by decide)] at H; exact H
                      clear H
                      have H := H1
                      clear H1
                      by_cases c26 : 0 ≤ x9_1
                      · rw [if_pos c26] at H
                        have c26b0 : decide (0 ≤ x9_1) = true := decide_eq_true c26
                        clear c26
                        by_cases c27 : x9_1 < (l1.length : Int)
                        · rw [if_pos c27] at H
                          have c27b0 : decide (x9_1 < (l1.length : Int)) = true := decide_eq_true c27
                          clear c27
                          replace H := Option.bind_eq_some_iff.mp H
                          obtain ⟨⟨t181, t182, t183⟩, A280, H⟩ := H
                          replace H : ((encoder_Estimate.f t181 t182 t183).bind fun t185 => (if (wrap64 (t185 - (wrap64 (x6_1 + (wrap64 ((rd_T35 l1 x9_1).f0)))))) < (-8) then (some false) else (if (wrap64 (t185 - (wrap64 (x6_1 + (wrap64 ((rd_T35 l1 x9_1).f0)))))) > 8 then (some false) else (ambidexterlaw24_EncoderBoundedError.l0 kj18 l1 true (wrap64 (x6_1 + (wrap64 ((rd_T35 l1 x9_1).f0)))) x8_13 (wrap64 (x9_1 + 1)) t181 t182 t183)))) = some r := H
                          have A28 := Aside0.mk A280
                          clear A280
                          replace H := Option.bind_eq_some_iff.mp H
                          obtain ⟨t185, A290, H⟩ := H
                          replace H : (if (wrap64 (t185 - (wrap64 (x6_1 + (wrap64 ((rd_T35 l1 x9_1).f0)))))) < (-8) then (some false) else (if (wrap64 (t185 - (wrap64 (x6_1 + (wrap64 ((rd_T35 l1 x9_1).f0)))))) > 8 then (some false) else (ambidexterlaw24_EncoderBoundedError.l0 kj18 l1 true (wrap64 (x6_1 + (wrap64 ((rd_T35 l1 x9_1).f0)))) x8_13 (wrap64 (x9_1 + 1)) t181 t182 t183))) = some r := H
                          have A29 := Aside0.mk A290
                          clear A290
                          by_cases c30 : (wrap64 (t185 - (wrap64 (x6_1 + (wrap64 ((rd_T35 l1 x9_1).f0)))))) < (-8)
                          · rw [if_pos c30] at H
                            have c30b0 : decide ((wrap64 (t185 - (wrap64 (x6_1 + (wrap64 ((rd_T35 l1 x9_1).f0)))))) < (-8)) = true := decide_eq_true c30
                            clear c30
                            exact absurd HT.out (by rw [← Option.some.inj H]; decide)
                          · rw [if_neg c30] at H
                            have c30b0 : decide ((wrap64 (t185 - (wrap64 (x6_1 + (wrap64 ((rd_T35 l1 x9_1).f0)))))) < (-8)) = false := decide_eq_false c30
                            clear c30
                            by_cases c31 : (wrap64 (t185 - (wrap64 (x6_1 + (wrap64 ((rd_T35 l1 x9_1).f0)))))) > 8
                            · rw [if_pos c31] at H
                              have c31b0 : decide (8 < (wrap64 (t185 - (wrap64 (x6_1 + (wrap64 ((rd_T35 l1 x9_1).f0))))))) = true := decide_eq_true c31
                              clear c31
                              exact absurd HT.out (by rw [← Option.some.inj H]; decide)
                            · rw [if_neg c31] at H
                              have c31b0 : decide (8 < (wrap64 (t185 - (wrap64 (x6_1 + (wrap64 ((rd_T35 l1 x9_1).f0))))))) = false := decide_eq_false c31
                              clear c31
                              have H' := Aside0.mk H
                              clear H
                              try go_wp2
                              have n0_ := Aside0.mk (blk_drew BK172.out)
                              have n1_ := Aside0.mk (below_drew1 HB.out)
                              clear BK172
                              clear HB
                              have BK172 := n0_
                              have HB := n1_
                              clear n0_ n1_
                              have p180 : 0 ≤ (x9_1 : Int) := of_decide_eq_true (by first | (with_reducible assumption) | assumption)
                              have q180 : x9_1 < (l1.length : Int) := of_decide_eq_true (by first | (with_reducible assumption) | assumption)
                              obtain ⟨ad180, e180, hx180_0, hx180_1⟩ := at_T35 HR1.out x9_1 p180 q180
                              have hw180_1 := hx180_1
                              have hw180_0 := hx180_0
                              obtain rfl : ad174 = ad180 := (by injection e180)
                              replace hx180_0 := (HB.out.cell (World.block_lt_of_cell? w _ hx180_0)).trans hx180_0
                              replace hx180_1 := (HB.out.cell (World.block_lt_of_cell? w _ hx180_1)).trans hx180_1
                              replace p180 := eq_true p180
                              replace q180 := eq_true q180
                              refine start_ (n := 9) (S := fun w' => w'.cell? ⟨gb172, 0, none⟩ = some (.int .i64 t176) ∧ w'.cell? ⟨gb172, 1, none⟩ = some (.int .i64 t177) ∧ w'.cell? ⟨gb172, 2, none⟩ = some (.int .i64 t178) ∧ w'.cell? (ad174.add ((x9_1).toNat * 2)) = some (.int .i16 ((rd_T35 l1 x9_1).f0)) ∧ w'.cell? ⟨(ad174.add ((x9_1).toNat * 2)).block, (ad174.add ((x9_1).toNat * 2)).off + 1, none⟩ = some (.int .u8 ((rd_T35 l1 x9_1).f1))) (ds := [8]) #[false, false, false, false, false, false, false, false, false] (by kernel_rfl) rfl rfl ⟨(blk_cell BK172.out 0).trans rfl, (blk_cell BK172.out 1).trans rfl, (blk_cell BK172.out 2).trans rfl, ((HB.out.cell (World.block_lt_of_cell? w _ hw180_0)).trans hw180_0), ((HB.out.cell (World.block_lt_of_cell? w _ hw180_1)).trans hw180_1)⟩ (fun hHeld => ?_); refine with_tabW ambidexterlaw24_EncoderBoundedError.tab17 ambidexterlaw24_EncoderBoundedError.bits17 (fun HT_ HW_ => ?_)
                              generalize wc.drew = w32 at BK172 HB hx180_0 hx180_1 hHeld ⊢
                              refine pure_ (i := 1) (N := some 55) (v := ?_) (a' := ?_) #[false, true, false, false, false, false, false, false, false] rfl rfl (any_of HT_.out (by kernel_rfl)) (fun _ _ _ h => h) (Or.inl ⟨by rfl, ?_⟩) ?_ ?_
                              rotate_left
                              · intro w'
                                go_simp
                                with_reducible rfl
                              rotate_left
                              · simp only [Act.put, List.setIfInBounds_toArray, List.set_cons_zero, List.set_cons_succ, i64_w, i32_w]
                                rfl
                              refine pure_ (i := 2) (N := some 56) (v := ?_) (a' := ?_) #[false, true, true, false, false, false, false, false, false] rfl rfl (any_of HT_.out (by kernel_rfl)) (fun _ _ _ h => h) (Or.inl ⟨by rfl, ?_⟩) ?_ ?_
                              rotate_left
                              · intro w'
                                go_simp
                                with_reducible rfl
                              rotate_left
                              · simp only [Act.put, List.setIfInBounds_toArray, List.set_cons_zero, List.set_cons_succ, i64_w, i32_w]
                                rfl
                              refine pure_ (i := 3) (N := some 57) (v := ?_) (a' := ?_) #[false, true, true, true, false, false, false, false, false] rfl rfl (any_of HT_.out (by kernel_rfl)) (fun _ _ _ h => h) (Or.inl ⟨by rfl, ?_⟩) ?_ ?_
                              rotate_left
                              · intro w'
                                go_simp
                                with_reducible rfl
                              rotate_left
                              · simp only [Act.put, List.setIfInBounds_toArray, List.set_cons_zero, List.set_cons_succ, i64_w, i32_w]
                                rfl
                              refine pure_ (i := 4) (N := some 58) (v := ?_) (a' := ?_) #[false, true, true, true, true, false, false, false, false] rfl rfl (any_of HT_.out (by kernel_rfl)) (fun _ _ _ h => h) (Or.inl ⟨by rfl, ?_⟩) ?_ ?_
                              rotate_left
                              · intro w'
                                go_simp
                                with_reducible rfl
                              rotate_left
                              · simp only [Act.put, List.setIfInBounds_toArray, List.set_cons_zero, List.set_cons_succ, i64_w, i32_w]
                                rfl
                              refine take_ (i := 0) (N := some 54) (v := ?_) (a' := ?_) #[true, true, true, true, true, false, false, false, false] rfl rfl (take_ofW HT_.out HW_.out (by kernel_rfl)) (fun _ _ _ h => h) (Or.inl ⟨by rfl, ?_⟩) hHeld ?_ ?_
                              rotate_left
                              · rintro w' ⟨s0, s1, s2, s3, s4⟩
                                go_simp
                                with_reducible rfl
                              rotate_left
                              · simp only [Act.put, List.setIfInBounds_toArray, List.set_cons_zero, List.set_cons_succ, i64_w, i32_w]
                                rfl
                              refine take_ (i := 5) (N := some 59) (v := ?_) (a' := ?_) #[true, true, true, true, true, true, false, false, false] rfl rfl (take_ofW HT_.out HW_.out (by kernel_rfl)) (fun _ _ _ h => h) (Or.inl ⟨by rfl, ?_⟩) hHeld ?_ ?_
                              rotate_left
                              · rintro w' ⟨s0, s1, s2, s3, s4⟩
                                go_simp
                                with_reducible rfl
                              rotate_left
                              · simp only [Act.put, List.setIfInBounds_toArray, List.set_cons_zero, List.set_cons_succ, i64_w, i32_w]
                                rfl
                              refine pure_ (i := 6) (N := some 60) (v := ?_) (a' := ?_) #[true, true, true, true, true, true, true, false, false] rfl rfl (any_of HT_.out (by kernel_rfl)) (fun _ _ _ h => h) (Or.inl ⟨by rfl, ?_⟩) ?_ ?_
                              rotate_left
                              · intro w'
                                go_simp
                                with_reducible rfl
                              rotate_left
                              · simp only [Act.put, List.setIfInBounds_toArray, List.set_cons_zero, List.set_cons_succ, i64_w, i32_w]
                                rfl
                              refine one_ (i := 7) (N := some 61) #[true, true, true, true, true, true, true, true, false] rfl rfl (one_of HT_.out (by kernel_rfl)) (by decide) (fun K hK => ?_)
                              refine goes_ Try.func23 (by kernel_rfl) rfl #[.agg #[.int .i64 t176, .int .i64 t177, .int .i64 t178], .int .i64 (wrap64 ((rd_T35 l1 x9_1).f0))] (by rfl) rfl rfl (by (try simp only [List.map_toArray, List.map_cons, List.map_nil]); first | done | rfl | (simp only [List.length_drop, List.length_take]; rfl)) ?_
                              with_reducible refine (encoder_Command.calls t176 t177 t178 (wrap64 ((rd_T35 l1 x9_1).f0)) t181 t182 t183 _ A28.out).mono ?_
                              rintro e w33 ⟨rfl, hb⟩
                              refine ⟨_, rfl, ?_⟩
                              have n0_ := Aside0.mk (blk_below (g := gb172) (o := .cells #[.int .i64 t176, .int .i64 t177, .int .i64 t178] 23 (0, 0)) (by (with_reducible repeat (first | refine blk_drewN ?_ _ | refine blk_drew ?_ | refine blk_alloc ?_ _)); exact BK172.out) hb)
                              have n1_ := Aside0.mk (below_step (by repeat (first | (with_reducible first | exact HB.out | apply below_alloc | apply pw_below_drewN | apply below_drew1 | refine below_set ?_ GE172.out) | exact HB.out)) hb)
                              clear BK172
                              clear HB
                              have BK172 := n0_
                              have HB := n1_
                              clear n0_ n1_
                              (try clear hb)
                              (try clear hb2)
                              (try clear hk)
                              (try clear hi)
                              refine hK.out _ _ ⟨(blk_cell BK172.out 0).trans rfl, (blk_cell BK172.out 1).trans rfl, (blk_cell BK172.out 2).trans rfl, ((HB.out.cell (World.block_lt_of_cell? w _ hw180_0)).trans hw180_0), ((HB.out.cell (World.block_lt_of_cell? w _ hw180_1)).trans hw180_1)⟩ (fun hHeld => ?_)
                              clear hK K
                              refine norm_ (a' := ?_) ?_ ?_
                              rotate_left
                              · show Act.put _ (some 61) _ = _
                                simp only [Act.put, List.setIfInBounds_toArray, List.set_cons_zero, List.set_cons_succ, i64_w, i32_w]
                                rfl
                              refine last_ (i := 8) (N := none) #[true, true, true, true, true, true, true, true, true] rfl rfl (one_of HT_.out (by kernel_rfl)) (by decide) (fun K hK => ?_)
                              have hs34 : w33.cell? ⟨gb172, 0, none⟩ = some (.int .i64 t176) := (blk_cell BK172.out 0).trans rfl
                              have hfs34 := blk_frozen BK172.out 0
                              have hs35 : w33.cell? ⟨gb172, 1, none⟩ = some (.int .i64 t177) := (blk_cell BK172.out 1).trans rfl
                              have hfs35 := blk_frozen BK172.out 1
                              have hs36 : w33.cell? ⟨gb172, 2, none⟩ = some (.int .i64 t178) := (blk_cell BK172.out 2).trans rfl
                              have hfs36 := blk_frozen BK172.out 2
                              refine skip_ (w1 := ?_) (by rfl) rfl ?_ ?_
                              rotate_left
                              · go_simp
                                rfl
                              refine hK.out _ _ ?_
                              clear hK K
                              refine done_ (done_of HT_.out (by kernel_rfl)) ?_
                              have p184 : 0 ≤ (x9_1 : Int) := of_decide_eq_true (by first | (with_reducible assumption) | assumption)
                              have q184 : x9_1 < (l1.length : Int) := of_decide_eq_true (by first | (with_reducible assumption) | assumption)
                              obtain ⟨ad184, e184, hx184_0, hx184_1⟩ := at_T35 HR1.out x9_1 p184 q184
                              obtain rfl : ad174 = ad184 := (by injection e184)
                              have hn184_0 : ad174.block ≠ gb172 := Nat.ne_of_lt (Nat.lt_of_lt_of_le (by have := World.block_lt_of_cell? _ _ hx184_0; first | rwa [add_block] at this | exact this) GW172.out)
                              have hn184_1 : ad174.block ≠ gb172 := Nat.ne_of_lt (Nat.lt_of_lt_of_le (by have := World.block_lt_of_cell? _ _ hx184_0; first | rwa [add_block] at this | exact this) GW172.out)
                              have hn184_2 : ad174.block ≠ gb172 := Nat.ne_of_lt (Nat.lt_of_lt_of_le (by have := World.block_lt_of_cell? _ _ hx184_0; first | rwa [add_block] at this | exact this) GW172.out)
                              replace hx184_0 := (HB.out.cell (World.block_lt_of_cell? w _ hx184_0)).trans hx184_0
                              replace hx184_1 := (HB.out.cell (World.block_lt_of_cell? w _ hx184_1)).trans hx184_1
                              replace hx184_0 := (cell_far (p := ⟨gb172, 0, none⟩) (by first | (rw [add_block]; exact hn184_0) | (show (Addr.add _ _).block ≠ _; rw [add_block]; exact hn184_0) | exact hn184_0) (.int .i64 t181)).trans hx184_0
                              replace hx184_1 := (cell_far (p := ⟨gb172, 0, none⟩) (by first | (rw [add_block]; exact hn184_0) | (show (Addr.add _ _).block ≠ _; rw [add_block]; exact hn184_0) | exact hn184_0) (.int .i64 t181)).trans hx184_1
                              replace hx184_0 := (cell_far (p := ⟨gb172, 1, none⟩) (by first | (rw [add_block]; exact hn184_1) | (show (Addr.add _ _).block ≠ _; rw [add_block]; exact hn184_1) | exact hn184_1) (.int .i64 t182)).trans hx184_0
                              replace hx184_1 := (cell_far (p := ⟨gb172, 1, none⟩) (by first | (rw [add_block]; exact hn184_1) | (show (Addr.add _ _).block ≠ _; rw [add_block]; exact hn184_1) | exact hn184_1) (.int .i64 t182)).trans hx184_1
                              replace hx184_0 := (cell_far (p := ⟨gb172, 2, none⟩) (by first | (rw [add_block]; exact hn184_2) | (show (Addr.add _ _).block ≠ _; rw [add_block]; exact hn184_2) | exact hn184_2) (.int .i64 t183)).trans hx184_0
                              replace hx184_1 := (cell_far (p := ⟨gb172, 2, none⟩) (by first | (rw [add_block]; exact hn184_2) | (show (Addr.add _ _).block ≠ _; rw [add_block]; exact hn184_2) | exact hn184_2) (.int .i64 t183)).trans hx184_1
                              clear hn184_0
                              clear hn184_1
                              clear hn184_2
                              replace p184 := eq_true p184
                              replace q184 := eq_true q184
                              have hcz37_0 : w33.cell? ⟨gb172, 0, none⟩ = some (.int .i64 t176) := (blk_cell BK172.out 0).trans rfl
                              have hcz37_1 : w33.cell? ⟨gb172, 1, none⟩ = some (.int .i64 t177) := (blk_cell BK172.out 1).trans rfl
                              have hcz37_2 : w33.cell? ⟨gb172, 2, none⟩ = some (.int .i64 t178) := (blk_cell BK172.out 2).trans rfl
                              have hfz37_0 := blk_frozen BK172.out 0
                              have hfz37_1 := blk_frozen BK172.out 1
                              have hfz37_2 := blk_frozen BK172.out 2
                              try go_wp2_with (first | ((with_reducible refine gate_callee (f := 25) rfl ?_); refine goesL_ (some 71) rfl rfl Try.func25 (by kernel_rfl) rfl #[.agg #[.int .i64 t181, .int .i64 t182, .int .i64 t183]] rfl (by (try simp only [List.map_toArray, List.map_cons, List.map_nil]); first | done | rfl | (simp only [List.length_drop, List.length_take]; rfl)) ?_; (with_reducible refine (encoder_Estimate.calls t181 t182 t183 t185 _ A29.out).mono ?_); rintro e w38 ⟨rfl, hb⟩; refine ⟨_, rfl, ?_⟩; have n0_ := Aside0.mk (blk_below (g := gb172) (o := .cells #[.int .i64 t181, .int .i64 t182, .int .i64 t183] 23 (0, 0)) (by (with_reducible repeat (first | refine blk_drewN ?_ _ | refine blk_drew ?_ | refine blk_alloc ?_ _)); refine blk_put (cs := #[.int .i64 t181, .int .i64 t182, .int .i64 t178]) ?_ 2 _ rfl; (with_reducible repeat (first | refine blk_drewN ?_ _ | refine blk_drew ?_ | refine blk_alloc ?_ _)); refine blk_put (cs := #[.int .i64 t181, .int .i64 t177, .int .i64 t178]) ?_ 1 _ rfl; (with_reducible repeat (first | refine blk_drewN ?_ _ | refine blk_drew ?_ | refine blk_alloc ?_ _)); refine blk_put (cs := #[.int .i64 t176, .int .i64 t177, .int .i64 t178]) ?_ 0 _ rfl; (with_reducible repeat (first | refine blk_drewN ?_ _ | refine blk_drew ?_ | refine blk_alloc ?_ _)); exact BK172.out) hb); have n1_ := Aside0.mk (below_step (by repeat (first | (with_reducible first | exact HB.out | apply below_alloc | apply pw_below_drewN | apply below_drew1 | refine below_set ?_ GE172.out) | exact HB.out)) hb); clear BK172; clear HB; have BK172 := n0_; have HB := n1_; clear n0_ n1_; (try clear hb); (try clear hb2); (try clear hk); (try clear hi)))
                              go_roundg kj18
                              case measure => have := HK1.out; have := HJ13.out; have := HJ18.out; omega
                              case rel => exact ⟨(wrap64 (x6_1 + (wrap64 ((rd_T35 l1 x9_1).f0)))), (x8_13), (wrap64 (x9_1 + 1)), (t181), (t182), (t183), (by first | rfl | (simp; done) | (simp [*]; done)), (by first | rfl | (simp; done) | (simp [*]; done)), (by first | rfl | (simp; done) | (simp [*]; done)), H', ⟨by have := HK1.out; have := HJ13.out; have := HJ18.out; omega⟩, ⟨by (with_reducible repeat (first | refine blk_drewN ?_ _ | refine blk_drew ?_ | refine blk_alloc ?_ _)); exact BK172.out⟩, ⟨by repeat (first | (with_reducible first | exact HB.out | apply below_alloc | apply pw_below_drewN | apply below_drew1 | refine below_set ?_ GE172.out) | exact HB.out)⟩⟩
                        · rw [if_neg c27] at H
                          exact absurd H (by simp)
                      · rw [if_neg c26] at H
                        exact absurd H (by simp)
          · rw [if_neg c13] at H
            exact absurd H (by simp)
        · rw [if_neg c12] at H
          have c12b0 : decide (x9_1 < (l1.length : Int)) = false := decide_eq_false c12
          clear c12
          obtain rfl := Option.some.inj H
          go_wp2
          go_ret
          exact ⟨by first | rfl | (simp [errW_none, errW_some] <;> rfl) | (simp [*, errW_none, errW_some] <;> rfl), by repeat (first | (with_reducible first | exact HB.out | apply below_alloc | apply pw_below_drewN | apply below_drew1 | refine below_set ?_ GE172.out) | exact HB.out)⟩

end Go.Proofs.Ythnbcedpdjingaa.P
