-- Written by this session's own program, for this seat. Lean checks it.
import Derived.Test.YthnbcedpdjingaaP0
import Derived.Test.YthnbcedpdjingaaP10
namespace Go.Proofs.Ythnbcedpdjingaa.P
open Go.RowKit Go.Proofs.YthnbcedpdjingaaW.PrintWords Go.Proofs.YthnbcedpdjingaaW.PrintLast Go.Proofs.YthnbcedpdjingaaW.PrintMore
attribute [local go_sem] max2_int min2_int max_two min_two max_three min_three max_four min_four   -- for this text's walks alone
set_option linter.unusedVariables false
set_option linter.unusedSimpArgs false

/-! ### ambidexterlaw26_DualchannelBad: function 11 -/
mutual
def ambidexterlaw26_DualchannelBad.l0 : Nat → List (S47) → Bool → Int → Bool → Bool → Bool → Int → Bool → Bool → Int → Bool → Option (Bool)
  | 0, _, _, _, _, _, _, _, _, _, _, _ => none
  | k + 1, x0, x3, x5, x6, x7, x8, x9, x343000, x343001, x343002, x343003 => if x9 < (x0.length : Int) then (ambidexterlaw26_DualchannelBad.j1 k x0 x3 x5 x6 x7 x8 x9 (decide (x9 < 300)) x343000 x343001 x343002 x343003) else (ambidexterlaw26_DualchannelBad.j1 k x0 x3 x5 x6 x7 x8 x9 false x343000 x343001 x343002 x343003)
def ambidexterlaw26_DualchannelBad.j1 : Nat → List (S47) → Bool → Int → Bool → Bool → Bool → Int → Bool → Bool → Bool → Int → Bool → Option (Bool)
  | 0, _, _, _, _, _, _, _, _, _, _, _, _ => none
  | k + 1, x0, x3, x5, x6, x7, x8, x9, x19, x343000, x343001, x343002, x343003 => if x19 = true then (if 0 ≤ x9 then (if x9 < (x0.length : Int) then ((ambidexterlaw26_step.f x343000 x343001 x343002 x343003 ((rd_T47 x0 x9).f0) ((rd_T47 x0 x9).f1) ((rd_T47 x0 x9).f2)).bind fun bt344 => (if (Int.tmod ((rd_T47 x0 x9).f0) 8) = 0 then (if x6 = true then (if (bt344.2.2.2 != (!(x7 == x8))) = true then (some false) else (if (bt344.1 != x7) = true then (some false) else (if (bt344.2.1 != x8) = true then (some false) else (ambidexterlaw26_DualchannelBad.l0 k x0 x3 x5 (!(x7 == x8)) x7 x8 (wrap64 (x9 + 1)) bt344.1 bt344.2.1 bt344.2.2.1 bt344.2.2.2)))) else (if (bt344.2.2.2 != false) = true then (some false) else (if (bt344.1 != x7) = true then (some false) else (if (bt344.2.1 != x8) = true then (some false) else (ambidexterlaw26_DualchannelBad.l0 k x0 x3 x5 false x7 x8 (wrap64 (x9 + 1)) bt344.1 bt344.2.1 bt344.2.2.1 bt344.2.2.2))))) else (if (((rd_T47 x0 x9).f1) == ((rd_T47 x0 x9).f2)) = true then (if x6 = true then (if (bt344.2.2.2 != true) = true then (some false) else (if (bt344.1 != ((rd_T47 x0 x9).f1)) = true then (some false) else (if (bt344.2.1 != ((rd_T47 x0 x9).f2)) = true then (some false) else (ambidexterlaw26_DualchannelBad.l0 k x0 x3 0 true ((rd_T47 x0 x9).f1) ((rd_T47 x0 x9).f2) (wrap64 (x9 + 1)) bt344.1 bt344.2.1 bt344.2.2.1 bt344.2.2.2)))) else (if (bt344.2.2.2 != false) = true then (some false) else (if (bt344.1 != ((rd_T47 x0 x9).f1)) = true then (some false) else (if (bt344.2.1 != ((rd_T47 x0 x9).f2)) = true then (some false) else (ambidexterlaw26_DualchannelBad.l0 k x0 x3 0 false ((rd_T47 x0 x9).f1) ((rd_T47 x0 x9).f2) (wrap64 (x9 + 1)) bt344.1 bt344.2.1 bt344.2.2.1 bt344.2.2.2))))) else (if x6 = true then (if (bt344.2.2.2 != true) = true then (some false) else (if (bt344.1 != ((rd_T47 x0 x9).f1)) = true then (some false) else (if (bt344.2.1 != ((rd_T47 x0 x9).f2)) = true then (some false) else (ambidexterlaw26_DualchannelBad.l0 k x0 x3 (wrap64 (x5 + 1)) true ((rd_T47 x0 x9).f1) ((rd_T47 x0 x9).f2) (wrap64 (x9 + 1)) bt344.1 bt344.2.1 bt344.2.2.1 bt344.2.2.2)))) else (if (bt344.2.2.2 != (decide ((wrap64 (x5 + 1)) ≥ 4))) = true then (some false) else (if (bt344.1 != ((rd_T47 x0 x9).f1)) = true then (some false) else (if (bt344.2.1 != ((rd_T47 x0 x9).f2)) = true then (some false) else (ambidexterlaw26_DualchannelBad.l0 k x0 x3 (wrap64 (x5 + 1)) (decide ((wrap64 (x5 + 1)) ≥ 4)) ((rd_T47 x0 x9).f1) ((rd_T47 x0 x9).f2) (wrap64 (x9 + 1)) bt344.1 bt344.2.1 bt344.2.2.1 bt344.2.2.2)))))))) else (none)) else (none)) else (some x3)
end
def ambidexterlaw26_DualchannelBad.f (k : Nat) (l0 : List (S47)) : Option (Bool) := (ambidexterlaw26_head.f k).bind fun t341 => (ambidexterlaw26_DualchannelBad.l0 k l0 t341 0 false false false 0 false false 0 false)
theorem ambidexterlaw26_DualchannelBad.mono_l : ∀ k, (∀ y0 y1 y2 y3 y4 y5 y6 y7 y8 y9 y10, LeO (ambidexterlaw26_DualchannelBad.l0 k y0 y1 y2 y3 y4 y5 y6 y7 y8 y9 y10) (ambidexterlaw26_DualchannelBad.l0 (k + 1) y0 y1 y2 y3 y4 y5 y6 y7 y8 y9 y10)) ∧ (∀ y0 y1 y2 y3 y4 y5 y6 y7 y8 y9 y10 y11, LeO (ambidexterlaw26_DualchannelBad.j1 k y0 y1 y2 y3 y4 y5 y6 y7 y8 y9 y10 y11) (ambidexterlaw26_DualchannelBad.j1 (k + 1) y0 y1 y2 y3 y4 y5 y6 y7 y8 y9 y10 y11))
  | 0 => ⟨fun _ _ _ _ _ _ _ _ _ _ _ r h => by simp [ambidexterlaw26_DualchannelBad.l0] at h, fun _ _ _ _ _ _ _ _ _ _ _ _ r h => by simp [ambidexterlaw26_DualchannelBad.j1] at h⟩
  | k + 1 => by
    obtain ⟨ih0, ih1⟩ := ambidexterlaw26_DualchannelBad.mono_l k
    refine ⟨?_, ?_⟩
    · intro y0 y1 y2 y3 y4 y5 y6 y7 y8 y9 y10
      unfold ambidexterlaw26_DualchannelBad.l0
      repeat' first
      | (with_reducible exact ih0 _ _ _ _ _ _ _ _ _ _ _)
      | (with_reducible exact ih1 _ _ _ _ _ _ _ _ _ _ _ _)
      | (with_reducible exact ambidexterlaw26_head.mono _)
      | (with_reducible exact LeO.refl _)
      | (with_reducible exact LeO.none _)
      | (with_reducible refine LeO.ite ?_ ?_)
      | (with_reducible refine LeO.bind ?_ (fun _ => ?_))
      | exact ih0 _ _ _ _ _ _ _ _ _ _ _
      | exact ih1 _ _ _ _ _ _ _ _ _ _ _ _
      | exact ambidexterlaw26_head.mono _
      | exact LeO.none _
      | refine LeO.ite ?_ ?_
      | refine LeO.bind ?_ (fun _ => ?_)
    · intro y0 y1 y2 y3 y4 y5 y6 y7 y8 y9 y10 y11
      unfold ambidexterlaw26_DualchannelBad.j1
      repeat' first
      | (with_reducible exact ih0 _ _ _ _ _ _ _ _ _ _ _)
      | (with_reducible exact ih1 _ _ _ _ _ _ _ _ _ _ _ _)
      | (with_reducible exact ambidexterlaw26_head.mono _)
      | (with_reducible exact LeO.refl _)
      | (with_reducible exact LeO.none _)
      | (with_reducible refine LeO.ite ?_ ?_)
      | (with_reducible refine LeO.bind ?_ (fun _ => ?_))
      | exact ih0 _ _ _ _ _ _ _ _ _ _ _
      | exact ih1 _ _ _ _ _ _ _ _ _ _ _ _
      | exact ambidexterlaw26_head.mono _
      | exact LeO.none _
      | refine LeO.ite ?_ ?_
      | refine LeO.bind ?_ (fun _ => ?_)
theorem ambidexterlaw26_DualchannelBad.mono : ∀ a0 k, LeO (ambidexterlaw26_DualchannelBad.f k a0) (ambidexterlaw26_DualchannelBad.f (k + 1) a0) := by
  intro a0 k
  obtain ⟨ih0, ih1⟩ := ambidexterlaw26_DualchannelBad.mono_l k
  unfold ambidexterlaw26_DualchannelBad.f
  repeat' first
      | (with_reducible exact ih0 _ _ _ _ _ _ _ _ _ _ _)
      | (with_reducible exact ih1 _ _ _ _ _ _ _ _ _ _ _ _)
      | (with_reducible exact ambidexterlaw26_head.mono _)
      | (with_reducible exact LeO.refl _)
      | (with_reducible exact LeO.none _)
      | (with_reducible refine LeO.ite ?_ ?_)
      | (with_reducible refine LeO.bind ?_ (fun _ => ?_))
      | exact ih0 _ _ _ _ _ _ _ _ _ _ _
      | exact ih1 _ _ _ _ _ _ _ _ _ _ _ _
      | exact ambidexterlaw26_head.mono _
      | exact LeO.none _
      | refine LeO.ite ?_ ?_
      | refine LeO.bind ?_ (fun _ => ?_)
set_option maxHeartbeats 8000000 in
set_option maxRecDepth 100000 in
theorem ambidexterlaw26_DualchannelBad.calls0 (k : Nat) (A0 : Option Addr) (c0 : Nat) (l0 : List (S47)) (r : Bool) (w : World) (hr0 : Kd.C k47 w A0 l0.length l0) (hc0 : l0.length ≤ c0) (h : ambidexterlaw26_DualchannelBad.f k l0 = some r) (hT : r = true) :
    Calls Try.prog 11 #[.slice A0 l0.length c0] w fun e w' => e = .returned (.bool r) ∧ Below w.heap.size w w' := by
  have hu44 := Try.underlying44
  have hu47 := Try.underlying47
  have HR0 := Aside0.mk hr0
  have HC0 := Aside0.mk hc0
  clear hr0 hc0
  have HB := Aside0.mk (Below.refl w.heap.size w)
  have H : ((ambidexterlaw26_head.f k).bind fun t341 => (ambidexterlaw26_DualchannelBad.l0 k l0 t341 0 false false false 0 false false 0 false)) = some r := h
  clear h
  have HT := Aside0.mk hT
  clear hT
  replace H := Option.bind_eq_some_iff.mp H
  obtain ⟨t341, A20, H⟩ := H
  obtain rfl := ambidexterlaw26_head.is_true k A20
  replace H : (ambidexterlaw26_DualchannelBad.l0 k l0 true 0 false false false 0 false false 0 false) = some r := H
  have A2 := Aside0.mk A20
  clear A20
  have H' := Aside0.mk H
  clear H
  go_enter Try.func11, Try.ntmps11
  go_wp2_with (first | ((with_reducible refine gate_callee (f := 27) rfl ?_); refine goesL_ (some 10) rfl rfl Try.func27 (by kernel_rfl) rfl #[] rfl (by (try simp only [List.map_toArray, List.map_cons, List.map_nil]); first | done | rfl | (simp only [List.length_drop, List.length_take]; rfl)) ?_; (with_reducible refine (ambidexterlaw26_head.calls k  true _ A2.out).mono ?_); rintro e w3 ⟨rfl, hb⟩; refine ⟨_, rfl, ?_⟩; have n0_ := Aside0.mk (below_step (by repeat (first | (with_reducible first | exact HB.out | apply below_alloc | apply pw_below_drewN | apply below_drew1) | exact HB.out)) hb); clear HB; have HB := n0_; clear n0_; (try clear hb); (try clear hb2); (try clear hk); (try clear hi)) | ((with_reducible refine gate_dst (N := 4) rfl ?_); refine box_event ?hg (N := 4) ?hd (cs := #[.bool false, .bool false, .int .i64 0, .bool false]) (t := 44) ?hr ?_; (case hd => rfl); (case hg => rfl); (case hr => first | (go_simp; done) | (go_simp; rfl)); intro gb342 hg w4 hbox hb; have n0_ := Aside0.mk (below_step (by repeat (first | (with_reducible first | exact HB.out | apply below_alloc | apply pw_below_drewN | apply below_drew1) | exact HB.out)) hb); have n1_ := Aside0.mk (hbox); have n2_ := Aside0.mk ((by rw [hg]; exact (below_size (by repeat (first | (with_reducible first | exact HB.out | apply below_alloc | apply pw_below_drewN | apply below_drew1) | exact HB.out))) : w.heap.size ≤ gb342)); have n3_ := Aside0.mk ((by rw [hg]; exact (below_size (by repeat (first | (with_reducible first | exact HB.out | apply below_alloc | apply pw_below_drewN | apply below_drew1) | exact HB.out))) : w.heap.size ≤ gb342)); clear HB; have HB := n0_; have BK342 := n1_; have GW342 := n2_; have GE342 := n3_; clear n0_ n1_ n2_ n3_; clear hb hbox hg; have hcz5_0 : w4.cell? ⟨gb342, 0, none⟩ = some (.bool false) := (blk_cell BK342.out 0).trans rfl; have hcz5_1 : w4.cell? ⟨gb342, 1, none⟩ = some (.bool false) := (blk_cell BK342.out 1).trans rfl; have hcz5_2 : w4.cell? ⟨gb342, 2, none⟩ = some (.int .i64 0) := (blk_cell BK342.out 2).trans rfl; have hcz5_3 : w4.cell? ⟨gb342, 3, none⟩ = some (.bool false) := (blk_cell BK342.out 3).trans rfl; have hfz5_0 := blk_frozen BK342.out 0; have hfz5_1 := blk_frozen BK342.out 1; have hfz5_2 := blk_frozen BK342.out 2; have hfz5_3 := blk_frozen BK342.out 3))
  go_loopg [5, 6, 7, 8, 9] k (fun kq v5 v6 v7 v8 v9 w' => ∃ (x5_1 : Int) (x6_1 : Bool) (x7_1 : Bool) (x8_1 : Bool) (x9_1 : Int) (x343000_1 : Bool) (x343001_1 : Bool) (x343002_1 : Int) (x343003_1 : Bool), v5 = .int .i64 x5_1 ∧ v6 = .bool x6_1 ∧ v7 = .bool x7_1 ∧ v8 = .bool x8_1 ∧ v9 = .int .i64 x9_1 ∧ Aside0 (ambidexterlaw26_DualchannelBad.l0 kq l0 true x5_1 x6_1 x7_1 x8_1 x9_1 x343000_1 x343001_1 x343002_1 x343003_1 = some r) ∧ Aside0 (kq ≤ k) ∧ Aside0 (w'.heap[gb342]? = some (.cells #[.bool x343000_1, .bool x343001_1, .int .i64 x343002_1, .bool x343003_1] 44 (0, 0))) ∧ Aside0 (Below w.heap.size w w'))
  case atStart => exact ⟨(0), (false), (false), (false), (0), (false), (false), (0), (false), (by first | rfl | (simp; done) | (simp [*]; done)), (by first | rfl | (simp; done) | (simp [*]; done)), (by first | rfl | (simp; done) | (simp [*]; done)), (by first | rfl | (simp; done) | (simp [*]; done)), (by first | rfl | (simp; done) | (simp [*]; done)), H', ⟨Nat.le_refl _⟩, ⟨by (with_reducible repeat (first | refine blk_drewN ?_ _ | refine blk_drew ?_ | refine blk_alloc ?_ _)); refine blk_put (cs := #[.bool false, .bool false, .int .i64 0, .bool false]) ?_ 3 _ rfl; (with_reducible repeat (first | refine blk_drewN ?_ _ | refine blk_drew ?_ | refine blk_alloc ?_ _)); refine blk_put (cs := #[.bool false, .bool false, .int .i64 0, .bool false]) ?_ 2 _ rfl; (with_reducible repeat (first | refine blk_drewN ?_ _ | refine blk_drew ?_ | refine blk_alloc ?_ _)); refine blk_put (cs := #[.bool false, .bool false, .int .i64 0, .bool false]) ?_ 1 _ rfl; (with_reducible repeat (first | refine blk_drewN ?_ _ | refine blk_drew ?_ | refine blk_alloc ?_ _)); refine blk_put (cs := #[.bool false, .bool false, .int .i64 0, .bool false]) ?_ 0 _ rfl; (with_reducible repeat (first | refine blk_drewN ?_ _ | refine blk_drew ?_ | refine blk_alloc ?_ _)); exact BK342.out⟩, ⟨by repeat (first | (with_reducible first | exact HB.out | apply below_alloc | apply pw_below_drewN | apply below_drew1 | refine below_set ?_ GE342.out) | exact HB.out)⟩⟩
  case round =>
    clear H'
    try clear c1
    try clear c2
    try clear p2
    try clear hcz5_0
    try clear hcz5_1
    try clear hcz5_2
    try clear hcz5_3
    try clear hfz5_0
    try clear hfz5_1
    try clear hfz5_2
    try clear hfz5_3
    obtain ⟨x5_1, x6_1, x7_1, x8_1, x9_1, x343000_1, x343001_1, x343002_1, x343003_1, rfl, rfl, rfl, rfl, rfl, HA, HK1, BK342, HB⟩ := hrel
    cases gk with
    | zero => exact absurd HA.out (by simp [ambidexterlaw26_DualchannelBad.l0])
    | succ k1 =>
      have H := HA.out
      clear HA
      simp only [ambidexterlaw26_DualchannelBad.l0] at H
      have HC6 := Aside0.mk H
      clear H
      go_upto_region 8 with (fail)
      go_cut [19] (fun v19 wc => ∃ (kq : Nat) (x19_5 : Bool), v19 = .bool x19_5 ∧ Aside0 (ambidexterlaw26_DualchannelBad.j1 kq l0 true x5_1 x6_1 x7_1 x8_1 x9_1 x19_5 x343000_1 x343001_1 x343002_1 x343003_1 = some r) ∧ Aside0 (kq ≤ k1) ∧ Aside0 (wc.heap[gb342]? = some (.cells #[.bool x343000_1, .bool x343001_1, .int .i64 x343002_1, .bool x343003_1] 44 (0, 0))) ∧ Aside0 (Below w.heap.size w wc))
      case first =>
        have H := HC6.out
        clear HC6
        by_cases c7 : x9_1 < (l0.length : Int)
        · rw [if_pos c7] at H
          have c7b0 : decide (x9_1 < (l0.length : Int)) = true := decide_eq_true c7
          clear c7
          (first | rw [c7b0] | (simp only [i64_w, i32_w]; rw [c7b0]) | skip)
          have H' := Aside0.mk H
          clear H
          go_wp2
          go_meet
          case rel => exact ⟨_, (decide (x9_1 < 300)), (by first | rfl | (simp; done) | (simp [*]; done)), H', ⟨by have := HK1.out; first | omega | exact Nat.le_refl _⟩, ⟨by (with_reducible repeat (first | refine blk_drewN ?_ _ | refine blk_drew ?_ | refine blk_alloc ?_ _)); exact BK342.out⟩, ⟨by repeat (first | (with_reducible first | exact HB.out | apply below_alloc | apply pw_below_drewN | apply below_drew1 | refine below_set ?_ GE342.out) | exact HB.out)⟩⟩
        · rw [if_neg c7] at H
          have c7b0 : decide (x9_1 < (l0.length : Int)) = false := decide_eq_false c7
          clear c7
          (first | rw [c7b0] | (simp only [i64_w, i32_w]; rw [c7b0]) | skip)
          have H' := Aside0.mk H
          clear H
          go_wp2
          go_meet
          case rel => exact ⟨_, (false), (by first | rfl | (simp; done) | (simp [*]; done)), H', ⟨by have := HK1.out; first | omega | exact Nat.le_refl _⟩, ⟨by (with_reducible repeat (first | refine blk_drewN ?_ _ | refine blk_drew ?_ | refine blk_alloc ?_ _)); exact BK342.out⟩, ⟨by repeat (first | (with_reducible first | exact HB.out | apply below_alloc | apply pw_below_drewN | apply below_drew1 | refine below_set ?_ GE342.out) | exact HB.out)⟩⟩
      case rest =>
        clear HC6
        try clear c1
        try clear c2
        try clear p2
        try clear c7
        try clear c7b0
        try clear hcz5_0
        try clear hcz5_1
        try clear hcz5_2
        try clear hcz5_3
        try clear hfz5_0
        try clear hfz5_1
        try clear hfz5_2
        try clear hfz5_3
        try clear p2
        obtain ⟨kq, x19_5, rfl, HA, HJ5, BK342, HB⟩ := hcut
        cases kq with
        | zero => exact absurd HA.out (by simp [ambidexterlaw26_DualchannelBad.j1])
        | succ kj5 =>
          have H := HA.out
          clear HA
          simp only [ambidexterlaw26_DualchannelBad.j1] at H
          by_cases c8 : x19_5 = true
          · subst c8
            have H1 : (if 0 ≤ x9_1 then (if x9_1 < (l0.length : Int) then ((ambidexterlaw26_step.f x343000_1 x343001_1 x343002_1 x343003_1 ((rd_T47 l0 x9_1).f0) ((rd_T47 l0 x9_1).f1) ((rd_T47 l0 x9_1).f2)).bind fun bt344 => (if (Int.tmod ((rd_T47 l0 x9_1).f0) 8) = 0 then (if x6_1 = true then (if (bt344.2.2.2 != (!(x7_1 == x8_1))) = true then (some false) else (if (bt344.1 != x7_1) = true then (some false) else (if (bt344.2.1 != x8_1) = true then (some false) else (ambidexterlaw26_DualchannelBad.l0 kj5 l0 true x5_1 (!(x7_1 == x8_1)) x7_1 x8_1 (wrap64 (x9_1 + 1)) bt344.1 bt344.2.1 bt344.2.2.1 bt344.2.2.2)))) else (if (bt344.2.2.2 != false) = true then (some false) else (if (bt344.1 != x7_1) = true then (some false) else (if (bt344.2.1 != x8_1) = true then (some false) else (ambidexterlaw26_DualchannelBad.l0 kj5 l0 true x5_1 false x7_1 x8_1 (wrap64 (x9_1 + 1)) bt344.1 bt344.2.1 bt344.2.2.1 bt344.2.2.2))))) else (if (((rd_T47 l0 x9_1).f1) == ((rd_T47 l0 x9_1).f2)) = true then (if x6_1 = true then (if (bt344.2.2.2 != true) = true then (some false) else (if (bt344.1 != ((rd_T47 l0 x9_1).f1)) = true then (some false) else (if (bt344.2.1 != ((rd_T47 l0 x9_1).f2)) = true then (some false) else (ambidexterlaw26_DualchannelBad.l0 kj5 l0 true 0 true ((rd_T47 l0 x9_1).f1) ((rd_T47 l0 x9_1).f2) (wrap64 (x9_1 + 1)) bt344.1 bt344.2.1 bt344.2.2.1 bt344.2.2.2)))) else (if (bt344.2.2.2 != false) = true then (some false) else (if (bt344.1 != ((rd_T47 l0 x9_1).f1)) = true then (some false) else (if (bt344.2.1 != ((rd_T47 l0 x9_1).f2)) = true then (some false) else (ambidexterlaw26_DualchannelBad.l0 kj5 l0 true 0 false ((rd_T47 l0 x9_1).f1) ((rd_T47 l0 x9_1).f2) (wrap64 (x9_1 + 1)) bt344.1 bt344.2.1 bt344.2.2.1 bt344.2.2.2))))) else (if x6_1 = true then (if (bt344.2.2.2 != true) = true then (some false) else (if (bt344.1 != ((rd_T47 l0 x9_1).f1)) = true then (some false) else (if (bt344.2.1 != ((rd_T47 l0 x9_1).f2)) = true then (some false) else (ambidexterlaw26_DualchannelBad.l0 kj5 l0 true (wrap64 (x5_1 + 1)) true ((rd_T47 l0 x9_1).f1) ((rd_T47 l0 x9_1).f2) (wrap64 (x9_1 + 1)) bt344.1 bt344.2.1 bt344.2.2.1 bt344.2.2.2)))) else (if (bt344.2.2.2 != (decide ((wrap64 (x5_1 + 1)) ≥ 4))) = true then (some false) else (if (bt344.1 != ((rd_T47 l0 x9_1).f1)) = true then (some false) else (if (bt344.2.1 != ((rd_T47 l0 x9_1).f2)) = true then (some false) else (ambidexterlaw26_DualchannelBad.l0 kj5 l0 true (wrap64 (x5_1 + 1)) (decide ((wrap64 (x5_1 + 1)) ≥ 4)) ((rd_T47 l0 x9_1).f1) ((rd_T47 l0 x9_1).f2) (wrap64 (x9_1 + 1)) bt344.1 bt344.2.1 bt344.2.2.1 bt344.2.2.2)))))))) else (none)) else (none)) = some r := by rw [if_pos rfl] at H; exact H
            clear H
            have H := H1
            clear H1
            by_cases c9 : 0 ≤ x9_1
            · rw [if_pos c9] at H
              have c9b0 : decide (0 ≤ x9_1) = true := decide_eq_true c9
              clear c9
              by_cases c10 : x9_1 < (l0.length : Int)
              · rw [if_pos c10] at H
                have c10b0 : decide (x9_1 < (l0.length : Int)) = true := decide_eq_true c10
                clear c10
                replace H := Option.bind_eq_some_iff.mp H
                obtain ⟨⟨t344, t345, t346, t347⟩, A110, H⟩ := H
                replace H : (if (Int.tmod ((rd_T47 l0 x9_1).f0) 8) = 0 then (if x6_1 = true then (if (t347 != (!(x7_1 == x8_1))) = true then (some false) else (if (t344 != x7_1) = true then (some false) else (if (t345 != x8_1) = true then (some false) else (ambidexterlaw26_DualchannelBad.l0 kj5 l0 true x5_1 (!(x7_1 == x8_1)) x7_1 x8_1 (wrap64 (x9_1 + 1)) t344 t345 t346 t347)))) else (if (t347 != false) = true then (some false) else (if (t344 != x7_1) = true then (some false) else (if (t345 != x8_1) = true then (some false) else (ambidexterlaw26_DualchannelBad.l0 kj5 l0 true x5_1 false x7_1 x8_1 (wrap64 (x9_1 + 1)) t344 t345 t346 t347))))) else (if (((rd_T47 l0 x9_1).f1) == ((rd_T47 l0 x9_1).f2)) = true then (if x6_1 = true then (if (t347 != true) = true then (some false) else (if (t344 != ((rd_T47 l0 x9_1).f1)) = true then (some false) else (if (t345 != ((rd_T47 l0 x9_1).f2)) = true then (some false) else (ambidexterlaw26_DualchannelBad.l0 kj5 l0 true 0 true ((rd_T47 l0 x9_1).f1) ((rd_T47 l0 x9_1).f2) (wrap64 (x9_1 + 1)) t344 t345 t346 t347)))) else (if (t347 != false) = true then (some false) else (if (t344 != ((rd_T47 l0 x9_1).f1)) = true then (some false) else (if (t345 != ((rd_T47 l0 x9_1).f2)) = true then (some false) else (ambidexterlaw26_DualchannelBad.l0 kj5 l0 true 0 false ((rd_T47 l0 x9_1).f1) ((rd_T47 l0 x9_1).f2) (wrap64 (x9_1 + 1)) t344 t345 t346 t347))))) else (if x6_1 = true then (if (t347 != true) = true then (some false) else (if (t344 != ((rd_T47 l0 x9_1).f1)) = true then (some false) else (if (t345 != ((rd_T47 l0 x9_1).f2)) = true then (some false) else (ambidexterlaw26_DualchannelBad.l0 kj5 l0 true (wrap64 (x5_1 + 1)) true ((rd_T47 l0 x9_1).f1) ((rd_T47 l0 x9_1).f2) (wrap64 (x9_1 + 1)) t344 t345 t346 t347)))) else (if (t347 != (decide ((wrap64 (x5_1 + 1)) ≥ 4))) = true then (some false) else (if (t344 != ((rd_T47 l0 x9_1).f1)) = true then (some false) else (if (t345 != ((rd_T47 l0 x9_1).f2)) = true then (some false) else (ambidexterlaw26_DualchannelBad.l0 kj5 l0 true (wrap64 (x5_1 + 1)) (decide ((wrap64 (x5_1 + 1)) ≥ 4)) ((rd_T47 l0 x9_1).f1) ((rd_T47 l0 x9_1).f2) (wrap64 (x9_1 + 1)) t344 t345 t346 t347))))))) = some r := H
                have A11 := Aside0.mk A110
                clear A110
                by_cases c12 : (Int.tmod ((rd_T47 l0 x9_1).f0) 8) = 0
                · rw [if_pos c12] at H
                  have c12b0 : ((Int.tmod ((rd_T47 l0 x9_1).f0) 8) == 0) = true := beq_iff_eq.mpr c12
                  have c12b1 : ((Int.tmod ((rd_T47 l0 x9_1).f0) 8) != 0) = false := bne_eq_false_iff_eq.mpr c12
                  clear c12
                  by_cases c13 : x6_1 = true
                  · subst c13
                    have H1 : (if (t347 != (!(x7_1 == x8_1))) = true then (some false) else (if (t344 != x7_1) = true then (some false) else (if (t345 != x8_1) = true then (some false) else (ambidexterlaw26_DualchannelBad.l0 kj5 l0 true x5_1 (!(x7_1 == x8_1)) x7_1 x8_1 (wrap64 (x9_1 + 1)) t344 t345 t346 t347)))) = some r := by rw [if_pos rfl] at H; exact H
                    clear H
                    have H := H1
                    clear H1
                    by_cases c14 : (t347 != (!(x7_1 == x8_1))) = true
                    · rw [if_pos c14] at H
                      have c14b0 : (t347 != (!(x7_1 == x8_1))) = true := c14
                      clear c14
                      exact absurd HT.out (by rw [← Option.some.inj H]; decide)
                    · rw [if_neg c14] at H
                      have e_ : t347 = (!(x7_1 == x8_1)) := bne_eq_false_iff_eq.mp (Bool.eq_false_iff.mpr c14)
                      clear c14
                      subst e_
                      replace H : (if (t344 != x7_1) = true then (some false) else (if (t345 != x8_1) = true then (some false) else (ambidexterlaw26_DualchannelBad.l0 kj5 l0 true x5_1 (!(x7_1 == x8_1)) x7_1 x8_1 (wrap64 (x9_1 + 1)) t344 t345 t346 (!(x7_1 == x8_1))))) = some r := H
                      by_cases c15 : (t344 != x7_1) = true
                      · rw [if_pos c15] at H
                        have c15b0 : (t344 != x7_1) = true := c15
                        (try (have c15b1 : decide (t344 = x7_1) = false := by simpa using c15))
                        (try (have c15b2 : (t344 == x7_1) = false := by simpa using c15))
                        (try (have c15b3 : ¬ (t344 = x7_1) := by simpa using c15))
                        clear c15
                        exact absurd HT.out (by rw [← Option.some.inj H]; decide)
                      · rw [if_neg c15] at H
                        have c15b0 : (t344 != x7_1) = false := by simpa using c15
                        (try (have c15b1 : decide (t344 = x7_1) = true := by simpa using c15))
                        (try (have c15b2 : (t344 == x7_1) = true := by simpa using c15))
                        clear c15
                        by_cases c16 : (t345 != x8_1) = true
                        · rw [if_pos c16] at H
                          have c16b0 : (t345 != x8_1) = true := c16
                          (try (have c16b1 : decide (t345 = x8_1) = false := by simpa using c16))
                          (try (have c16b2 : (t345 == x8_1) = false := by simpa using c16))
                          (try (have c16b3 : ¬ (t345 = x8_1) := by simpa using c16))
                          clear c16
                          exact absurd HT.out (by rw [← Option.some.inj H]; decide)
                        · rw [if_neg c16] at H
                          have c16b0 : (t345 != x8_1) = false := by simpa using c16
                          (try (have c16b1 : decide (t345 = x8_1) = true := by simpa using c16))
                          (try (have c16b2 : (t345 == x8_1) = true := by simpa using c16))
                          clear c16
                          have H' := Aside0.mk H
                          clear H
                          try go_wp2
                          have n0_ := Aside0.mk (blk_drew BK342.out)
                          have n1_ := Aside0.mk (below_drew1 HB.out)
                          clear BK342
                          clear HB
                          have BK342 := n0_
                          have HB := n1_
                          clear n0_ n1_
                          have p343 : 0 ≤ (x9_1 : Int) := of_decide_eq_true (by first | (with_reducible assumption) | assumption)
                          have q343 : x9_1 < (l0.length : Int) := of_decide_eq_true (by first | (with_reducible assumption) | assumption)
                          obtain ⟨ad343, e343, hx343_0, hx343_1, hx343_2⟩ := at_T47 HR0.out x9_1 p343 q343
                          have hw343_2 := hx343_2
                          have hw343_1 := hx343_1
                          have hw343_0 := hx343_0
                          cases e343
                          replace hx343_0 := (HB.out.cell (World.block_lt_of_cell? w _ hx343_0)).trans hx343_0
                          replace hx343_1 := (HB.out.cell (World.block_lt_of_cell? w _ hx343_1)).trans hx343_1
                          replace hx343_2 := (HB.out.cell (World.block_lt_of_cell? w _ hx343_2)).trans hx343_2
                          replace p343 := eq_true p343
                          replace q343 := eq_true q343
                          refine start_ (n := 7) (S := fun w' => w'.cell? ⟨gb342, 0, none⟩ = some (.bool x343000_1) ∧ w'.cell? ⟨gb342, 1, none⟩ = some (.bool x343001_1) ∧ w'.cell? ⟨gb342, 2, none⟩ = some (.int .i64 x343002_1) ∧ w'.cell? ⟨gb342, 3, none⟩ = some (.bool x343003_1) ∧ w'.cell? (ad343.add ((x9_1).toNat * 3)) = some (.int .u8 ((rd_T47 l0 x9_1).f0)) ∧ w'.cell? ⟨(ad343.add ((x9_1).toNat * 3)).block, (ad343.add ((x9_1).toNat * 3)).off + 1, none⟩ = some (.bool ((rd_T47 l0 x9_1).f1)) ∧ w'.cell? ⟨(ad343.add ((x9_1).toNat * 3)).block, (ad343.add ((x9_1).toNat * 3)).off + 2, none⟩ = some (.bool ((rd_T47 l0 x9_1).f2))) (ds := [6]) #[false, false, false, false, false, false, false] (by kernel_rfl) rfl rfl ⟨(blk_cell BK342.out 0).trans rfl, (blk_cell BK342.out 1).trans rfl, (blk_cell BK342.out 2).trans rfl, (blk_cell BK342.out 3).trans rfl, ((HB.out.cell (World.block_lt_of_cell? w _ hw343_0)).trans hw343_0), ((HB.out.cell (World.block_lt_of_cell? w _ hw343_1)).trans hw343_1), ((HB.out.cell (World.block_lt_of_cell? w _ hw343_2)).trans hw343_2)⟩ (fun hHeld => ?_)
                          generalize wc.drew = w17 at BK342 HB hx343_0 hx343_1 hx343_2 hHeld ⊢
                          refine pure_ (i := 1) (N := some 23) (v := ?_) (a' := ?_) #[false, true, false, false, false, false, false] rfl rfl (by kernel_rfl) (fun _ _ _ h => h) (Or.inl ⟨by rfl, ?_⟩) ?_ ?_
                          rotate_left
                          · intro w'
                            go_simp
                            with_reducible rfl
                          rotate_left
                          · simp only [Act.put, List.setIfInBounds_toArray, List.set_cons_zero, List.set_cons_succ, i64_w, i32_w]
                            rfl
                          refine pure_ (i := 2) (N := some 24) (v := ?_) (a' := ?_) #[false, true, true, false, false, false, false] rfl rfl (by kernel_rfl) (fun _ _ _ h => h) (Or.inl ⟨by rfl, ?_⟩) ?_ ?_
                          rotate_left
                          · intro w'
                            go_simp
                            with_reducible rfl
                          rotate_left
                          · simp only [Act.put, List.setIfInBounds_toArray, List.set_cons_zero, List.set_cons_succ, i64_w, i32_w]
                            rfl
                          refine pure_ (i := 3) (N := some 25) (v := ?_) (a' := ?_) #[false, true, true, true, false, false, false] rfl rfl (by kernel_rfl) (fun _ _ _ h => h) (Or.inl ⟨by rfl, ?_⟩) ?_ ?_
                          rotate_left
                          · intro w'
                            go_simp
                            with_reducible rfl
                          rotate_left
                          · simp only [Act.put, List.setIfInBounds_toArray, List.set_cons_zero, List.set_cons_succ, i64_w, i32_w]
                            rfl
                          refine take_ (i := 0) (N := some 22) (v := ?_) (a' := ?_) #[true, true, true, true, false, false, false] rfl rfl (by kernel_rfl) (fun _ _ _ h => h) (Or.inl ⟨by rfl, ?_⟩) hHeld ?_ ?_
                          rotate_left
                          · rintro w' ⟨s0, s1, s2, s3, s4, s5, s6⟩
                            go_simp
                            with_reducible rfl
                          rotate_left
                          · simp only [Act.put, List.setIfInBounds_toArray, List.set_cons_zero, List.set_cons_succ, i64_w, i32_w]
                            rfl
                          refine take_ (i := 4) (N := some 26) (v := ?_) (a' := ?_) #[true, true, true, true, true, false, false] rfl rfl (by kernel_rfl) (fun _ _ _ h => h) (Or.inl ⟨by rfl, ?_⟩) hHeld ?_ ?_
                          rotate_left
                          · rintro w' ⟨s0, s1, s2, s3, s4, s5, s6⟩
                            go_simp
                            with_reducible rfl
                          rotate_left
                          · simp only [Act.put, List.setIfInBounds_toArray, List.set_cons_zero, List.set_cons_succ, i64_w, i32_w]
                            rfl
                          refine one_ (i := 5) (N := some 27) #[true, true, true, true, true, true, false] rfl rfl (by kernel_rfl) (by decide) (fun K hK => ?_)
                          refine goes_ Try.func28 (by kernel_rfl) rfl #[.agg #[.bool x343000_1, .bool x343001_1, .int .i64 x343002_1, .bool x343003_1], .agg #[.int .u8 ((rd_T47 l0 x9_1).f0), .bool ((rd_T47 l0 x9_1).f1), .bool ((rd_T47 l0 x9_1).f2)]] (by rfl) rfl rfl (by (try simp only [List.map_toArray, List.map_cons, List.map_nil]); first | done | rfl | (simp only [List.length_drop, List.length_take]; rfl)) ?_
                          with_reducible refine (ambidexterlaw26_step.calls x343000_1 x343001_1 x343002_1 x343003_1 ((rd_T47 l0 x9_1).f0) ((rd_T47 l0 x9_1).f1) ((rd_T47 l0 x9_1).f2) t344 t345 t346 (!(x7_1 == x8_1)) _ A11.out).mono ?_
                          rintro e w18 ⟨rfl, hb⟩
                          refine ⟨_, rfl, ?_⟩
                          have n0_ := Aside0.mk (blk_below (g := gb342) (o := .cells #[.bool x343000_1, .bool x343001_1, .int .i64 x343002_1, .bool x343003_1] 44 (0, 0)) (by (with_reducible repeat (first | refine blk_drewN ?_ _ | refine blk_drew ?_ | refine blk_alloc ?_ _)); exact BK342.out) hb)
                          have n1_ := Aside0.mk (below_step (by repeat (first | (with_reducible first | exact HB.out | apply below_alloc | apply pw_below_drewN | apply below_drew1 | refine below_set ?_ GE342.out) | exact HB.out)) hb)
                          clear BK342
                          clear HB
                          have BK342 := n0_
                          have HB := n1_
                          clear n0_ n1_
                          (try clear hb)
                          (try clear hb2)
                          (try clear hk)
                          (try clear hi)
                          refine hK.out _ _ ⟨(blk_cell BK342.out 0).trans rfl, (blk_cell BK342.out 1).trans rfl, (blk_cell BK342.out 2).trans rfl, (blk_cell BK342.out 3).trans rfl, ((HB.out.cell (World.block_lt_of_cell? w _ hw343_0)).trans hw343_0), ((HB.out.cell (World.block_lt_of_cell? w _ hw343_1)).trans hw343_1), ((HB.out.cell (World.block_lt_of_cell? w _ hw343_2)).trans hw343_2)⟩ (fun hHeld => ?_)
                          clear hK K
                          refine norm_ (a' := ?_) ?_ ?_
                          rotate_left
                          · show Act.put _ (some 27) _ = _
                            simp only [Act.put, List.setIfInBounds_toArray, List.set_cons_zero, List.set_cons_succ, i64_w, i32_w]
                            rfl
                          refine last_ (i := 6) (N := none) #[true, true, true, true, true, true, true] rfl rfl (by kernel_rfl) (by decide) (fun K hK => ?_)
                          have hs19 : w18.cell? ⟨gb342, 0, none⟩ = some (.bool x343000_1) := (blk_cell BK342.out 0).trans rfl
                          have hfs19 := blk_frozen BK342.out 0
                          have hs20 : w18.cell? ⟨gb342, 1, none⟩ = some (.bool x343001_1) := (blk_cell BK342.out 1).trans rfl
                          have hfs20 := blk_frozen BK342.out 1
                          have hs21 : w18.cell? ⟨gb342, 2, none⟩ = some (.int .i64 x343002_1) := (blk_cell BK342.out 2).trans rfl
                          have hfs21 := blk_frozen BK342.out 2
                          have hs22 : w18.cell? ⟨gb342, 3, none⟩ = some (.bool x343003_1) := (blk_cell BK342.out 3).trans rfl
                          have hfs22 := blk_frozen BK342.out 3
                          refine skip_ (w1 := ?_) (by rfl) rfl ?_ ?_
                          rotate_left
                          · go_simp
                            rfl
                          refine hK.out _ _ ?_
                          clear hK K
                          refine done_ (by kernel_rfl) ?_
                          have p348 : 0 ≤ (x9_1 : Int) := of_decide_eq_true (by first | (with_reducible assumption) | assumption)
                          have q348 : x9_1 < (l0.length : Int) := of_decide_eq_true (by first | (with_reducible assumption) | assumption)
                          obtain ⟨ad348, e348, hx348_0, hx348_1, hx348_2⟩ := at_T47 HR0.out x9_1 p348 q348
                          obtain rfl : ad343 = ad348 := (by injection e348)
                          have hn348_0 : ad343.block ≠ gb342 := Nat.ne_of_lt (Nat.lt_of_lt_of_le (by have := World.block_lt_of_cell? _ _ hx348_0; first | rwa [add_block] at this | exact this) GW342.out)
                          have hn348_1 : ad343.block ≠ gb342 := Nat.ne_of_lt (Nat.lt_of_lt_of_le (by have := World.block_lt_of_cell? _ _ hx348_0; first | rwa [add_block] at this | exact this) GW342.out)
                          have hn348_2 : ad343.block ≠ gb342 := Nat.ne_of_lt (Nat.lt_of_lt_of_le (by have := World.block_lt_of_cell? _ _ hx348_0; first | rwa [add_block] at this | exact this) GW342.out)
                          have hn348_3 : ad343.block ≠ gb342 := Nat.ne_of_lt (Nat.lt_of_lt_of_le (by have := World.block_lt_of_cell? _ _ hx348_0; first | rwa [add_block] at this | exact this) GW342.out)
                          replace hx348_0 := (HB.out.cell (World.block_lt_of_cell? w _ hx348_0)).trans hx348_0
                          replace hx348_1 := (HB.out.cell (World.block_lt_of_cell? w _ hx348_1)).trans hx348_1
                          replace hx348_2 := (HB.out.cell (World.block_lt_of_cell? w _ hx348_2)).trans hx348_2
                          replace hx348_0 := (cell_far (p := ⟨gb342, 0, none⟩) (by first | (rw [add_block]; exact hn348_0) | (show (Addr.add _ _).block ≠ _; rw [add_block]; exact hn348_0) | exact hn348_0) (.bool t344)).trans hx348_0
                          replace hx348_1 := (cell_far (p := ⟨gb342, 0, none⟩) (by first | (rw [add_block]; exact hn348_0) | (show (Addr.add _ _).block ≠ _; rw [add_block]; exact hn348_0) | exact hn348_0) (.bool t344)).trans hx348_1
                          replace hx348_2 := (cell_far (p := ⟨gb342, 0, none⟩) (by first | (rw [add_block]; exact hn348_0) | (show (Addr.add _ _).block ≠ _; rw [add_block]; exact hn348_0) | exact hn348_0) (.bool t344)).trans hx348_2
                          replace hx348_0 := (cell_far (p := ⟨gb342, 1, none⟩) (by first | (rw [add_block]; exact hn348_1) | (show (Addr.add _ _).block ≠ _; rw [add_block]; exact hn348_1) | exact hn348_1) (.bool t345)).trans hx348_0
                          replace hx348_1 := (cell_far (p := ⟨gb342, 1, none⟩) (by first | (rw [add_block]; exact hn348_1) | (show (Addr.add _ _).block ≠ _; rw [add_block]; exact hn348_1) | exact hn348_1) (.bool t345)).trans hx348_1
                          replace hx348_2 := (cell_far (p := ⟨gb342, 1, none⟩) (by first | (rw [add_block]; exact hn348_1) | (show (Addr.add _ _).block ≠ _; rw [add_block]; exact hn348_1) | exact hn348_1) (.bool t345)).trans hx348_2
                          replace hx348_0 := (cell_far (p := ⟨gb342, 2, none⟩) (by first | (rw [add_block]; exact hn348_2) | (show (Addr.add _ _).block ≠ _; rw [add_block]; exact hn348_2) | exact hn348_2) (.int .i64 t346)).trans hx348_0
                          replace hx348_1 := (cell_far (p := ⟨gb342, 2, none⟩) (by first | (rw [add_block]; exact hn348_2) | (show (Addr.add _ _).block ≠ _; rw [add_block]; exact hn348_2) | exact hn348_2) (.int .i64 t346)).trans hx348_1
                          replace hx348_2 := (cell_far (p := ⟨gb342, 2, none⟩) (by first | (rw [add_block]; exact hn348_2) | (show (Addr.add _ _).block ≠ _; rw [add_block]; exact hn348_2) | exact hn348_2) (.int .i64 t346)).trans hx348_2
                          replace hx348_0 := (cell_far (p := ⟨gb342, 3, none⟩) (by first | (rw [add_block]; exact hn348_3) | (show (Addr.add _ _).block ≠ _; rw [add_block]; exact hn348_3) | exact hn348_3) (.bool (!(x7_1 == x8_1)))).trans hx348_0
                          replace hx348_1 := (cell_far (p := ⟨gb342, 3, none⟩) (by first | (rw [add_block]; exact hn348_3) | (show (Addr.add _ _).block ≠ _; rw [add_block]; exact hn348_3) | exact hn348_3) (.bool (!(x7_1 == x8_1)))).trans hx348_1
                          replace hx348_2 := (cell_far (p := ⟨gb342, 3, none⟩) (by first | (rw [add_block]; exact hn348_3) | (show (Addr.add _ _).block ≠ _; rw [add_block]; exact hn348_3) | exact hn348_3) (.bool (!(x7_1 == x8_1)))).trans hx348_2
                          clear hn348_0
                          clear hn348_1
                          clear hn348_2
                          clear hn348_3
                          replace p348 := eq_true p348
                          replace q348 := eq_true q348
                          have hcz23_0 : w18.cell? ⟨gb342, 0, none⟩ = some (.bool x343000_1) := (blk_cell BK342.out 0).trans rfl
                          have hcz23_1 : w18.cell? ⟨gb342, 1, none⟩ = some (.bool x343001_1) := (blk_cell BK342.out 1).trans rfl
                          have hcz23_2 : w18.cell? ⟨gb342, 2, none⟩ = some (.int .i64 x343002_1) := (blk_cell BK342.out 2).trans rfl
                          have hcz23_3 : w18.cell? ⟨gb342, 3, none⟩ = some (.bool x343003_1) := (blk_cell BK342.out 3).trans rfl
                          have hfz23_0 := blk_frozen BK342.out 0
                          have hfz23_1 := blk_frozen BK342.out 1
                          have hfz23_2 := blk_frozen BK342.out 2
                          have hfz23_3 := blk_frozen BK342.out 3
                          try go_wp2
                          go_roundg kj5
                          case measure => have := HK1.out; have := HJ5.out; omega
                          case rel => exact ⟨(x5_1), ((!(x7_1 == x8_1))), (x7_1), (x8_1), (wrap64 (x9_1 + 1)), (t344), (t345), (t346), ((!(x7_1 == x8_1))), (by first | rfl | (simp; done) | (simp [*]; done)), (by first | rfl | (simp; done) | (simp [*]; done)), (by first | rfl | (simp; done) | (simp [*]; done)), (by first | rfl | (simp; done) | (simp [*]; done)), (by first | rfl | (simp; done) | (simp [*]; done)), H', ⟨by have := HK1.out; have := HJ5.out; omega⟩, ⟨by (with_reducible repeat (first | refine blk_drewN ?_ _ | refine blk_drew ?_ | refine blk_alloc ?_ _)); refine blk_put (cs := #[.bool t344, .bool t345, .int .i64 t346, .bool x343003_1]) ?_ 3 _ rfl; (with_reducible repeat (first | refine blk_drewN ?_ _ | refine blk_drew ?_ | refine blk_alloc ?_ _)); refine blk_put (cs := #[.bool t344, .bool t345, .int .i64 x343002_1, .bool x343003_1]) ?_ 2 _ rfl; (with_reducible repeat (first | refine blk_drewN ?_ _ | refine blk_drew ?_ | refine blk_alloc ?_ _)); refine blk_put (cs := #[.bool t344, .bool x343001_1, .int .i64 x343002_1, .bool x343003_1]) ?_ 1 _ rfl; (with_reducible repeat (first | refine blk_drewN ?_ _ | refine blk_drew ?_ | refine blk_alloc ?_ _)); refine blk_put (cs := #[.bool x343000_1, .bool x343001_1, .int .i64 x343002_1, .bool x343003_1]) ?_ 0 _ rfl; (with_reducible repeat (first | refine blk_drewN ?_ _ | refine blk_drew ?_ | refine blk_alloc ?_ _)); exact BK342.out⟩, ⟨by repeat (first | (with_reducible first | exact HB.out | apply below_alloc | apply pw_below_drewN | apply below_drew1 | refine below_set ?_ GE342.out) | exact HB.out)⟩⟩
                  · replace c13 := Bool.eq_false_iff.mpr c13
                    subst c13
                    have H1 : (if (t347 != false) = true then (some false) else (if (t344 != x7_1) = true then (some false) else (if (t345 != x8_1) = true then (some false) else (ambidexterlaw26_DualchannelBad.l0 kj5 l0 true x5_1 false x7_1 x8_1 (wrap64 (x9_1 + 1)) t344 t345 t346 t347)))) = some r := by rw [if_neg (show ¬ (false = true) by decide)] at H; exact H
                    clear H
                    have H := H1
                    clear H1
                    by_cases c24 : (t347 != false) = true
                    · rw [if_pos c24] at H
                      have c24b0 : (t347 != false) = true := c24
                      (try (have c24b1 : decide (t347 = false) = false := by simpa using c24))
                      (try (have c24b2 : (t347 == false) = false := by simpa using c24))
                      (try (have c24b3 : ¬ (t347 = false) := by simpa using c24))
                      clear c24
                      exact absurd HT.out (by rw [← Option.some.inj H]; decide)
                    · rw [if_neg c24] at H
                      have c24b0 : (t347 != false) = false := by simpa using c24
                      (try (have c24b1 : decide (t347 = false) = true := by simpa using c24))
                      (try (have c24b2 : (t347 == false) = true := by simpa using c24))
                      clear c24
                      by_cases c25 : (t344 != x7_1) = true
                      · rw [if_pos c25] at H
                        have c25b0 : (t344 != x7_1) = true := c25
                        (try (have c25b1 : decide (t344 = x7_1) = false := by simpa using c25))
                        (try (have c25b2 : (t344 == x7_1) = false := by simpa using c25))
                        (try (have c25b3 : ¬ (t344 = x7_1) := by simpa using c25))
                        clear c25
                        exact absurd HT.out (by rw [← Option.some.inj H]; decide)
                      · rw [if_neg c25] at H
                        have c25b0 : (t344 != x7_1) = false := by simpa using c25
                        (try (have c25b1 : decide (t344 = x7_1) = true := by simpa using c25))
                        (try (have c25b2 : (t344 == x7_1) = true := by simpa using c25))
                        clear c25
                        by_cases c26 : (t345 != x8_1) = true
                        · rw [if_pos c26] at H
                          have c26b0 : (t345 != x8_1) = true := c26
                          (try (have c26b1 : decide (t345 = x8_1) = false := by simpa using c26))
                          (try (have c26b2 : (t345 == x8_1) = false := by simpa using c26))
                          (try (have c26b3 : ¬ (t345 = x8_1) := by simpa using c26))
                          clear c26
                          exact absurd HT.out (by rw [← Option.some.inj H]; decide)
                        · rw [if_neg c26] at H
                          have c26b0 : (t345 != x8_1) = false := by simpa using c26
                          (try (have c26b1 : decide (t345 = x8_1) = true := by simpa using c26))
                          (try (have c26b2 : (t345 == x8_1) = true := by simpa using c26))
                          clear c26
                          have H' := Aside0.mk H
                          clear H
                          try go_wp2
                          have n0_ := Aside0.mk (blk_drew BK342.out)
                          have n1_ := Aside0.mk (below_drew1 HB.out)
                          clear BK342
                          clear HB
                          have BK342 := n0_
                          have HB := n1_
                          clear n0_ n1_
                          have p343 : 0 ≤ (x9_1 : Int) := of_decide_eq_true (by first | (with_reducible assumption) | assumption)
                          have q343 : x9_1 < (l0.length : Int) := of_decide_eq_true (by first | (with_reducible assumption) | assumption)
                          obtain ⟨ad343, e343, hx343_0, hx343_1, hx343_2⟩ := at_T47 HR0.out x9_1 p343 q343
                          have hw343_2 := hx343_2
                          have hw343_1 := hx343_1
                          have hw343_0 := hx343_0
                          cases e343
                          replace hx343_0 := (HB.out.cell (World.block_lt_of_cell? w _ hx343_0)).trans hx343_0
                          replace hx343_1 := (HB.out.cell (World.block_lt_of_cell? w _ hx343_1)).trans hx343_1
                          replace hx343_2 := (HB.out.cell (World.block_lt_of_cell? w _ hx343_2)).trans hx343_2
                          replace p343 := eq_true p343
                          replace q343 := eq_true q343
                          refine start_ (n := 7) (S := fun w' => w'.cell? ⟨gb342, 0, none⟩ = some (.bool x343000_1) ∧ w'.cell? ⟨gb342, 1, none⟩ = some (.bool x343001_1) ∧ w'.cell? ⟨gb342, 2, none⟩ = some (.int .i64 x343002_1) ∧ w'.cell? ⟨gb342, 3, none⟩ = some (.bool x343003_1) ∧ w'.cell? (ad343.add ((x9_1).toNat * 3)) = some (.int .u8 ((rd_T47 l0 x9_1).f0)) ∧ w'.cell? ⟨(ad343.add ((x9_1).toNat * 3)).block, (ad343.add ((x9_1).toNat * 3)).off + 1, none⟩ = some (.bool ((rd_T47 l0 x9_1).f1)) ∧ w'.cell? ⟨(ad343.add ((x9_1).toNat * 3)).block, (ad343.add ((x9_1).toNat * 3)).off + 2, none⟩ = some (.bool ((rd_T47 l0 x9_1).f2))) (ds := [6]) #[false, false, false, false, false, false, false] (by kernel_rfl) rfl rfl ⟨(blk_cell BK342.out 0).trans rfl, (blk_cell BK342.out 1).trans rfl, (blk_cell BK342.out 2).trans rfl, (blk_cell BK342.out 3).trans rfl, ((HB.out.cell (World.block_lt_of_cell? w _ hw343_0)).trans hw343_0), ((HB.out.cell (World.block_lt_of_cell? w _ hw343_1)).trans hw343_1), ((HB.out.cell (World.block_lt_of_cell? w _ hw343_2)).trans hw343_2)⟩ (fun hHeld => ?_)
                          generalize wc.drew = w27 at BK342 HB hx343_0 hx343_1 hx343_2 hHeld ⊢
                          refine pure_ (i := 1) (N := some 23) (v := ?_) (a' := ?_) #[false, true, false, false, false, false, false] rfl rfl (by kernel_rfl) (fun _ _ _ h => h) (Or.inl ⟨by rfl, ?_⟩) ?_ ?_
                          rotate_left
                          · intro w'
                            go_simp
                            with_reducible rfl
                          rotate_left
                          · simp only [Act.put, List.setIfInBounds_toArray, List.set_cons_zero, List.set_cons_succ, i64_w, i32_w]
                            rfl
                          refine pure_ (i := 2) (N := some 24) (v := ?_) (a' := ?_) #[false, true, true, false, false, false, false] rfl rfl (by kernel_rfl) (fun _ _ _ h => h) (Or.inl ⟨by rfl, ?_⟩) ?_ ?_
                          rotate_left
                          · intro w'
                            go_simp
                            with_reducible rfl
                          rotate_left
                          · simp only [Act.put, List.setIfInBounds_toArray, List.set_cons_zero, List.set_cons_succ, i64_w, i32_w]
                            rfl
                          refine pure_ (i := 3) (N := some 25) (v := ?_) (a' := ?_) #[false, true, true, true, false, false, false] rfl rfl (by kernel_rfl) (fun _ _ _ h => h) (Or.inl ⟨by rfl, ?_⟩) ?_ ?_
                          rotate_left
                          · intro w'
                            go_simp
                            with_reducible rfl
                          rotate_left
                          · simp only [Act.put, List.setIfInBounds_toArray, List.set_cons_zero, List.set_cons_succ, i64_w, i32_w]
                            rfl
                          refine take_ (i := 0) (N := some 22) (v := ?_) (a' := ?_) #[true, true, true, true, false, false, false] rfl rfl (by kernel_rfl) (fun _ _ _ h => h) (Or.inl ⟨by rfl, ?_⟩) hHeld ?_ ?_
                          rotate_left
                          · rintro w' ⟨s0, s1, s2, s3, s4, s5, s6⟩
                            go_simp
                            with_reducible rfl
                          rotate_left
                          · simp only [Act.put, List.setIfInBounds_toArray, List.set_cons_zero, List.set_cons_succ, i64_w, i32_w]
                            rfl
                          refine take_ (i := 4) (N := some 26) (v := ?_) (a' := ?_) #[true, true, true, true, true, false, false] rfl rfl (by kernel_rfl) (fun _ _ _ h => h) (Or.inl ⟨by rfl, ?_⟩) hHeld ?_ ?_
                          rotate_left
                          · rintro w' ⟨s0, s1, s2, s3, s4, s5, s6⟩
                            go_simp
                            with_reducible rfl
                          rotate_left
                          · simp only [Act.put, List.setIfInBounds_toArray, List.set_cons_zero, List.set_cons_succ, i64_w, i32_w]
                            rfl
                          refine one_ (i := 5) (N := some 27) #[true, true, true, true, true, true, false] rfl rfl (by kernel_rfl) (by decide) (fun K hK => ?_)
                          refine goes_ Try.func28 (by kernel_rfl) rfl #[.agg #[.bool x343000_1, .bool x343001_1, .int .i64 x343002_1, .bool x343003_1], .agg #[.int .u8 ((rd_T47 l0 x9_1).f0), .bool ((rd_T47 l0 x9_1).f1), .bool ((rd_T47 l0 x9_1).f2)]] (by rfl) rfl rfl (by (try simp only [List.map_toArray, List.map_cons, List.map_nil]); first | done | rfl | (simp only [List.length_drop, List.length_take]; rfl)) ?_
                          with_reducible refine (ambidexterlaw26_step.calls x343000_1 x343001_1 x343002_1 x343003_1 ((rd_T47 l0 x9_1).f0) ((rd_T47 l0 x9_1).f1) ((rd_T47 l0 x9_1).f2) t344 t345 t346 t347 _ A11.out).mono ?_
                          rintro e w28 ⟨rfl, hb⟩
                          refine ⟨_, rfl, ?_⟩
                          have n0_ := Aside0.mk (blk_below (g := gb342) (o := .cells #[.bool x343000_1, .bool x343001_1, .int .i64 x343002_1, .bool x343003_1] 44 (0, 0)) (by (with_reducible repeat (first | refine blk_drewN ?_ _ | refine blk_drew ?_ | refine blk_alloc ?_ _)); exact BK342.out) hb)
                          have n1_ := Aside0.mk (below_step (by repeat (first | (with_reducible first | exact HB.out | apply below_alloc | apply pw_below_drewN | apply below_drew1 | refine below_set ?_ GE342.out) | exact HB.out)) hb)
                          clear BK342
                          clear HB
                          have BK342 := n0_
                          have HB := n1_
                          clear n0_ n1_
                          (try clear hb)
                          (try clear hb2)
                          (try clear hk)
                          (try clear hi)
                          refine hK.out _ _ ⟨(blk_cell BK342.out 0).trans rfl, (blk_cell BK342.out 1).trans rfl, (blk_cell BK342.out 2).trans rfl, (blk_cell BK342.out 3).trans rfl, ((HB.out.cell (World.block_lt_of_cell? w _ hw343_0)).trans hw343_0), ((HB.out.cell (World.block_lt_of_cell? w _ hw343_1)).trans hw343_1), ((HB.out.cell (World.block_lt_of_cell? w _ hw343_2)).trans hw343_2)⟩ (fun hHeld => ?_)
                          clear hK K
                          refine norm_ (a' := ?_) ?_ ?_
                          rotate_left
                          · show Act.put _ (some 27) _ = _
                            simp only [Act.put, List.setIfInBounds_toArray, List.set_cons_zero, List.set_cons_succ, i64_w, i32_w]
                            rfl
                          refine last_ (i := 6) (N := none) #[true, true, true, true, true, true, true] rfl rfl (by kernel_rfl) (by decide) (fun K hK => ?_)
                          have hs29 : w28.cell? ⟨gb342, 0, none⟩ = some (.bool x343000_1) := (blk_cell BK342.out 0).trans rfl
                          have hfs29 := blk_frozen BK342.out 0
                          have hs30 : w28.cell? ⟨gb342, 1, none⟩ = some (.bool x343001_1) := (blk_cell BK342.out 1).trans rfl
                          have hfs30 := blk_frozen BK342.out 1
                          have hs31 : w28.cell? ⟨gb342, 2, none⟩ = some (.int .i64 x343002_1) := (blk_cell BK342.out 2).trans rfl
                          have hfs31 := blk_frozen BK342.out 2
                          have hs32 : w28.cell? ⟨gb342, 3, none⟩ = some (.bool x343003_1) := (blk_cell BK342.out 3).trans rfl
                          have hfs32 := blk_frozen BK342.out 3
                          refine skip_ (w1 := ?_) (by rfl) rfl ?_ ?_
                          rotate_left
                          · go_simp
                            rfl
                          refine hK.out _ _ ?_
                          clear hK K
                          refine done_ (by kernel_rfl) ?_
                          have p348 : 0 ≤ (x9_1 : Int) := of_decide_eq_true (by first | (with_reducible assumption) | assumption)
                          have q348 : x9_1 < (l0.length : Int) := of_decide_eq_true (by first | (with_reducible assumption) | assumption)
                          obtain ⟨ad348, e348, hx348_0, hx348_1, hx348_2⟩ := at_T47 HR0.out x9_1 p348 q348
                          obtain rfl : ad343 = ad348 := (by injection e348)
                          have hn348_0 : ad343.block ≠ gb342 := Nat.ne_of_lt (Nat.lt_of_lt_of_le (by have := World.block_lt_of_cell? _ _ hx348_0; first | rwa [add_block] at this | exact this) GW342.out)
                          have hn348_1 : ad343.block ≠ gb342 := Nat.ne_of_lt (Nat.lt_of_lt_of_le (by have := World.block_lt_of_cell? _ _ hx348_0; first | rwa [add_block] at this | exact this) GW342.out)
                          have hn348_2 : ad343.block ≠ gb342 := Nat.ne_of_lt (Nat.lt_of_lt_of_le (by have := World.block_lt_of_cell? _ _ hx348_0; first | rwa [add_block] at this | exact this) GW342.out)
                          have hn348_3 : ad343.block ≠ gb342 := Nat.ne_of_lt (Nat.lt_of_lt_of_le (by have := World.block_lt_of_cell? _ _ hx348_0; first | rwa [add_block] at this | exact this) GW342.out)
                          replace hx348_0 := (HB.out.cell (World.block_lt_of_cell? w _ hx348_0)).trans hx348_0
                          replace hx348_1 := (HB.out.cell (World.block_lt_of_cell? w _ hx348_1)).trans hx348_1
                          replace hx348_2 := (HB.out.cell (World.block_lt_of_cell? w _ hx348_2)).trans hx348_2
                          replace hx348_0 := (cell_far (p := ⟨gb342, 0, none⟩) (by first | (rw [add_block]; exact hn348_0) | (show (Addr.add _ _).block ≠ _; rw [add_block]; exact hn348_0) | exact hn348_0) (.bool t344)).trans hx348_0
                          replace hx348_1 := (cell_far (p := ⟨gb342, 0, none⟩) (by first | (rw [add_block]; exact hn348_0) | (show (Addr.add _ _).block ≠ _; rw [add_block]; exact hn348_0) | exact hn348_0) (.bool t344)).trans hx348_1
                          replace hx348_2 := (cell_far (p := ⟨gb342, 0, none⟩) (by first | (rw [add_block]; exact hn348_0) | (show (Addr.add _ _).block ≠ _; rw [add_block]; exact hn348_0) | exact hn348_0) (.bool t344)).trans hx348_2
                          replace hx348_0 := (cell_far (p := ⟨gb342, 1, none⟩) (by first | (rw [add_block]; exact hn348_1) | (show (Addr.add _ _).block ≠ _; rw [add_block]; exact hn348_1) | exact hn348_1) (.bool t345)).trans hx348_0
                          replace hx348_1 := (cell_far (p := ⟨gb342, 1, none⟩) (by first | (rw [add_block]; exact hn348_1) | (show (Addr.add _ _).block ≠ _; rw [add_block]; exact hn348_1) | exact hn348_1) (.bool t345)).trans hx348_1
                          replace hx348_2 := (cell_far (p := ⟨gb342, 1, none⟩) (by first | (rw [add_block]; exact hn348_1) | (show (Addr.add _ _).block ≠ _; rw [add_block]; exact hn348_1) | exact hn348_1) (.bool t345)).trans hx348_2
                          replace hx348_0 := (cell_far (p := ⟨gb342, 2, none⟩) (by first | (rw [add_block]; exact hn348_2) | (show (Addr.add _ _).block ≠ _; rw [add_block]; exact hn348_2) | exact hn348_2) (.int .i64 t346)).trans hx348_0
                          replace hx348_1 := (cell_far (p := ⟨gb342, 2, none⟩) (by first | (rw [add_block]; exact hn348_2) | (show (Addr.add _ _).block ≠ _; rw [add_block]; exact hn348_2) | exact hn348_2) (.int .i64 t346)).trans hx348_1
                          replace hx348_2 := (cell_far (p := ⟨gb342, 2, none⟩) (by first | (rw [add_block]; exact hn348_2) | (show (Addr.add _ _).block ≠ _; rw [add_block]; exact hn348_2) | exact hn348_2) (.int .i64 t346)).trans hx348_2
                          replace hx348_0 := (cell_far (p := ⟨gb342, 3, none⟩) (by first | (rw [add_block]; exact hn348_3) | (show (Addr.add _ _).block ≠ _; rw [add_block]; exact hn348_3) | exact hn348_3) (.bool t347)).trans hx348_0
                          replace hx348_1 := (cell_far (p := ⟨gb342, 3, none⟩) (by first | (rw [add_block]; exact hn348_3) | (show (Addr.add _ _).block ≠ _; rw [add_block]; exact hn348_3) | exact hn348_3) (.bool t347)).trans hx348_1
                          replace hx348_2 := (cell_far (p := ⟨gb342, 3, none⟩) (by first | (rw [add_block]; exact hn348_3) | (show (Addr.add _ _).block ≠ _; rw [add_block]; exact hn348_3) | exact hn348_3) (.bool t347)).trans hx348_2
                          clear hn348_0
                          clear hn348_1
                          clear hn348_2
                          clear hn348_3
                          replace p348 := eq_true p348
                          replace q348 := eq_true q348
                          have hcz33_0 : w28.cell? ⟨gb342, 0, none⟩ = some (.bool x343000_1) := (blk_cell BK342.out 0).trans rfl
                          have hcz33_1 : w28.cell? ⟨gb342, 1, none⟩ = some (.bool x343001_1) := (blk_cell BK342.out 1).trans rfl
                          have hcz33_2 : w28.cell? ⟨gb342, 2, none⟩ = some (.int .i64 x343002_1) := (blk_cell BK342.out 2).trans rfl
                          have hcz33_3 : w28.cell? ⟨gb342, 3, none⟩ = some (.bool x343003_1) := (blk_cell BK342.out 3).trans rfl
                          have hfz33_0 := blk_frozen BK342.out 0
                          have hfz33_1 := blk_frozen BK342.out 1
                          have hfz33_2 := blk_frozen BK342.out 2
                          have hfz33_3 := blk_frozen BK342.out 3
                          try go_wp2
                          go_roundg kj5
                          case measure => have := HK1.out; have := HJ5.out; omega
                          case rel => exact ⟨(x5_1), (false), (x7_1), (x8_1), (wrap64 (x9_1 + 1)), (t344), (t345), (t346), (t347), (by first | rfl | (simp; done) | (simp [*]; done)), (by first | rfl | (simp; done) | (simp [*]; done)), (by first | rfl | (simp; done) | (simp [*]; done)), (by first | rfl | (simp; done) | (simp [*]; done)), (by first | rfl | (simp; done) | (simp [*]; done)), H', ⟨by have := HK1.out; have := HJ5.out; omega⟩, ⟨by (with_reducible repeat (first | refine blk_drewN ?_ _ | refine blk_drew ?_ | refine blk_alloc ?_ _)); refine blk_put (cs := #[.bool t344, .bool t345, .int .i64 t346, .bool x343003_1]) ?_ 3 _ rfl; (with_reducible repeat (first | refine blk_drewN ?_ _ | refine blk_drew ?_ | refine blk_alloc ?_ _)); refine blk_put (cs := #[.bool t344, .bool t345, .int .i64 x343002_1, .bool x343003_1]) ?_ 2 _ rfl; (with_reducible repeat (first | refine blk_drewN ?_ _ | refine blk_drew ?_ | refine blk_alloc ?_ _)); refine blk_put (cs := #[.bool t344, .bool x343001_1, .int .i64 x343002_1, .bool x343003_1]) ?_ 1 _ rfl; (with_reducible repeat (first | refine blk_drewN ?_ _ | refine blk_drew ?_ | refine blk_alloc ?_ _)); refine blk_put (cs := #[.bool x343000_1, .bool x343001_1, .int .i64 x343002_1, .bool x343003_1]) ?_ 0 _ rfl; (with_reducible repeat (first | refine blk_drewN ?_ _ | refine blk_drew ?_ | refine blk_alloc ?_ _)); exact BK342.out⟩, ⟨by repeat (first | (with_reducible first | exact HB.out | apply below_alloc | apply pw_below_drewN | apply below_drew1 | refine below_set ?_ GE342.out) | exact HB.out)⟩⟩
                · rw [if_neg c12] at H
                  have c12b0 : ((Int.tmod ((rd_T47 l0 x9_1).f0) 8) == 0) = false := beq_eq_false_iff_ne.mpr c12
                  have c12b1 : ((Int.tmod ((rd_T47 l0 x9_1).f0) 8) != 0) = true := bne_iff_ne.mpr c12
                  by_cases c34 : (((rd_T47 l0 x9_1).f1) == ((rd_T47 l0 x9_1).f2)) = true
                  · rw [if_pos c34] at H
                    have c34b0 : (((rd_T47 l0 x9_1).f1) == ((rd_T47 l0 x9_1).f2)) = true := c34
                    (try (have c34b1 : decide (((rd_T47 l0 x9_1).f1) = ((rd_T47 l0 x9_1).f2)) = true := by simpa using c34))
                    (try (have c34b2 : (((rd_T47 l0 x9_1).f1) == ((rd_T47 l0 x9_1).f2)) = true := by simpa using c34))
                    clear c34
                    by_cases c35 : x6_1 = true
                    · subst c35
                      have H1 : (if (t347 != true) = true then (some false) else (if (t344 != ((rd_T47 l0 x9_1).f1)) = true then (some false) else (if (t345 != ((rd_T47 l0 x9_1).f2)) = true then (some false) else (ambidexterlaw26_DualchannelBad.l0 kj5 l0 true 0 true ((rd_T47 l0 x9_1).f1) ((rd_T47 l0 x9_1).f2) (wrap64 (x9_1 + 1)) t344 t345 t346 t347)))) = some r := by rw [if_pos rfl] at H; exact H
                      clear H
                      have H := H1
                      clear H1
                      by_cases c36 : (t347 != true) = true
                      · rw [if_pos c36] at H
                        have c36b0 : (t347 != true) = true := c36
                        (try (have c36b1 : decide (t347 = true) = false := by simpa using c36))
                        (try (have c36b2 : (t347 == true) = false := by simpa using c36))
                        (try (have c36b3 : ¬ (t347 = true) := by simpa using c36))
                        clear c36
                        exact absurd HT.out (by rw [← Option.some.inj H]; decide)
                      · rw [if_neg c36] at H
                        have c36b0 : (t347 != true) = false := by simpa using c36
                        (try (have c36b1 : decide (t347 = true) = true := by simpa using c36))
                        (try (have c36b2 : (t347 == true) = true := by simpa using c36))
                        clear c36
                        by_cases c37 : (t344 != ((rd_T47 l0 x9_1).f1)) = true
                        · rw [if_pos c37] at H
                          have c37b0 : (t344 != ((rd_T47 l0 x9_1).f1)) = true := c37
                          (try (have c37b1 : decide (t344 = ((rd_T47 l0 x9_1).f1)) = false := by simpa using c37))
                          (try (have c37b2 : (t344 == ((rd_T47 l0 x9_1).f1)) = false := by simpa using c37))
                          (try (have c37b3 : ¬ (t344 = ((rd_T47 l0 x9_1).f1)) := by simpa using c37))
                          clear c37
                          exact absurd HT.out (by rw [← Option.some.inj H]; decide)
                        · rw [if_neg c37] at H
                          have c37b0 : (t344 != ((rd_T47 l0 x9_1).f1)) = false := by simpa using c37
                          (try (have c37b1 : decide (t344 = ((rd_T47 l0 x9_1).f1)) = true := by simpa using c37))
                          (try (have c37b2 : (t344 == ((rd_T47 l0 x9_1).f1)) = true := by simpa using c37))
                          clear c37
                          by_cases c38 : (t345 != ((rd_T47 l0 x9_1).f2)) = true
                          · rw [if_pos c38] at H
                            have c38b0 : (t345 != ((rd_T47 l0 x9_1).f2)) = true := c38
                            (try (have c38b1 : decide (t345 = ((rd_T47 l0 x9_1).f2)) = false := by simpa using c38))
                            (try (have c38b2 : (t345 == ((rd_T47 l0 x9_1).f2)) = false := by simpa using c38))
                            (try (have c38b3 : ¬ (t345 = ((rd_T47 l0 x9_1).f2)) := by simpa using c38))
                            clear c38
                            exact absurd HT.out (by rw [← Option.some.inj H]; decide)
                          · rw [if_neg c38] at H
                            have c38b0 : (t345 != ((rd_T47 l0 x9_1).f2)) = false := by simpa using c38
                            (try (have c38b1 : decide (t345 = ((rd_T47 l0 x9_1).f2)) = true := by simpa using c38))
                            (try (have c38b2 : (t345 == ((rd_T47 l0 x9_1).f2)) = true := by simpa using c38))
                            clear c38
                            have H' := Aside0.mk H
                            clear H
                            try go_wp2
                            have n0_ := Aside0.mk (blk_drew BK342.out)
                            have n1_ := Aside0.mk (below_drew1 HB.out)
                            clear BK342
                            clear HB
                            have BK342 := n0_
                            have HB := n1_
                            clear n0_ n1_
                            have p343 : 0 ≤ (x9_1 : Int) := of_decide_eq_true (by first | (with_reducible assumption) | assumption)
                            have q343 : x9_1 < (l0.length : Int) := of_decide_eq_true (by first | (with_reducible assumption) | assumption)
                            obtain ⟨ad343, e343, hx343_0, hx343_1, hx343_2⟩ := at_T47 HR0.out x9_1 p343 q343
                            have hw343_2 := hx343_2
                            have hw343_1 := hx343_1
                            have hw343_0 := hx343_0
                            cases e343
                            replace hx343_0 := (HB.out.cell (World.block_lt_of_cell? w _ hx343_0)).trans hx343_0
                            replace hx343_1 := (HB.out.cell (World.block_lt_of_cell? w _ hx343_1)).trans hx343_1
                            replace hx343_2 := (HB.out.cell (World.block_lt_of_cell? w _ hx343_2)).trans hx343_2
                            replace p343 := eq_true p343
                            replace q343 := eq_true q343
                            refine start_ (n := 7) (S := fun w' => w'.cell? ⟨gb342, 0, none⟩ = some (.bool x343000_1) ∧ w'.cell? ⟨gb342, 1, none⟩ = some (.bool x343001_1) ∧ w'.cell? ⟨gb342, 2, none⟩ = some (.int .i64 x343002_1) ∧ w'.cell? ⟨gb342, 3, none⟩ = some (.bool x343003_1) ∧ w'.cell? (ad343.add ((x9_1).toNat * 3)) = some (.int .u8 ((rd_T47 l0 x9_1).f0)) ∧ w'.cell? ⟨(ad343.add ((x9_1).toNat * 3)).block, (ad343.add ((x9_1).toNat * 3)).off + 1, none⟩ = some (.bool ((rd_T47 l0 x9_1).f1)) ∧ w'.cell? ⟨(ad343.add ((x9_1).toNat * 3)).block, (ad343.add ((x9_1).toNat * 3)).off + 2, none⟩ = some (.bool ((rd_T47 l0 x9_1).f2))) (ds := [6]) #[false, false, false, false, false, false, false] (by kernel_rfl) rfl rfl ⟨(blk_cell BK342.out 0).trans rfl, (blk_cell BK342.out 1).trans rfl, (blk_cell BK342.out 2).trans rfl, (blk_cell BK342.out 3).trans rfl, ((HB.out.cell (World.block_lt_of_cell? w _ hw343_0)).trans hw343_0), ((HB.out.cell (World.block_lt_of_cell? w _ hw343_1)).trans hw343_1), ((HB.out.cell (World.block_lt_of_cell? w _ hw343_2)).trans hw343_2)⟩ (fun hHeld => ?_)
                            generalize wc.drew = w39 at BK342 HB hx343_0 hx343_1 hx343_2 hHeld ⊢
                            refine pure_ (i := 1) (N := some 23) (v := ?_) (a' := ?_) #[false, true, false, false, false, false, false] rfl rfl (by kernel_rfl) (fun _ _ _ h => h) (Or.inl ⟨by rfl, ?_⟩) ?_ ?_
                            rotate_left
                            · intro w'
                              go_simp
                              with_reducible rfl
                            rotate_left
                            · simp only [Act.put, List.setIfInBounds_toArray, List.set_cons_zero, List.set_cons_succ, i64_w, i32_w]
                              rfl
                            refine pure_ (i := 2) (N := some 24) (v := ?_) (a' := ?_) #[false, true, true, false, false, false, false] rfl rfl (by kernel_rfl) (fun _ _ _ h => h) (Or.inl ⟨by rfl, ?_⟩) ?_ ?_
                            rotate_left
                            · intro w'
                              go_simp
                              with_reducible rfl
                            rotate_left
                            · simp only [Act.put, List.setIfInBounds_toArray, List.set_cons_zero, List.set_cons_succ, i64_w, i32_w]
                              rfl
                            refine pure_ (i := 3) (N := some 25) (v := ?_) (a' := ?_) #[false, true, true, true, false, false, false] rfl rfl (by kernel_rfl) (fun _ _ _ h => h) (Or.inl ⟨by rfl, ?_⟩) ?_ ?_
                            rotate_left
                            · intro w'
                              go_simp
                              with_reducible rfl
                            rotate_left
                            · simp only [Act.put, List.setIfInBounds_toArray, List.set_cons_zero, List.set_cons_succ, i64_w, i32_w]
                              rfl
                            refine take_ (i := 0) (N := some 22) (v := ?_) (a' := ?_) #[true, true, true, true, false, false, false] rfl rfl (by kernel_rfl) (fun _ _ _ h => h) (Or.inl ⟨by rfl, ?_⟩) hHeld ?_ ?_
                            rotate_left
                            · rintro w' ⟨s0, s1, s2, s3, s4, s5, s6⟩
                              go_simp
                              with_reducible rfl
                            rotate_left
                            · simp only [Act.put, List.setIfInBounds_toArray, List.set_cons_zero, List.set_cons_succ, i64_w, i32_w]
                              rfl
                            refine take_ (i := 4) (N := some 26) (v := ?_) (a' := ?_) #[true, true, true, true, true, false, false] rfl rfl (by kernel_rfl) (fun _ _ _ h => h) (Or.inl ⟨by rfl, ?_⟩) hHeld ?_ ?_
                            rotate_left
                            · rintro w' ⟨s0, s1, s2, s3, s4, s5, s6⟩
                              go_simp
                              with_reducible rfl
                            rotate_left
                            · simp only [Act.put, List.setIfInBounds_toArray, List.set_cons_zero, List.set_cons_succ, i64_w, i32_w]
                              rfl
                            refine one_ (i := 5) (N := some 27) #[true, true, true, true, true, true, false] rfl rfl (by kernel_rfl) (by decide) (fun K hK => ?_)
                            refine goes_ Try.func28 (by kernel_rfl) rfl #[.agg #[.bool x343000_1, .bool x343001_1, .int .i64 x343002_1, .bool x343003_1], .agg #[.int .u8 ((rd_T47 l0 x9_1).f0), .bool ((rd_T47 l0 x9_1).f1), .bool ((rd_T47 l0 x9_1).f2)]] (by rfl) rfl rfl (by (try simp only [List.map_toArray, List.map_cons, List.map_nil]); first | done | rfl | (simp only [List.length_drop, List.length_take]; rfl)) ?_
                            with_reducible refine (ambidexterlaw26_step.calls x343000_1 x343001_1 x343002_1 x343003_1 ((rd_T47 l0 x9_1).f0) ((rd_T47 l0 x9_1).f1) ((rd_T47 l0 x9_1).f2) t344 t345 t346 t347 _ A11.out).mono ?_
                            rintro e w40 ⟨rfl, hb⟩
                            refine ⟨_, rfl, ?_⟩
                            have n0_ := Aside0.mk (blk_below (g := gb342) (o := .cells #[.bool x343000_1, .bool x343001_1, .int .i64 x343002_1, .bool x343003_1] 44 (0, 0)) (by (with_reducible repeat (first | refine blk_drewN ?_ _ | refine blk_drew ?_ | refine blk_alloc ?_ _)); exact BK342.out) hb)
                            have n1_ := Aside0.mk (below_step (by repeat (first | (with_reducible first | exact HB.out | apply below_alloc | apply pw_below_drewN | apply below_drew1 | refine below_set ?_ GE342.out) | exact HB.out)) hb)
                            clear BK342
                            clear HB
                            have BK342 := n0_
                            have HB := n1_
                            clear n0_ n1_
                            (try clear hb)
                            (try clear hb2)
                            (try clear hk)
                            (try clear hi)
                            refine hK.out _ _ ⟨(blk_cell BK342.out 0).trans rfl, (blk_cell BK342.out 1).trans rfl, (blk_cell BK342.out 2).trans rfl, (blk_cell BK342.out 3).trans rfl, ((HB.out.cell (World.block_lt_of_cell? w _ hw343_0)).trans hw343_0), ((HB.out.cell (World.block_lt_of_cell? w _ hw343_1)).trans hw343_1), ((HB.out.cell (World.block_lt_of_cell? w _ hw343_2)).trans hw343_2)⟩ (fun hHeld => ?_)
                            clear hK K
                            refine norm_ (a' := ?_) ?_ ?_
                            rotate_left
                            · show Act.put _ (some 27) _ = _
                              simp only [Act.put, List.setIfInBounds_toArray, List.set_cons_zero, List.set_cons_succ, i64_w, i32_w]
                              rfl
                            refine last_ (i := 6) (N := none) #[true, true, true, true, true, true, true] rfl rfl (by kernel_rfl) (by decide) (fun K hK => ?_)
                            have hs41 : w40.cell? ⟨gb342, 0, none⟩ = some (.bool x343000_1) := (blk_cell BK342.out 0).trans rfl
                            have hfs41 := blk_frozen BK342.out 0
                            have hs42 : w40.cell? ⟨gb342, 1, none⟩ = some (.bool x343001_1) := (blk_cell BK342.out 1).trans rfl
                            have hfs42 := blk_frozen BK342.out 1
                            have hs43 : w40.cell? ⟨gb342, 2, none⟩ = some (.int .i64 x343002_1) := (blk_cell BK342.out 2).trans rfl
                            have hfs43 := blk_frozen BK342.out 2
                            have hs44 : w40.cell? ⟨gb342, 3, none⟩ = some (.bool x343003_1) := (blk_cell BK342.out 3).trans rfl
                            have hfs44 := blk_frozen BK342.out 3
                            refine skip_ (w1 := ?_) (by rfl) rfl ?_ ?_
                            rotate_left
                            · go_simp
                              rfl
                            refine hK.out _ _ ?_
                            clear hK K
                            refine done_ (by kernel_rfl) ?_
                            have p348 : 0 ≤ (x9_1 : Int) := of_decide_eq_true (by first | (with_reducible assumption) | assumption)
                            have q348 : x9_1 < (l0.length : Int) := of_decide_eq_true (by first | (with_reducible assumption) | assumption)
                            obtain ⟨ad348, e348, hx348_0, hx348_1, hx348_2⟩ := at_T47 HR0.out x9_1 p348 q348
                            obtain rfl : ad343 = ad348 := (by injection e348)
                            have hn348_0 : ad343.block ≠ gb342 := Nat.ne_of_lt (Nat.lt_of_lt_of_le (by have := World.block_lt_of_cell? _ _ hx348_0; first | rwa [add_block] at this | exact this) GW342.out)
                            have hn348_1 : ad343.block ≠ gb342 := Nat.ne_of_lt (Nat.lt_of_lt_of_le (by have := World.block_lt_of_cell? _ _ hx348_0; first | rwa [add_block] at this | exact this) GW342.out)
                            have hn348_2 : ad343.block ≠ gb342 := Nat.ne_of_lt (Nat.lt_of_lt_of_le (by have := World.block_lt_of_cell? _ _ hx348_0; first | rwa [add_block] at this | exact this) GW342.out)
                            have hn348_3 : ad343.block ≠ gb342 := Nat.ne_of_lt (Nat.lt_of_lt_of_le (by have := World.block_lt_of_cell? _ _ hx348_0; first | rwa [add_block] at this | exact this) GW342.out)
                            replace hx348_0 := (HB.out.cell (World.block_lt_of_cell? w _ hx348_0)).trans hx348_0
                            replace hx348_1 := (HB.out.cell (World.block_lt_of_cell? w _ hx348_1)).trans hx348_1
                            replace hx348_2 := (HB.out.cell (World.block_lt_of_cell? w _ hx348_2)).trans hx348_2
                            replace hx348_0 := (cell_far (p := ⟨gb342, 0, none⟩) (by first | (rw [add_block]; exact hn348_0) | (show (Addr.add _ _).block ≠ _; rw [add_block]; exact hn348_0) | exact hn348_0) (.bool t344)).trans hx348_0
                            replace hx348_1 := (cell_far (p := ⟨gb342, 0, none⟩) (by first | (rw [add_block]; exact hn348_0) | (show (Addr.add _ _).block ≠ _; rw [add_block]; exact hn348_0) | exact hn348_0) (.bool t344)).trans hx348_1
                            replace hx348_2 := (cell_far (p := ⟨gb342, 0, none⟩) (by first | (rw [add_block]; exact hn348_0) | (show (Addr.add _ _).block ≠ _; rw [add_block]; exact hn348_0) | exact hn348_0) (.bool t344)).trans hx348_2
                            replace hx348_0 := (cell_far (p := ⟨gb342, 1, none⟩) (by first | (rw [add_block]; exact hn348_1) | (show (Addr.add _ _).block ≠ _; rw [add_block]; exact hn348_1) | exact hn348_1) (.bool t345)).trans hx348_0
                            replace hx348_1 := (cell_far (p := ⟨gb342, 1, none⟩) (by first | (rw [add_block]; exact hn348_1) | (show (Addr.add _ _).block ≠ _; rw [add_block]; exact hn348_1) | exact hn348_1) (.bool t345)).trans hx348_1
                            replace hx348_2 := (cell_far (p := ⟨gb342, 1, none⟩) (by first | (rw [add_block]; exact hn348_1) | (show (Addr.add _ _).block ≠ _; rw [add_block]; exact hn348_1) | exact hn348_1) (.bool t345)).trans hx348_2
                            replace hx348_0 := (cell_far (p := ⟨gb342, 2, none⟩) (by first | (rw [add_block]; exact hn348_2) | (show (Addr.add _ _).block ≠ _; rw [add_block]; exact hn348_2) | exact hn348_2) (.int .i64 t346)).trans hx348_0
                            replace hx348_1 := (cell_far (p := ⟨gb342, 2, none⟩) (by first | (rw [add_block]; exact hn348_2) | (show (Addr.add _ _).block ≠ _; rw [add_block]; exact hn348_2) | exact hn348_2) (.int .i64 t346)).trans hx348_1
                            replace hx348_2 := (cell_far (p := ⟨gb342, 2, none⟩) (by first | (rw [add_block]; exact hn348_2) | (show (Addr.add _ _).block ≠ _; rw [add_block]; exact hn348_2) | exact hn348_2) (.int .i64 t346)).trans hx348_2
                            replace hx348_0 := (cell_far (p := ⟨gb342, 3, none⟩) (by first | (rw [add_block]; exact hn348_3) | (show (Addr.add _ _).block ≠ _; rw [add_block]; exact hn348_3) | exact hn348_3) (.bool t347)).trans hx348_0
                            replace hx348_1 := (cell_far (p := ⟨gb342, 3, none⟩) (by first | (rw [add_block]; exact hn348_3) | (show (Addr.add _ _).block ≠ _; rw [add_block]; exact hn348_3) | exact hn348_3) (.bool t347)).trans hx348_1
                            replace hx348_2 := (cell_far (p := ⟨gb342, 3, none⟩) (by first | (rw [add_block]; exact hn348_3) | (show (Addr.add _ _).block ≠ _; rw [add_block]; exact hn348_3) | exact hn348_3) (.bool t347)).trans hx348_2
                            clear hn348_0
                            clear hn348_1
                            clear hn348_2
                            clear hn348_3
                            replace p348 := eq_true p348
                            replace q348 := eq_true q348
                            have p349 : 0 ≤ (x9_1 : Int) := of_decide_eq_true (by first | (with_reducible assumption) | assumption)
                            have q349 : x9_1 < (l0.length : Int) := of_decide_eq_true (by first | (with_reducible assumption) | assumption)
                            obtain ⟨ad349, e349, hx349_0, hx349_1, hx349_2⟩ := at_T47 HR0.out x9_1 p349 q349
                            obtain rfl : ad343 = ad349 := (by injection e349)
                            have hn349_0 : ad343.block ≠ gb342 := Nat.ne_of_lt (Nat.lt_of_lt_of_le (by have := World.block_lt_of_cell? _ _ hx349_0; first | rwa [add_block] at this | exact this) GW342.out)
                            have hn349_1 : ad343.block ≠ gb342 := Nat.ne_of_lt (Nat.lt_of_lt_of_le (by have := World.block_lt_of_cell? _ _ hx349_0; first | rwa [add_block] at this | exact this) GW342.out)
                            have hn349_2 : ad343.block ≠ gb342 := Nat.ne_of_lt (Nat.lt_of_lt_of_le (by have := World.block_lt_of_cell? _ _ hx349_0; first | rwa [add_block] at this | exact this) GW342.out)
                            have hn349_3 : ad343.block ≠ gb342 := Nat.ne_of_lt (Nat.lt_of_lt_of_le (by have := World.block_lt_of_cell? _ _ hx349_0; first | rwa [add_block] at this | exact this) GW342.out)
                            replace hx349_0 := (HB.out.cell (World.block_lt_of_cell? w _ hx349_0)).trans hx349_0
                            replace hx349_1 := (HB.out.cell (World.block_lt_of_cell? w _ hx349_1)).trans hx349_1
                            replace hx349_2 := (HB.out.cell (World.block_lt_of_cell? w _ hx349_2)).trans hx349_2
                            replace hx349_0 := (cell_far (p := ⟨gb342, 0, none⟩) (by first | (rw [add_block]; exact hn349_0) | (show (Addr.add _ _).block ≠ _; rw [add_block]; exact hn349_0) | exact hn349_0) (.bool t344)).trans hx349_0
                            replace hx349_1 := (cell_far (p := ⟨gb342, 0, none⟩) (by first | (rw [add_block]; exact hn349_0) | (show (Addr.add _ _).block ≠ _; rw [add_block]; exact hn349_0) | exact hn349_0) (.bool t344)).trans hx349_1
                            replace hx349_2 := (cell_far (p := ⟨gb342, 0, none⟩) (by first | (rw [add_block]; exact hn349_0) | (show (Addr.add _ _).block ≠ _; rw [add_block]; exact hn349_0) | exact hn349_0) (.bool t344)).trans hx349_2
                            replace hx349_0 := (cell_far (p := ⟨gb342, 1, none⟩) (by first | (rw [add_block]; exact hn349_1) | (show (Addr.add _ _).block ≠ _; rw [add_block]; exact hn349_1) | exact hn349_1) (.bool t345)).trans hx349_0
                            replace hx349_1 := (cell_far (p := ⟨gb342, 1, none⟩) (by first | (rw [add_block]; exact hn349_1) | (show (Addr.add _ _).block ≠ _; rw [add_block]; exact hn349_1) | exact hn349_1) (.bool t345)).trans hx349_1
                            replace hx349_2 := (cell_far (p := ⟨gb342, 1, none⟩) (by first | (rw [add_block]; exact hn349_1) | (show (Addr.add _ _).block ≠ _; rw [add_block]; exact hn349_1) | exact hn349_1) (.bool t345)).trans hx349_2
                            replace hx349_0 := (cell_far (p := ⟨gb342, 2, none⟩) (by first | (rw [add_block]; exact hn349_2) | (show (Addr.add _ _).block ≠ _; rw [add_block]; exact hn349_2) | exact hn349_2) (.int .i64 t346)).trans hx349_0
                            replace hx349_1 := (cell_far (p := ⟨gb342, 2, none⟩) (by first | (rw [add_block]; exact hn349_2) | (show (Addr.add _ _).block ≠ _; rw [add_block]; exact hn349_2) | exact hn349_2) (.int .i64 t346)).trans hx349_1
                            replace hx349_2 := (cell_far (p := ⟨gb342, 2, none⟩) (by first | (rw [add_block]; exact hn349_2) | (show (Addr.add _ _).block ≠ _; rw [add_block]; exact hn349_2) | exact hn349_2) (.int .i64 t346)).trans hx349_2
                            replace hx349_0 := (cell_far (p := ⟨gb342, 3, none⟩) (by first | (rw [add_block]; exact hn349_3) | (show (Addr.add _ _).block ≠ _; rw [add_block]; exact hn349_3) | exact hn349_3) (.bool t347)).trans hx349_0
                            replace hx349_1 := (cell_far (p := ⟨gb342, 3, none⟩) (by first | (rw [add_block]; exact hn349_3) | (show (Addr.add _ _).block ≠ _; rw [add_block]; exact hn349_3) | exact hn349_3) (.bool t347)).trans hx349_1
                            replace hx349_2 := (cell_far (p := ⟨gb342, 3, none⟩) (by first | (rw [add_block]; exact hn349_3) | (show (Addr.add _ _).block ≠ _; rw [add_block]; exact hn349_3) | exact hn349_3) (.bool t347)).trans hx349_2
                            clear hn349_0
                            clear hn349_1
                            clear hn349_2
                            clear hn349_3
                            replace p349 := eq_true p349
                            replace q349 := eq_true q349
                            have p350 : 0 ≤ (x9_1 : Int) := of_decide_eq_true (by first | (with_reducible assumption) | assumption)
                            have q350 : x9_1 < (l0.length : Int) := of_decide_eq_true (by first | (with_reducible assumption) | assumption)
                            obtain ⟨ad350, e350, hx350_0, hx350_1, hx350_2⟩ := at_T47 HR0.out x9_1 p350 q350
                            obtain rfl : ad343 = ad350 := (by injection e350)
                            have hn350_0 : ad343.block ≠ gb342 := Nat.ne_of_lt (Nat.lt_of_lt_of_le (by have := World.block_lt_of_cell? _ _ hx350_0; first | rwa [add_block] at this | exact this) GW342.out)
                            have hn350_1 : ad343.block ≠ gb342 := Nat.ne_of_lt (Nat.lt_of_lt_of_le (by have := World.block_lt_of_cell? _ _ hx350_0; first | rwa [add_block] at this | exact this) GW342.out)
                            have hn350_2 : ad343.block ≠ gb342 := Nat.ne_of_lt (Nat.lt_of_lt_of_le (by have := World.block_lt_of_cell? _ _ hx350_0; first | rwa [add_block] at this | exact this) GW342.out)
                            have hn350_3 : ad343.block ≠ gb342 := Nat.ne_of_lt (Nat.lt_of_lt_of_le (by have := World.block_lt_of_cell? _ _ hx350_0; first | rwa [add_block] at this | exact this) GW342.out)
                            replace hx350_0 := (HB.out.cell (World.block_lt_of_cell? w _ hx350_0)).trans hx350_0
                            replace hx350_1 := (HB.out.cell (World.block_lt_of_cell? w _ hx350_1)).trans hx350_1
                            replace hx350_2 := (HB.out.cell (World.block_lt_of_cell? w _ hx350_2)).trans hx350_2
                            replace hx350_0 := (cell_far (p := ⟨gb342, 0, none⟩) (by first | (rw [add_block]; exact hn350_0) | (show (Addr.add _ _).block ≠ _; rw [add_block]; exact hn350_0) | exact hn350_0) (.bool t344)).trans hx350_0
                            replace hx350_1 := (cell_far (p := ⟨gb342, 0, none⟩) (by first | (rw [add_block]; exact hn350_0) | (show (Addr.add _ _).block ≠ _; rw [add_block]; exact hn350_0) | exact hn350_0) (.bool t344)).trans hx350_1
                            replace hx350_2 := (cell_far (p := ⟨gb342, 0, none⟩) (by first | (rw [add_block]; exact hn350_0) | (show (Addr.add _ _).block ≠ _; rw [add_block]; exact hn350_0) | exact hn350_0) (.bool t344)).trans hx350_2
                            replace hx350_0 := (cell_far (p := ⟨gb342, 1, none⟩) (by first | (rw [add_block]; exact hn350_1) | (show (Addr.add _ _).block ≠ _; rw [add_block]; exact hn350_1) | exact hn350_1) (.bool t345)).trans hx350_0
                            replace hx350_1 := (cell_far (p := ⟨gb342, 1, none⟩) (by first | (rw [add_block]; exact hn350_1) | (show (Addr.add _ _).block ≠ _; rw [add_block]; exact hn350_1) | exact hn350_1) (.bool t345)).trans hx350_1
                            replace hx350_2 := (cell_far (p := ⟨gb342, 1, none⟩) (by first | (rw [add_block]; exact hn350_1) | (show (Addr.add _ _).block ≠ _; rw [add_block]; exact hn350_1) | exact hn350_1) (.bool t345)).trans hx350_2
                            replace hx350_0 := (cell_far (p := ⟨gb342, 2, none⟩) (by first | (rw [add_block]; exact hn350_2) | (show (Addr.add _ _).block ≠ _; rw [add_block]; exact hn350_2) | exact hn350_2) (.int .i64 t346)).trans hx350_0
                            replace hx350_1 := (cell_far (p := ⟨gb342, 2, none⟩) (by first | (rw [add_block]; exact hn350_2) | (show (Addr.add _ _).block ≠ _; rw [add_block]; exact hn350_2) | exact hn350_2) (.int .i64 t346)).trans hx350_1
                            replace hx350_2 := (cell_far (p := ⟨gb342, 2, none⟩) (by first | (rw [add_block]; exact hn350_2) | (show (Addr.add _ _).block ≠ _; rw [add_block]; exact hn350_2) | exact hn350_2) (.int .i64 t346)).trans hx350_2
                            replace hx350_0 := (cell_far (p := ⟨gb342, 3, none⟩) (by first | (rw [add_block]; exact hn350_3) | (show (Addr.add _ _).block ≠ _; rw [add_block]; exact hn350_3) | exact hn350_3) (.bool t347)).trans hx350_0
                            replace hx350_1 := (cell_far (p := ⟨gb342, 3, none⟩) (by first | (rw [add_block]; exact hn350_3) | (show (Addr.add _ _).block ≠ _; rw [add_block]; exact hn350_3) | exact hn350_3) (.bool t347)).trans hx350_1
                            replace hx350_2 := (cell_far (p := ⟨gb342, 3, none⟩) (by first | (rw [add_block]; exact hn350_3) | (show (Addr.add _ _).block ≠ _; rw [add_block]; exact hn350_3) | exact hn350_3) (.bool t347)).trans hx350_2
                            clear hn350_0
                            clear hn350_1
                            clear hn350_2
                            clear hn350_3
                            replace p350 := eq_true p350
                            replace q350 := eq_true q350
                            have hcz45_0 : w40.cell? ⟨gb342, 0, none⟩ = some (.bool x343000_1) := (blk_cell BK342.out 0).trans rfl
                            have hcz45_1 : w40.cell? ⟨gb342, 1, none⟩ = some (.bool x343001_1) := (blk_cell BK342.out 1).trans rfl
                            have hcz45_2 : w40.cell? ⟨gb342, 2, none⟩ = some (.int .i64 x343002_1) := (blk_cell BK342.out 2).trans rfl
                            have hcz45_3 : w40.cell? ⟨gb342, 3, none⟩ = some (.bool x343003_1) := (blk_cell BK342.out 3).trans rfl
                            have hfz45_0 := blk_frozen BK342.out 0
                            have hfz45_1 := blk_frozen BK342.out 1
                            have hfz45_2 := blk_frozen BK342.out 2
                            have hfz45_3 := blk_frozen BK342.out 3
                            try go_wp2
                            go_roundg kj5
                            case measure => have := HK1.out; have := HJ5.out; omega
                            case rel => exact ⟨(0), (true), ((rd_T47 l0 x9_1).f1), ((rd_T47 l0 x9_1).f2), (wrap64 (x9_1 + 1)), (t344), (t345), (t346), (t347), (by first | rfl | (simp; done) | (simp [*]; done)), (by first | rfl | (simp; done) | (simp [*]; done)), (by first | rfl | (simp; done) | (simp [*]; done)), (by first | rfl | (simp; done) | (simp [*]; done)), (by first | rfl | (simp; done) | (simp [*]; done)), H', ⟨by have := HK1.out; have := HJ5.out; omega⟩, ⟨by (with_reducible repeat (first | refine blk_drewN ?_ _ | refine blk_drew ?_ | refine blk_alloc ?_ _)); refine blk_put (cs := #[.bool t344, .bool t345, .int .i64 t346, .bool x343003_1]) ?_ 3 _ rfl; (with_reducible repeat (first | refine blk_drewN ?_ _ | refine blk_drew ?_ | refine blk_alloc ?_ _)); refine blk_put (cs := #[.bool t344, .bool t345, .int .i64 x343002_1, .bool x343003_1]) ?_ 2 _ rfl; (with_reducible repeat (first | refine blk_drewN ?_ _ | refine blk_drew ?_ | refine blk_alloc ?_ _)); refine blk_put (cs := #[.bool t344, .bool x343001_1, .int .i64 x343002_1, .bool x343003_1]) ?_ 1 _ rfl; (with_reducible repeat (first | refine blk_drewN ?_ _ | refine blk_drew ?_ | refine blk_alloc ?_ _)); refine blk_put (cs := #[.bool x343000_1, .bool x343001_1, .int .i64 x343002_1, .bool x343003_1]) ?_ 0 _ rfl; (with_reducible repeat (first | refine blk_drewN ?_ _ | refine blk_drew ?_ | refine blk_alloc ?_ _)); exact BK342.out⟩, ⟨by repeat (first | (with_reducible first | exact HB.out | apply below_alloc | apply pw_below_drewN | apply below_drew1 | refine below_set ?_ GE342.out) | exact HB.out)⟩⟩
                    · replace c35 := Bool.eq_false_iff.mpr c35
                      subst c35
                      have H1 : (if (t347 != false) = true then (some false) else (if (t344 != ((rd_T47 l0 x9_1).f1)) = true then (some false) else (if (t345 != ((rd_T47 l0 x9_1).f2)) = true then (some false) else (ambidexterlaw26_DualchannelBad.l0 kj5 l0 true 0 false ((rd_T47 l0 x9_1).f1) ((rd_T47 l0 x9_1).f2) (wrap64 (x9_1 + 1)) t344 t345 t346 t347)))) = some r := by rw [if_neg (show ¬ (false = true) by decide)] at H; exact H
                      clear H
                      have H := H1
                      clear H1
                      by_cases c46 : (t347 != false) = true
                      · rw [if_pos c46] at H
                        have c46b0 : (t347 != false) = true := c46
                        (try (have c46b1 : decide (t347 = false) = false := by simpa using c46))
                        (try (have c46b2 : (t347 == false) = false := by simpa using c46))
                        (try (have c46b3 : ¬ (t347 = false) := by simpa using c46))
                        clear c46
                        exact absurd HT.out (by rw [← Option.some.inj H]; decide)
                      · rw [if_neg c46] at H
                        have c46b0 : (t347 != false) = false := by simpa using c46
                        (try (have c46b1 : decide (t347 = false) = true := by simpa using c46))
                        (try (have c46b2 : (t347 == false) = true := by simpa using c46))
                        clear c46
                        by_cases c47 : (t344 != ((rd_T47 l0 x9_1).f1)) = true
                        · rw [if_pos c47] at H
                          have c47b0 : (t344 != ((rd_T47 l0 x9_1).f1)) = true := c47
                          (try (have c47b1 : decide (t344 = ((rd_T47 l0 x9_1).f1)) = false := by simpa using c47))
                          (try (have c47b2 : (t344 == ((rd_T47 l0 x9_1).f1)) = false := by simpa using c47))
                          (try (have c47b3 : ¬ (t344 = ((rd_T47 l0 x9_1).f1)) := by simpa using c47))
                          clear c47
                          exact absurd HT.out (by rw [← Option.some.inj H]; decide)
                        · rw [if_neg c47] at H
                          have c47b0 : (t344 != ((rd_T47 l0 x9_1).f1)) = false := by simpa using c47
                          (try (have c47b1 : decide (t344 = ((rd_T47 l0 x9_1).f1)) = true := by simpa using c47))
                          (try (have c47b2 : (t344 == ((rd_T47 l0 x9_1).f1)) = true := by simpa using c47))
                          clear c47
                          by_cases c48 : (t345 != ((rd_T47 l0 x9_1).f2)) = true
                          · rw [if_pos c48] at H
                            have c48b0 : (t345 != ((rd_T47 l0 x9_1).f2)) = true := c48
                            (try (have c48b1 : decide (t345 = ((rd_T47 l0 x9_1).f2)) = false := by simpa using c48))
                            (try (have c48b2 : (t345 == ((rd_T47 l0 x9_1).f2)) = false := by simpa using c48))
                            (try (have c48b3 : ¬ (t345 = ((rd_T47 l0 x9_1).f2)) := by simpa using c48))
                            clear c48
                            exact absurd HT.out (by rw [← Option.some.inj H]; decide)
                          · rw [if_neg c48] at H
                            have c48b0 : (t345 != ((rd_T47 l0 x9_1).f2)) = false := by simpa using c48
                            (try (have c48b1 : decide (t345 = ((rd_T47 l0 x9_1).f2)) = true := by simpa using c48))
                            (try (have c48b2 : (t345 == ((rd_T47 l0 x9_1).f2)) = true := by simpa using c48))
                            clear c48
                            have H' := Aside0.mk H
                            clear H
                            try go_wp2
                            have n0_ := Aside0.mk (blk_drew BK342.out)
                            have n1_ := Aside0.mk (below_drew1 HB.out)
                            clear BK342
                            clear HB
                            have BK342 := n0_
                            have HB := n1_
                            clear n0_ n1_
                            have p343 : 0 ≤ (x9_1 : Int) := of_decide_eq_true (by first | (with_reducible assumption) | assumption)
                            have q343 : x9_1 < (l0.length : Int) := of_decide_eq_true (by first | (with_reducible assumption) | assumption)
                            obtain ⟨ad343, e343, hx343_0, hx343_1, hx343_2⟩ := at_T47 HR0.out x9_1 p343 q343
                            have hw343_2 := hx343_2
                            have hw343_1 := hx343_1
                            have hw343_0 := hx343_0
                            cases e343
                            replace hx343_0 := (HB.out.cell (World.block_lt_of_cell? w _ hx343_0)).trans hx343_0
                            replace hx343_1 := (HB.out.cell (World.block_lt_of_cell? w _ hx343_1)).trans hx343_1
                            replace hx343_2 := (HB.out.cell (World.block_lt_of_cell? w _ hx343_2)).trans hx343_2
                            replace p343 := eq_true p343
                            replace q343 := eq_true q343
                            refine start_ (n := 7) (S := fun w' => w'.cell? ⟨gb342, 0, none⟩ = some (.bool x343000_1) ∧ w'.cell? ⟨gb342, 1, none⟩ = some (.bool x343001_1) ∧ w'.cell? ⟨gb342, 2, none⟩ = some (.int .i64 x343002_1) ∧ w'.cell? ⟨gb342, 3, none⟩ = some (.bool x343003_1) ∧ w'.cell? (ad343.add ((x9_1).toNat * 3)) = some (.int .u8 ((rd_T47 l0 x9_1).f0)) ∧ w'.cell? ⟨(ad343.add ((x9_1).toNat * 3)).block, (ad343.add ((x9_1).toNat * 3)).off + 1, none⟩ = some (.bool ((rd_T47 l0 x9_1).f1)) ∧ w'.cell? ⟨(ad343.add ((x9_1).toNat * 3)).block, (ad343.add ((x9_1).toNat * 3)).off + 2, none⟩ = some (.bool ((rd_T47 l0 x9_1).f2))) (ds := [6]) #[false, false, false, false, false, false, false] (by kernel_rfl) rfl rfl ⟨(blk_cell BK342.out 0).trans rfl, (blk_cell BK342.out 1).trans rfl, (blk_cell BK342.out 2).trans rfl, (blk_cell BK342.out 3).trans rfl, ((HB.out.cell (World.block_lt_of_cell? w _ hw343_0)).trans hw343_0), ((HB.out.cell (World.block_lt_of_cell? w _ hw343_1)).trans hw343_1), ((HB.out.cell (World.block_lt_of_cell? w _ hw343_2)).trans hw343_2)⟩ (fun hHeld => ?_)
                            generalize wc.drew = w49 at BK342 HB hx343_0 hx343_1 hx343_2 hHeld ⊢
                            refine pure_ (i := 1) (N := some 23) (v := ?_) (a' := ?_) #[false, true, false, false, false, false, false] rfl rfl (by kernel_rfl) (fun _ _ _ h => h) (Or.inl ⟨by rfl, ?_⟩) ?_ ?_
                            rotate_left
                            · intro w'
                              go_simp
                              with_reducible rfl
                            rotate_left
                            · simp only [Act.put, List.setIfInBounds_toArray, List.set_cons_zero, List.set_cons_succ, i64_w, i32_w]
                              rfl
                            refine pure_ (i := 2) (N := some 24) (v := ?_) (a' := ?_) #[false, true, true, false, false, false, false] rfl rfl (by kernel_rfl) (fun _ _ _ h => h) (Or.inl ⟨by rfl, ?_⟩) ?_ ?_
                            rotate_left
                            · intro w'
                              go_simp
                              with_reducible rfl
                            rotate_left
                            · simp only [Act.put, List.setIfInBounds_toArray, List.set_cons_zero, List.set_cons_succ, i64_w, i32_w]
                              rfl
                            refine pure_ (i := 3) (N := some 25) (v := ?_) (a' := ?_) #[false, true, true, true, false, false, false] rfl rfl (by kernel_rfl) (fun _ _ _ h => h) (Or.inl ⟨by rfl, ?_⟩) ?_ ?_
                            rotate_left
                            · intro w'
                              go_simp
                              with_reducible rfl
                            rotate_left
                            · simp only [Act.put, List.setIfInBounds_toArray, List.set_cons_zero, List.set_cons_succ, i64_w, i32_w]
                              rfl
                            refine take_ (i := 0) (N := some 22) (v := ?_) (a' := ?_) #[true, true, true, true, false, false, false] rfl rfl (by kernel_rfl) (fun _ _ _ h => h) (Or.inl ⟨by rfl, ?_⟩) hHeld ?_ ?_
                            rotate_left
                            · rintro w' ⟨s0, s1, s2, s3, s4, s5, s6⟩
                              go_simp
                              with_reducible rfl
                            rotate_left
                            · simp only [Act.put, List.setIfInBounds_toArray, List.set_cons_zero, List.set_cons_succ, i64_w, i32_w]
                              rfl
                            refine take_ (i := 4) (N := some 26) (v := ?_) (a' := ?_) #[true, true, true, true, true, false, false] rfl rfl (by kernel_rfl) (fun _ _ _ h => h) (Or.inl ⟨by rfl, ?_⟩) hHeld ?_ ?_
                            rotate_left
                            · rintro w' ⟨s0, s1, s2, s3, s4, s5, s6⟩
                              go_simp
                              with_reducible rfl
                            rotate_left
                            · simp only [Act.put, List.setIfInBounds_toArray, List.set_cons_zero, List.set_cons_succ, i64_w, i32_w]
                              rfl
                            refine one_ (i := 5) (N := some 27) #[true, true, true, true, true, true, false] rfl rfl (by kernel_rfl) (by decide) (fun K hK => ?_)
                            refine goes_ Try.func28 (by kernel_rfl) rfl #[.agg #[.bool x343000_1, .bool x343001_1, .int .i64 x343002_1, .bool x343003_1], .agg #[.int .u8 ((rd_T47 l0 x9_1).f0), .bool ((rd_T47 l0 x9_1).f1), .bool ((rd_T47 l0 x9_1).f2)]] (by rfl) rfl rfl (by (try simp only [List.map_toArray, List.map_cons, List.map_nil]); first | done | rfl | (simp only [List.length_drop, List.length_take]; rfl)) ?_
                            with_reducible refine (ambidexterlaw26_step.calls x343000_1 x343001_1 x343002_1 x343003_1 ((rd_T47 l0 x9_1).f0) ((rd_T47 l0 x9_1).f1) ((rd_T47 l0 x9_1).f2) t344 t345 t346 t347 _ A11.out).mono ?_
                            rintro e w50 ⟨rfl, hb⟩
                            refine ⟨_, rfl, ?_⟩
                            have n0_ := Aside0.mk (blk_below (g := gb342) (o := .cells #[.bool x343000_1, .bool x343001_1, .int .i64 x343002_1, .bool x343003_1] 44 (0, 0)) (by (with_reducible repeat (first | refine blk_drewN ?_ _ | refine blk_drew ?_ | refine blk_alloc ?_ _)); exact BK342.out) hb)
                            have n1_ := Aside0.mk (below_step (by repeat (first | (with_reducible first | exact HB.out | apply below_alloc | apply pw_below_drewN | apply below_drew1 | refine below_set ?_ GE342.out) | exact HB.out)) hb)
                            clear BK342
                            clear HB
                            have BK342 := n0_
                            have HB := n1_
                            clear n0_ n1_
                            (try clear hb)
                            (try clear hb2)
                            (try clear hk)
                            (try clear hi)
                            refine hK.out _ _ ⟨(blk_cell BK342.out 0).trans rfl, (blk_cell BK342.out 1).trans rfl, (blk_cell BK342.out 2).trans rfl, (blk_cell BK342.out 3).trans rfl, ((HB.out.cell (World.block_lt_of_cell? w _ hw343_0)).trans hw343_0), ((HB.out.cell (World.block_lt_of_cell? w _ hw343_1)).trans hw343_1), ((HB.out.cell (World.block_lt_of_cell? w _ hw343_2)).trans hw343_2)⟩ (fun hHeld => ?_)
                            clear hK K
                            refine norm_ (a' := ?_) ?_ ?_
                            rotate_left
                            · show Act.put _ (some 27) _ = _
                              simp only [Act.put, List.setIfInBounds_toArray, List.set_cons_zero, List.set_cons_succ, i64_w, i32_w]
                              rfl
                            refine last_ (i := 6) (N := none) #[true, true, true, true, true, true, true] rfl rfl (by kernel_rfl) (by decide) (fun K hK => ?_)
                            have hs51 : w50.cell? ⟨gb342, 0, none⟩ = some (.bool x343000_1) := (blk_cell BK342.out 0).trans rfl
                            have hfs51 := blk_frozen BK342.out 0
                            have hs52 : w50.cell? ⟨gb342, 1, none⟩ = some (.bool x343001_1) := (blk_cell BK342.out 1).trans rfl
                            have hfs52 := blk_frozen BK342.out 1
                            have hs53 : w50.cell? ⟨gb342, 2, none⟩ = some (.int .i64 x343002_1) := (blk_cell BK342.out 2).trans rfl
                            have hfs53 := blk_frozen BK342.out 2
                            have hs54 : w50.cell? ⟨gb342, 3, none⟩ = some (.bool x343003_1) := (blk_cell BK342.out 3).trans rfl
                            have hfs54 := blk_frozen BK342.out 3
                            refine skip_ (w1 := ?_) (by rfl) rfl ?_ ?_
                            rotate_left
                            · go_simp
                              rfl
                            refine hK.out _ _ ?_
                            clear hK K
                            refine done_ (by kernel_rfl) ?_
                            have p348 : 0 ≤ (x9_1 : Int) := of_decide_eq_true (by first | (with_reducible assumption) | assumption)
                            have q348 : x9_1 < (l0.length : Int) := of_decide_eq_true (by first | (with_reducible assumption) | assumption)
                            obtain ⟨ad348, e348, hx348_0, hx348_1, hx348_2⟩ := at_T47 HR0.out x9_1 p348 q348
                            obtain rfl : ad343 = ad348 := (by injection e348)
                            have hn348_0 : ad343.block ≠ gb342 := Nat.ne_of_lt (Nat.lt_of_lt_of_le (by have := World.block_lt_of_cell? _ _ hx348_0; first | rwa [add_block] at this | exact this) GW342.out)
                            have hn348_1 : ad343.block ≠ gb342 := Nat.ne_of_lt (Nat.lt_of_lt_of_le (by have := World.block_lt_of_cell? _ _ hx348_0; first | rwa [add_block] at this | exact this) GW342.out)
                            have hn348_2 : ad343.block ≠ gb342 := Nat.ne_of_lt (Nat.lt_of_lt_of_le (by have := World.block_lt_of_cell? _ _ hx348_0; first | rwa [add_block] at this | exact this) GW342.out)
                            have hn348_3 : ad343.block ≠ gb342 := Nat.ne_of_lt (Nat.lt_of_lt_of_le (by have := World.block_lt_of_cell? _ _ hx348_0; first | rwa [add_block] at this | exact this) GW342.out)
                            replace hx348_0 := (HB.out.cell (World.block_lt_of_cell? w _ hx348_0)).trans hx348_0
                            replace hx348_1 := (HB.out.cell (World.block_lt_of_cell? w _ hx348_1)).trans hx348_1
                            replace hx348_2 := (HB.out.cell (World.block_lt_of_cell? w _ hx348_2)).trans hx348_2
                            replace hx348_0 := (cell_far (p := ⟨gb342, 0, none⟩) (by first | (rw [add_block]; exact hn348_0) | (show (Addr.add _ _).block ≠ _; rw [add_block]; exact hn348_0) | exact hn348_0) (.bool t344)).trans hx348_0
                            replace hx348_1 := (cell_far (p := ⟨gb342, 0, none⟩) (by first | (rw [add_block]; exact hn348_0) | (show (Addr.add _ _).block ≠ _; rw [add_block]; exact hn348_0) | exact hn348_0) (.bool t344)).trans hx348_1
                            replace hx348_2 := (cell_far (p := ⟨gb342, 0, none⟩) (by first | (rw [add_block]; exact hn348_0) | (show (Addr.add _ _).block ≠ _; rw [add_block]; exact hn348_0) | exact hn348_0) (.bool t344)).trans hx348_2
                            replace hx348_0 := (cell_far (p := ⟨gb342, 1, none⟩) (by first | (rw [add_block]; exact hn348_1) | (show (Addr.add _ _).block ≠ _; rw [add_block]; exact hn348_1) | exact hn348_1) (.bool t345)).trans hx348_0
                            replace hx348_1 := (cell_far (p := ⟨gb342, 1, none⟩) (by first | (rw [add_block]; exact hn348_1) | (show (Addr.add _ _).block ≠ _; rw [add_block]; exact hn348_1) | exact hn348_1) (.bool t345)).trans hx348_1
                            replace hx348_2 := (cell_far (p := ⟨gb342, 1, none⟩) (by first | (rw [add_block]; exact hn348_1) | (show (Addr.add _ _).block ≠ _; rw [add_block]; exact hn348_1) | exact hn348_1) (.bool t345)).trans hx348_2
                            replace hx348_0 := (cell_far (p := ⟨gb342, 2, none⟩) (by first | (rw [add_block]; exact hn348_2) | (show (Addr.add _ _).block ≠ _; rw [add_block]; exact hn348_2) | exact hn348_2) (.int .i64 t346)).trans hx348_0
                            replace hx348_1 := (cell_far (p := ⟨gb342, 2, none⟩) (by first | (rw [add_block]; exact hn348_2) | (show (Addr.add _ _).block ≠ _; rw [add_block]; exact hn348_2) | exact hn348_2) (.int .i64 t346)).trans hx348_1
                            replace hx348_2 := (cell_far (p := ⟨gb342, 2, none⟩) (by first | (rw [add_block]; exact hn348_2) | (show (Addr.add _ _).block ≠ _; rw [add_block]; exact hn348_2) | exact hn348_2) (.int .i64 t346)).trans hx348_2
                            replace hx348_0 := (cell_far (p := ⟨gb342, 3, none⟩) (by first | (rw [add_block]; exact hn348_3) | (show (Addr.add _ _).block ≠ _; rw [add_block]; exact hn348_3) | exact hn348_3) (.bool t347)).trans hx348_0
                            replace hx348_1 := (cell_far (p := ⟨gb342, 3, none⟩) (by first | (rw [add_block]; exact hn348_3) | (show (Addr.add _ _).block ≠ _; rw [add_block]; exact hn348_3) | exact hn348_3) (.bool t347)).trans hx348_1
                            replace hx348_2 := (cell_far (p := ⟨gb342, 3, none⟩) (by first | (rw [add_block]; exact hn348_3) | (show (Addr.add _ _).block ≠ _; rw [add_block]; exact hn348_3) | exact hn348_3) (.bool t347)).trans hx348_2
                            clear hn348_0
                            clear hn348_1
                            clear hn348_2
                            clear hn348_3
                            replace p348 := eq_true p348
                            replace q348 := eq_true q348
                            have p349 : 0 ≤ (x9_1 : Int) := of_decide_eq_true (by first | (with_reducible assumption) | assumption)
                            have q349 : x9_1 < (l0.length : Int) := of_decide_eq_true (by first | (with_reducible assumption) | assumption)
                            obtain ⟨ad349, e349, hx349_0, hx349_1, hx349_2⟩ := at_T47 HR0.out x9_1 p349 q349
                            obtain rfl : ad343 = ad349 := (by injection e349)
                            have hn349_0 : ad343.block ≠ gb342 := Nat.ne_of_lt (Nat.lt_of_lt_of_le (by have := World.block_lt_of_cell? _ _ hx349_0; first | rwa [add_block] at this | exact this) GW342.out)
                            have hn349_1 : ad343.block ≠ gb342 := Nat.ne_of_lt (Nat.lt_of_lt_of_le (by have := World.block_lt_of_cell? _ _ hx349_0; first | rwa [add_block] at this | exact this) GW342.out)
                            have hn349_2 : ad343.block ≠ gb342 := Nat.ne_of_lt (Nat.lt_of_lt_of_le (by have := World.block_lt_of_cell? _ _ hx349_0; first | rwa [add_block] at this | exact this) GW342.out)
                            have hn349_3 : ad343.block ≠ gb342 := Nat.ne_of_lt (Nat.lt_of_lt_of_le (by have := World.block_lt_of_cell? _ _ hx349_0; first | rwa [add_block] at this | exact this) GW342.out)
                            replace hx349_0 := (HB.out.cell (World.block_lt_of_cell? w _ hx349_0)).trans hx349_0
                            replace hx349_1 := (HB.out.cell (World.block_lt_of_cell? w _ hx349_1)).trans hx349_1
                            replace hx349_2 := (HB.out.cell (World.block_lt_of_cell? w _ hx349_2)).trans hx349_2
                            replace hx349_0 := (cell_far (p := ⟨gb342, 0, none⟩) (by first | (rw [add_block]; exact hn349_0) | (show (Addr.add _ _).block ≠ _; rw [add_block]; exact hn349_0) | exact hn349_0) (.bool t344)).trans hx349_0
                            replace hx349_1 := (cell_far (p := ⟨gb342, 0, none⟩) (by first | (rw [add_block]; exact hn349_0) | (show (Addr.add _ _).block ≠ _; rw [add_block]; exact hn349_0) | exact hn349_0) (.bool t344)).trans hx349_1
                            replace hx349_2 := (cell_far (p := ⟨gb342, 0, none⟩) (by first | (rw [add_block]; exact hn349_0) | (show (Addr.add _ _).block ≠ _; rw [add_block]; exact hn349_0) | exact hn349_0) (.bool t344)).trans hx349_2
                            replace hx349_0 := (cell_far (p := ⟨gb342, 1, none⟩) (by first | (rw [add_block]; exact hn349_1) | (show (Addr.add _ _).block ≠ _; rw [add_block]; exact hn349_1) | exact hn349_1) (.bool t345)).trans hx349_0
                            replace hx349_1 := (cell_far (p := ⟨gb342, 1, none⟩) (by first | (rw [add_block]; exact hn349_1) | (show (Addr.add _ _).block ≠ _; rw [add_block]; exact hn349_1) | exact hn349_1) (.bool t345)).trans hx349_1
                            replace hx349_2 := (cell_far (p := ⟨gb342, 1, none⟩) (by first | (rw [add_block]; exact hn349_1) | (show (Addr.add _ _).block ≠ _; rw [add_block]; exact hn349_1) | exact hn349_1) (.bool t345)).trans hx349_2
                            replace hx349_0 := (cell_far (p := ⟨gb342, 2, none⟩) (by first | (rw [add_block]; exact hn349_2) | (show (Addr.add _ _).block ≠ _; rw [add_block]; exact hn349_2) | exact hn349_2) (.int .i64 t346)).trans hx349_0
                            replace hx349_1 := (cell_far (p := ⟨gb342, 2, none⟩) (by first | (rw [add_block]; exact hn349_2) | (show (Addr.add _ _).block ≠ _; rw [add_block]; exact hn349_2) | exact hn349_2) (.int .i64 t346)).trans hx349_1
                            replace hx349_2 := (cell_far (p := ⟨gb342, 2, none⟩) (by first | (rw [add_block]; exact hn349_2) | (show (Addr.add _ _).block ≠ _; rw [add_block]; exact hn349_2) | exact hn349_2) (.int .i64 t346)).trans hx349_2
                            replace hx349_0 := (cell_far (p := ⟨gb342, 3, none⟩) (by first | (rw [add_block]; exact hn349_3) | (show (Addr.add _ _).block ≠ _; rw [add_block]; exact hn349_3) | exact hn349_3) (.bool t347)).trans hx349_0
                            replace hx349_1 := (cell_far (p := ⟨gb342, 3, none⟩) (by first | (rw [add_block]; exact hn349_3) | (show (Addr.add _ _).block ≠ _; rw [add_block]; exact hn349_3) | exact hn349_3) (.bool t347)).trans hx349_1
                            replace hx349_2 := (cell_far (p := ⟨gb342, 3, none⟩) (by first | (rw [add_block]; exact hn349_3) | (show (Addr.add _ _).block ≠ _; rw [add_block]; exact hn349_3) | exact hn349_3) (.bool t347)).trans hx349_2
                            clear hn349_0
                            clear hn349_1
                            clear hn349_2
                            clear hn349_3
                            replace p349 := eq_true p349
                            replace q349 := eq_true q349
                            have p350 : 0 ≤ (x9_1 : Int) := of_decide_eq_true (by first | (with_reducible assumption) | assumption)
                            have q350 : x9_1 < (l0.length : Int) := of_decide_eq_true (by first | (with_reducible assumption) | assumption)
                            obtain ⟨ad350, e350, hx350_0, hx350_1, hx350_2⟩ := at_T47 HR0.out x9_1 p350 q350
                            obtain rfl : ad343 = ad350 := (by injection e350)
                            have hn350_0 : ad343.block ≠ gb342 := Nat.ne_of_lt (Nat.lt_of_lt_of_le (by have := World.block_lt_of_cell? _ _ hx350_0; first | rwa [add_block] at this | exact this) GW342.out)
                            have hn350_1 : ad343.block ≠ gb342 := Nat.ne_of_lt (Nat.lt_of_lt_of_le (by have := World.block_lt_of_cell? _ _ hx350_0; first | rwa [add_block] at this | exact this) GW342.out)
                            have hn350_2 : ad343.block ≠ gb342 := Nat.ne_of_lt (Nat.lt_of_lt_of_le (by have := World.block_lt_of_cell? _ _ hx350_0; first | rwa [add_block] at this | exact this) GW342.out)
                            have hn350_3 : ad343.block ≠ gb342 := Nat.ne_of_lt (Nat.lt_of_lt_of_le (by have := World.block_lt_of_cell? _ _ hx350_0; first | rwa [add_block] at this | exact this) GW342.out)
                            replace hx350_0 := (HB.out.cell (World.block_lt_of_cell? w _ hx350_0)).trans hx350_0
                            replace hx350_1 := (HB.out.cell (World.block_lt_of_cell? w _ hx350_1)).trans hx350_1
                            replace hx350_2 := (HB.out.cell (World.block_lt_of_cell? w _ hx350_2)).trans hx350_2
                            replace hx350_0 := (cell_far (p := ⟨gb342, 0, none⟩) (by first | (rw [add_block]; exact hn350_0) | (show (Addr.add _ _).block ≠ _; rw [add_block]; exact hn350_0) | exact hn350_0) (.bool t344)).trans hx350_0
                            replace hx350_1 := (cell_far (p := ⟨gb342, 0, none⟩) (by first | (rw [add_block]; exact hn350_0) | (show (Addr.add _ _).block ≠ _; rw [add_block]; exact hn350_0) | exact hn350_0) (.bool t344)).trans hx350_1
                            replace hx350_2 := (cell_far (p := ⟨gb342, 0, none⟩) (by first | (rw [add_block]; exact hn350_0) | (show (Addr.add _ _).block ≠ _; rw [add_block]; exact hn350_0) | exact hn350_0) (.bool t344)).trans hx350_2
                            replace hx350_0 := (cell_far (p := ⟨gb342, 1, none⟩) (by first | (rw [add_block]; exact hn350_1) | (show (Addr.add _ _).block ≠ _; rw [add_block]; exact hn350_1) | exact hn350_1) (.bool t345)).trans hx350_0
                            replace hx350_1 := (cell_far (p := ⟨gb342, 1, none⟩) (by first | (rw [add_block]; exact hn350_1) | (show (Addr.add _ _).block ≠ _; rw [add_block]; exact hn350_1) | exact hn350_1) (.bool t345)).trans hx350_1
                            replace hx350_2 := (cell_far (p := ⟨gb342, 1, none⟩) (by first | (rw [add_block]; exact hn350_1) | (show (Addr.add _ _).block ≠ _; rw [add_block]; exact hn350_1) | exact hn350_1) (.bool t345)).trans hx350_2
                            replace hx350_0 := (cell_far (p := ⟨gb342, 2, none⟩) (by first | (rw [add_block]; exact hn350_2) | (show (Addr.add _ _).block ≠ _; rw [add_block]; exact hn350_2) | exact hn350_2) (.int .i64 t346)).trans hx350_0
                            replace hx350_1 := (cell_far (p := ⟨gb342, 2, none⟩) (by first | (rw [add_block]; exact hn350_2) | (show (Addr.add _ _).block ≠ _; rw [add_block]; exact hn350_2) | exact hn350_2) (.int .i64 t346)).trans hx350_1
                            replace hx350_2 := (cell_far (p := ⟨gb342, 2, none⟩) (by first | (rw [add_block]; exact hn350_2) | (show (Addr.add _ _).block ≠ _; rw [add_block]; exact hn350_2) | exact hn350_2) (.int .i64 t346)).trans hx350_2
                            replace hx350_0 := (cell_far (p := ⟨gb342, 3, none⟩) (by first | (rw [add_block]; exact hn350_3) | (show (Addr.add _ _).block ≠ _; rw [add_block]; exact hn350_3) | exact hn350_3) (.bool t347)).trans hx350_0
                            replace hx350_1 := (cell_far (p := ⟨gb342, 3, none⟩) (by first | (rw [add_block]; exact hn350_3) | (show (Addr.add _ _).block ≠ _; rw [add_block]; exact hn350_3) | exact hn350_3) (.bool t347)).trans hx350_1
                            replace hx350_2 := (cell_far (p := ⟨gb342, 3, none⟩) (by first | (rw [add_block]; exact hn350_3) | (show (Addr.add _ _).block ≠ _; rw [add_block]; exact hn350_3) | exact hn350_3) (.bool t347)).trans hx350_2
                            clear hn350_0
                            clear hn350_1
                            clear hn350_2
                            clear hn350_3
                            replace p350 := eq_true p350
                            replace q350 := eq_true q350
                            have hcz55_0 : w50.cell? ⟨gb342, 0, none⟩ = some (.bool x343000_1) := (blk_cell BK342.out 0).trans rfl
                            have hcz55_1 : w50.cell? ⟨gb342, 1, none⟩ = some (.bool x343001_1) := (blk_cell BK342.out 1).trans rfl
                            have hcz55_2 : w50.cell? ⟨gb342, 2, none⟩ = some (.int .i64 x343002_1) := (blk_cell BK342.out 2).trans rfl
                            have hcz55_3 : w50.cell? ⟨gb342, 3, none⟩ = some (.bool x343003_1) := (blk_cell BK342.out 3).trans rfl
                            have hfz55_0 := blk_frozen BK342.out 0
                            have hfz55_1 := blk_frozen BK342.out 1
                            have hfz55_2 := blk_frozen BK342.out 2
                            have hfz55_3 := blk_frozen BK342.out 3
                            try go_wp2
                            go_roundg kj5
                            case measure => have := HK1.out; have := HJ5.out; omega
                            case rel => exact ⟨(0), (false), ((rd_T47 l0 x9_1).f1), ((rd_T47 l0 x9_1).f2), (wrap64 (x9_1 + 1)), (t344), (t345), (t346), (t347), (by first | rfl | (simp; done) | (simp [*]; done)), (by first | rfl | (simp; done) | (simp [*]; done)), (by first | rfl | (simp; done) | (simp [*]; done)), (by first | rfl | (simp; done) | (simp [*]; done)), (by first | rfl | (simp; done) | (simp [*]; done)), H', ⟨by have := HK1.out; have := HJ5.out; omega⟩, ⟨by (with_reducible repeat (first | refine blk_drewN ?_ _ | refine blk_drew ?_ | refine blk_alloc ?_ _)); refine blk_put (cs := #[.bool t344, .bool t345, .int .i64 t346, .bool x343003_1]) ?_ 3 _ rfl; (with_reducible repeat (first | refine blk_drewN ?_ _ | refine blk_drew ?_ | refine blk_alloc ?_ _)); refine blk_put (cs := #[.bool t344, .bool t345, .int .i64 x343002_1, .bool x343003_1]) ?_ 2 _ rfl; (with_reducible repeat (first | refine blk_drewN ?_ _ | refine blk_drew ?_ | refine blk_alloc ?_ _)); refine blk_put (cs := #[.bool t344, .bool x343001_1, .int .i64 x343002_1, .bool x343003_1]) ?_ 1 _ rfl; (with_reducible repeat (first | refine blk_drewN ?_ _ | refine blk_drew ?_ | refine blk_alloc ?_ _)); refine blk_put (cs := #[.bool x343000_1, .bool x343001_1, .int .i64 x343002_1, .bool x343003_1]) ?_ 0 _ rfl; (with_reducible repeat (first | refine blk_drewN ?_ _ | refine blk_drew ?_ | refine blk_alloc ?_ _)); exact BK342.out⟩, ⟨by repeat (first | (with_reducible first | exact HB.out | apply below_alloc | apply pw_below_drewN | apply below_drew1 | refine below_set ?_ GE342.out) | exact HB.out)⟩⟩
                  · rw [if_neg c34] at H
                    have c34b0 : (((rd_T47 l0 x9_1).f1) == ((rd_T47 l0 x9_1).f2)) = false := by simpa using c34
                    (try (have c34b1 : decide (((rd_T47 l0 x9_1).f1) = ((rd_T47 l0 x9_1).f2)) = false := by simpa using c34))
                    (try (have c34b2 : (((rd_T47 l0 x9_1).f1) == ((rd_T47 l0 x9_1).f2)) = false := by simpa using c34))
                    (try (have c34b3 : ¬ (((rd_T47 l0 x9_1).f1) = ((rd_T47 l0 x9_1).f2)) := by simpa using c34))
                    clear c34
                    by_cases c56 : x6_1 = true
                    · subst c56
                      have H1 : (if (t347 != true) = true then (some false) else (if (t344 != ((rd_T47 l0 x9_1).f1)) = true then (some false) else (if (t345 != ((rd_T47 l0 x9_1).f2)) = true then (some false) else (ambidexterlaw26_DualchannelBad.l0 kj5 l0 true (wrap64 (x5_1 + 1)) true ((rd_T47 l0 x9_1).f1) ((rd_T47 l0 x9_1).f2) (wrap64 (x9_1 + 1)) t344 t345 t346 t347)))) = some r := by rw [if_pos rfl] at H; exact H
                      clear H
                      have H := H1
                      clear H1
                      by_cases c57 : (t347 != true) = true
                      · rw [if_pos c57] at H
                        have c57b0 : (t347 != true) = true := c57
                        (try (have c57b1 : decide (t347 = true) = false := by simpa using c57))
                        (try (have c57b2 : (t347 == true) = false := by simpa using c57))
                        (try (have c57b3 : ¬ (t347 = true) := by simpa using c57))
                        clear c57
                        exact absurd HT.out (by rw [← Option.some.inj H]; decide)
                      · rw [if_neg c57] at H
                        have c57b0 : (t347 != true) = false := by simpa using c57
                        (try (have c57b1 : decide (t347 = true) = true := by simpa using c57))
                        (try (have c57b2 : (t347 == true) = true := by simpa using c57))
                        clear c57
                        by_cases c58 : (t344 != ((rd_T47 l0 x9_1).f1)) = true
                        · rw [if_pos c58] at H
                          have c58b0 : (t344 != ((rd_T47 l0 x9_1).f1)) = true := c58
                          (try (have c58b1 : decide (t344 = ((rd_T47 l0 x9_1).f1)) = false := by simpa using c58))
                          (try (have c58b2 : (t344 == ((rd_T47 l0 x9_1).f1)) = false := by simpa using c58))
                          (try (have c58b3 : ¬ (t344 = ((rd_T47 l0 x9_1).f1)) := by simpa using c58))
                          clear c58
                          exact absurd HT.out (by rw [← Option.some.inj H]; decide)
                        · rw [if_neg c58] at H
                          have c58b0 : (t344 != ((rd_T47 l0 x9_1).f1)) = false := by simpa using c58
                          (try (have c58b1 : decide (t344 = ((rd_T47 l0 x9_1).f1)) = true := by simpa using c58))
                          (try (have c58b2 : (t344 == ((rd_T47 l0 x9_1).f1)) = true := by simpa using c58))
                          clear c58
                          by_cases c59 : (t345 != ((rd_T47 l0 x9_1).f2)) = true
                          · rw [if_pos c59] at H
                            have c59b0 : (t345 != ((rd_T47 l0 x9_1).f2)) = true := c59
                            (try (have c59b1 : decide (t345 = ((rd_T47 l0 x9_1).f2)) = false := by simpa using c59))
                            (try (have c59b2 : (t345 == ((rd_T47 l0 x9_1).f2)) = false := by simpa using c59))
                            (try (have c59b3 : ¬ (t345 = ((rd_T47 l0 x9_1).f2)) := by simpa using c59))
                            clear c59
                            exact absurd HT.out (by rw [← Option.some.inj H]; decide)
                          · rw [if_neg c59] at H
                            have c59b0 : (t345 != ((rd_T47 l0 x9_1).f2)) = false := by simpa using c59
                            (try (have c59b1 : decide (t345 = ((rd_T47 l0 x9_1).f2)) = true := by simpa using c59))
                            (try (have c59b2 : (t345 == ((rd_T47 l0 x9_1).f2)) = true := by simpa using c59))
                            clear c59
                            have H' := Aside0.mk H
                            clear H
                            try go_wp2
                            have n0_ := Aside0.mk (blk_drew BK342.out)
                            have n1_ := Aside0.mk (below_drew1 HB.out)
                            clear BK342
                            clear HB
                            have BK342 := n0_
                            have HB := n1_
                            clear n0_ n1_
                            have p343 : 0 ≤ (x9_1 : Int) := of_decide_eq_true (by first | (with_reducible assumption) | assumption)
                            have q343 : x9_1 < (l0.length : Int) := of_decide_eq_true (by first | (with_reducible assumption) | assumption)
                            obtain ⟨ad343, e343, hx343_0, hx343_1, hx343_2⟩ := at_T47 HR0.out x9_1 p343 q343
                            have hw343_2 := hx343_2
                            have hw343_1 := hx343_1
                            have hw343_0 := hx343_0
                            cases e343
                            replace hx343_0 := (HB.out.cell (World.block_lt_of_cell? w _ hx343_0)).trans hx343_0
                            replace hx343_1 := (HB.out.cell (World.block_lt_of_cell? w _ hx343_1)).trans hx343_1
                            replace hx343_2 := (HB.out.cell (World.block_lt_of_cell? w _ hx343_2)).trans hx343_2
                            replace p343 := eq_true p343
                            replace q343 := eq_true q343
                            refine start_ (n := 7) (S := fun w' => w'.cell? ⟨gb342, 0, none⟩ = some (.bool x343000_1) ∧ w'.cell? ⟨gb342, 1, none⟩ = some (.bool x343001_1) ∧ w'.cell? ⟨gb342, 2, none⟩ = some (.int .i64 x343002_1) ∧ w'.cell? ⟨gb342, 3, none⟩ = some (.bool x343003_1) ∧ w'.cell? (ad343.add ((x9_1).toNat * 3)) = some (.int .u8 ((rd_T47 l0 x9_1).f0)) ∧ w'.cell? ⟨(ad343.add ((x9_1).toNat * 3)).block, (ad343.add ((x9_1).toNat * 3)).off + 1, none⟩ = some (.bool ((rd_T47 l0 x9_1).f1)) ∧ w'.cell? ⟨(ad343.add ((x9_1).toNat * 3)).block, (ad343.add ((x9_1).toNat * 3)).off + 2, none⟩ = some (.bool ((rd_T47 l0 x9_1).f2))) (ds := [6]) #[false, false, false, false, false, false, false] (by kernel_rfl) rfl rfl ⟨(blk_cell BK342.out 0).trans rfl, (blk_cell BK342.out 1).trans rfl, (blk_cell BK342.out 2).trans rfl, (blk_cell BK342.out 3).trans rfl, ((HB.out.cell (World.block_lt_of_cell? w _ hw343_0)).trans hw343_0), ((HB.out.cell (World.block_lt_of_cell? w _ hw343_1)).trans hw343_1), ((HB.out.cell (World.block_lt_of_cell? w _ hw343_2)).trans hw343_2)⟩ (fun hHeld => ?_)
                            generalize wc.drew = w60 at BK342 HB hx343_0 hx343_1 hx343_2 hHeld ⊢
                            refine pure_ (i := 1) (N := some 23) (v := ?_) (a' := ?_) #[false, true, false, false, false, false, false] rfl rfl (by kernel_rfl) (fun _ _ _ h => h) (Or.inl ⟨by rfl, ?_⟩) ?_ ?_
                            rotate_left
                            · intro w'
                              go_simp
                              with_reducible rfl
                            rotate_left
                            · simp only [Act.put, List.setIfInBounds_toArray, List.set_cons_zero, List.set_cons_succ, i64_w, i32_w]
                              rfl
                            refine pure_ (i := 2) (N := some 24) (v := ?_) (a' := ?_) #[false, true, true, false, false, false, false] rfl rfl (by kernel_rfl) (fun _ _ _ h => h) (Or.inl ⟨by rfl, ?_⟩) ?_ ?_
                            rotate_left
                            · intro w'
                              go_simp
                              with_reducible rfl
                            rotate_left
                            · simp only [Act.put, List.setIfInBounds_toArray, List.set_cons_zero, List.set_cons_succ, i64_w, i32_w]
                              rfl
                            refine pure_ (i := 3) (N := some 25) (v := ?_) (a' := ?_) #[false, true, true, true, false, false, false] rfl rfl (by kernel_rfl) (fun _ _ _ h => h) (Or.inl ⟨by rfl, ?_⟩) ?_ ?_
                            rotate_left
                            · intro w'
                              go_simp
                              with_reducible rfl
                            rotate_left
                            · simp only [Act.put, List.setIfInBounds_toArray, List.set_cons_zero, List.set_cons_succ, i64_w, i32_w]
                              rfl
                            refine take_ (i := 0) (N := some 22) (v := ?_) (a' := ?_) #[true, true, true, true, false, false, false] rfl rfl (by kernel_rfl) (fun _ _ _ h => h) (Or.inl ⟨by rfl, ?_⟩) hHeld ?_ ?_
                            rotate_left
                            · rintro w' ⟨s0, s1, s2, s3, s4, s5, s6⟩
                              go_simp
                              with_reducible rfl
                            rotate_left
                            · simp only [Act.put, List.setIfInBounds_toArray, List.set_cons_zero, List.set_cons_succ, i64_w, i32_w]
                              rfl
                            refine take_ (i := 4) (N := some 26) (v := ?_) (a' := ?_) #[true, true, true, true, true, false, false] rfl rfl (by kernel_rfl) (fun _ _ _ h => h) (Or.inl ⟨by rfl, ?_⟩) hHeld ?_ ?_
                            rotate_left
                            · rintro w' ⟨s0, s1, s2, s3, s4, s5, s6⟩
                              go_simp
                              with_reducible rfl
                            rotate_left
                            · simp only [Act.put, List.setIfInBounds_toArray, List.set_cons_zero, List.set_cons_succ, i64_w, i32_w]
                              rfl
                            refine one_ (i := 5) (N := some 27) #[true, true, true, true, true, true, false] rfl rfl (by kernel_rfl) (by decide) (fun K hK => ?_)
                            refine goes_ Try.func28 (by kernel_rfl) rfl #[.agg #[.bool x343000_1, .bool x343001_1, .int .i64 x343002_1, .bool x343003_1], .agg #[.int .u8 ((rd_T47 l0 x9_1).f0), .bool ((rd_T47 l0 x9_1).f1), .bool ((rd_T47 l0 x9_1).f2)]] (by rfl) rfl rfl (by (try simp only [List.map_toArray, List.map_cons, List.map_nil]); first | done | rfl | (simp only [List.length_drop, List.length_take]; rfl)) ?_
                            with_reducible refine (ambidexterlaw26_step.calls x343000_1 x343001_1 x343002_1 x343003_1 ((rd_T47 l0 x9_1).f0) ((rd_T47 l0 x9_1).f1) ((rd_T47 l0 x9_1).f2) t344 t345 t346 t347 _ A11.out).mono ?_
                            rintro e w61 ⟨rfl, hb⟩
                            refine ⟨_, rfl, ?_⟩
                            have n0_ := Aside0.mk (blk_below (g := gb342) (o := .cells #[.bool x343000_1, .bool x343001_1, .int .i64 x343002_1, .bool x343003_1] 44 (0, 0)) (by (with_reducible repeat (first | refine blk_drewN ?_ _ | refine blk_drew ?_ | refine blk_alloc ?_ _)); exact BK342.out) hb)
                            have n1_ := Aside0.mk (below_step (by repeat (first | (with_reducible first | exact HB.out | apply below_alloc | apply pw_below_drewN | apply below_drew1 | refine below_set ?_ GE342.out) | exact HB.out)) hb)
                            clear BK342
                            clear HB
                            have BK342 := n0_
                            have HB := n1_
                            clear n0_ n1_
                            (try clear hb)
                            (try clear hb2)
                            (try clear hk)
                            (try clear hi)
                            refine hK.out _ _ ⟨(blk_cell BK342.out 0).trans rfl, (blk_cell BK342.out 1).trans rfl, (blk_cell BK342.out 2).trans rfl, (blk_cell BK342.out 3).trans rfl, ((HB.out.cell (World.block_lt_of_cell? w _ hw343_0)).trans hw343_0), ((HB.out.cell (World.block_lt_of_cell? w _ hw343_1)).trans hw343_1), ((HB.out.cell (World.block_lt_of_cell? w _ hw343_2)).trans hw343_2)⟩ (fun hHeld => ?_)
                            clear hK K
                            refine norm_ (a' := ?_) ?_ ?_
                            rotate_left
                            · show Act.put _ (some 27) _ = _
                              simp only [Act.put, List.setIfInBounds_toArray, List.set_cons_zero, List.set_cons_succ, i64_w, i32_w]
                              rfl
                            refine last_ (i := 6) (N := none) #[true, true, true, true, true, true, true] rfl rfl (by kernel_rfl) (by decide) (fun K hK => ?_)
                            have hs62 : w61.cell? ⟨gb342, 0, none⟩ = some (.bool x343000_1) := (blk_cell BK342.out 0).trans rfl
                            have hfs62 := blk_frozen BK342.out 0
                            have hs63 : w61.cell? ⟨gb342, 1, none⟩ = some (.bool x343001_1) := (blk_cell BK342.out 1).trans rfl
                            have hfs63 := blk_frozen BK342.out 1
                            have hs64 : w61.cell? ⟨gb342, 2, none⟩ = some (.int .i64 x343002_1) := (blk_cell BK342.out 2).trans rfl
                            have hfs64 := blk_frozen BK342.out 2
                            have hs65 : w61.cell? ⟨gb342, 3, none⟩ = some (.bool x343003_1) := (blk_cell BK342.out 3).trans rfl
                            have hfs65 := blk_frozen BK342.out 3
                            refine skip_ (w1 := ?_) (by rfl) rfl ?_ ?_
                            rotate_left
                            · go_simp
                              rfl
                            refine hK.out _ _ ?_
                            clear hK K
                            refine done_ (by kernel_rfl) ?_
                            have p348 : 0 ≤ (x9_1 : Int) := of_decide_eq_true (by first | (with_reducible assumption) | assumption)
                            have q348 : x9_1 < (l0.length : Int) := of_decide_eq_true (by first | (with_reducible assumption) | assumption)
                            obtain ⟨ad348, e348, hx348_0, hx348_1, hx348_2⟩ := at_T47 HR0.out x9_1 p348 q348
                            obtain rfl : ad343 = ad348 := (by injection e348)
                            have hn348_0 : ad343.block ≠ gb342 := Nat.ne_of_lt (Nat.lt_of_lt_of_le (by have := World.block_lt_of_cell? _ _ hx348_0; first | rwa [add_block] at this | exact this) GW342.out)
                            have hn348_1 : ad343.block ≠ gb342 := Nat.ne_of_lt (Nat.lt_of_lt_of_le (by have := World.block_lt_of_cell? _ _ hx348_0; first | rwa [add_block] at this | exact this) GW342.out)
                            have hn348_2 : ad343.block ≠ gb342 := Nat.ne_of_lt (Nat.lt_of_lt_of_le (by have := World.block_lt_of_cell? _ _ hx348_0; first | rwa [add_block] at this | exact this) GW342.out)
                            have hn348_3 : ad343.block ≠ gb342 := Nat.ne_of_lt (Nat.lt_of_lt_of_le (by have := World.block_lt_of_cell? _ _ hx348_0; first | rwa [add_block] at this | exact this) GW342.out)
                            replace hx348_0 := (HB.out.cell (World.block_lt_of_cell? w _ hx348_0)).trans hx348_0
                            replace hx348_1 := (HB.out.cell (World.block_lt_of_cell? w _ hx348_1)).trans hx348_1
                            replace hx348_2 := (HB.out.cell (World.block_lt_of_cell? w _ hx348_2)).trans hx348_2
                            replace hx348_0 := (cell_far (p := ⟨gb342, 0, none⟩) (by first | (rw [add_block]; exact hn348_0) | (show (Addr.add _ _).block ≠ _; rw [add_block]; exact hn348_0) | exact hn348_0) (.bool t344)).trans hx348_0
                            replace hx348_1 := (cell_far (p := ⟨gb342, 0, none⟩) (by first | (rw [add_block]; exact hn348_0) | (show (Addr.add _ _).block ≠ _; rw [add_block]; exact hn348_0) | exact hn348_0) (.bool t344)).trans hx348_1
                            replace hx348_2 := (cell_far (p := ⟨gb342, 0, none⟩) (by first | (rw [add_block]; exact hn348_0) | (show (Addr.add _ _).block ≠ _; rw [add_block]; exact hn348_0) | exact hn348_0) (.bool t344)).trans hx348_2
                            replace hx348_0 := (cell_far (p := ⟨gb342, 1, none⟩) (by first | (rw [add_block]; exact hn348_1) | (show (Addr.add _ _).block ≠ _; rw [add_block]; exact hn348_1) | exact hn348_1) (.bool t345)).trans hx348_0
                            replace hx348_1 := (cell_far (p := ⟨gb342, 1, none⟩) (by first | (rw [add_block]; exact hn348_1) | (show (Addr.add _ _).block ≠ _; rw [add_block]; exact hn348_1) | exact hn348_1) (.bool t345)).trans hx348_1
                            replace hx348_2 := (cell_far (p := ⟨gb342, 1, none⟩) (by first | (rw [add_block]; exact hn348_1) | (show (Addr.add _ _).block ≠ _; rw [add_block]; exact hn348_1) | exact hn348_1) (.bool t345)).trans hx348_2
                            replace hx348_0 := (cell_far (p := ⟨gb342, 2, none⟩) (by first | (rw [add_block]; exact hn348_2) | (show (Addr.add _ _).block ≠ _; rw [add_block]; exact hn348_2) | exact hn348_2) (.int .i64 t346)).trans hx348_0
                            replace hx348_1 := (cell_far (p := ⟨gb342, 2, none⟩) (by first | (rw [add_block]; exact hn348_2) | (show (Addr.add _ _).block ≠ _; rw [add_block]; exact hn348_2) | exact hn348_2) (.int .i64 t346)).trans hx348_1
                            replace hx348_2 := (cell_far (p := ⟨gb342, 2, none⟩) (by first | (rw [add_block]; exact hn348_2) | (show (Addr.add _ _).block ≠ _; rw [add_block]; exact hn348_2) | exact hn348_2) (.int .i64 t346)).trans hx348_2
                            replace hx348_0 := (cell_far (p := ⟨gb342, 3, none⟩) (by first | (rw [add_block]; exact hn348_3) | (show (Addr.add _ _).block ≠ _; rw [add_block]; exact hn348_3) | exact hn348_3) (.bool t347)).trans hx348_0
                            replace hx348_1 := (cell_far (p := ⟨gb342, 3, none⟩) (by first | (rw [add_block]; exact hn348_3) | (show (Addr.add _ _).block ≠ _; rw [add_block]; exact hn348_3) | exact hn348_3) (.bool t347)).trans hx348_1
                            replace hx348_2 := (cell_far (p := ⟨gb342, 3, none⟩) (by first | (rw [add_block]; exact hn348_3) | (show (Addr.add _ _).block ≠ _; rw [add_block]; exact hn348_3) | exact hn348_3) (.bool t347)).trans hx348_2
                            clear hn348_0
                            clear hn348_1
                            clear hn348_2
                            clear hn348_3
                            replace p348 := eq_true p348
                            replace q348 := eq_true q348
                            have p349 : 0 ≤ (x9_1 : Int) := of_decide_eq_true (by first | (with_reducible assumption) | assumption)
                            have q349 : x9_1 < (l0.length : Int) := of_decide_eq_true (by first | (with_reducible assumption) | assumption)
                            obtain ⟨ad349, e349, hx349_0, hx349_1, hx349_2⟩ := at_T47 HR0.out x9_1 p349 q349
                            obtain rfl : ad343 = ad349 := (by injection e349)
                            have hn349_0 : ad343.block ≠ gb342 := Nat.ne_of_lt (Nat.lt_of_lt_of_le (by have := World.block_lt_of_cell? _ _ hx349_0; first | rwa [add_block] at this | exact this) GW342.out)
                            have hn349_1 : ad343.block ≠ gb342 := Nat.ne_of_lt (Nat.lt_of_lt_of_le (by have := World.block_lt_of_cell? _ _ hx349_0; first | rwa [add_block] at this | exact this) GW342.out)
                            have hn349_2 : ad343.block ≠ gb342 := Nat.ne_of_lt (Nat.lt_of_lt_of_le (by have := World.block_lt_of_cell? _ _ hx349_0; first | rwa [add_block] at this | exact this) GW342.out)
                            have hn349_3 : ad343.block ≠ gb342 := Nat.ne_of_lt (Nat.lt_of_lt_of_le (by have := World.block_lt_of_cell? _ _ hx349_0; first | rwa [add_block] at this | exact this) GW342.out)
                            replace hx349_0 := (HB.out.cell (World.block_lt_of_cell? w _ hx349_0)).trans hx349_0
                            replace hx349_1 := (HB.out.cell (World.block_lt_of_cell? w _ hx349_1)).trans hx349_1
                            replace hx349_2 := (HB.out.cell (World.block_lt_of_cell? w _ hx349_2)).trans hx349_2
                            replace hx349_0 := (cell_far (p := ⟨gb342, 0, none⟩) (by first | (rw [add_block]; exact hn349_0) | (show (Addr.add _ _).block ≠ _; rw [add_block]; exact hn349_0) | exact hn349_0) (.bool t344)).trans hx349_0
                            replace hx349_1 := (cell_far (p := ⟨gb342, 0, none⟩) (by first | (rw [add_block]; exact hn349_0) | (show (Addr.add _ _).block ≠ _; rw [add_block]; exact hn349_0) | exact hn349_0) (.bool t344)).trans hx349_1
                            replace hx349_2 := (cell_far (p := ⟨gb342, 0, none⟩) (by first | (rw [add_block]; exact hn349_0) | (show (Addr.add _ _).block ≠ _; rw [add_block]; exact hn349_0) | exact hn349_0) (.bool t344)).trans hx349_2
                            replace hx349_0 := (cell_far (p := ⟨gb342, 1, none⟩) (by first | (rw [add_block]; exact hn349_1) | (show (Addr.add _ _).block ≠ _; rw [add_block]; exact hn349_1) | exact hn349_1) (.bool t345)).trans hx349_0
                            replace hx349_1 := (cell_far (p := ⟨gb342, 1, none⟩) (by first | (rw [add_block]; exact hn349_1) | (show (Addr.add _ _).block ≠ _; rw [add_block]; exact hn349_1) | exact hn349_1) (.bool t345)).trans hx349_1
                            replace hx349_2 := (cell_far (p := ⟨gb342, 1, none⟩) (by first | (rw [add_block]; exact hn349_1) | (show (Addr.add _ _).block ≠ _; rw [add_block]; exact hn349_1) | exact hn349_1) (.bool t345)).trans hx349_2
                            replace hx349_0 := (cell_far (p := ⟨gb342, 2, none⟩) (by first | (rw [add_block]; exact hn349_2) | (show (Addr.add _ _).block ≠ _; rw [add_block]; exact hn349_2) | exact hn349_2) (.int .i64 t346)).trans hx349_0
                            replace hx349_1 := (cell_far (p := ⟨gb342, 2, none⟩) (by first | (rw [add_block]; exact hn349_2) | (show (Addr.add _ _).block ≠ _; rw [add_block]; exact hn349_2) | exact hn349_2) (.int .i64 t346)).trans hx349_1
                            replace hx349_2 := (cell_far (p := ⟨gb342, 2, none⟩) (by first | (rw [add_block]; exact hn349_2) | (show (Addr.add _ _).block ≠ _; rw [add_block]; exact hn349_2) | exact hn349_2) (.int .i64 t346)).trans hx349_2
                            replace hx349_0 := (cell_far (p := ⟨gb342, 3, none⟩) (by first | (rw [add_block]; exact hn349_3) | (show (Addr.add _ _).block ≠ _; rw [add_block]; exact hn349_3) | exact hn349_3) (.bool t347)).trans hx349_0
                            replace hx349_1 := (cell_far (p := ⟨gb342, 3, none⟩) (by first | (rw [add_block]; exact hn349_3) | (show (Addr.add _ _).block ≠ _; rw [add_block]; exact hn349_3) | exact hn349_3) (.bool t347)).trans hx349_1
                            replace hx349_2 := (cell_far (p := ⟨gb342, 3, none⟩) (by first | (rw [add_block]; exact hn349_3) | (show (Addr.add _ _).block ≠ _; rw [add_block]; exact hn349_3) | exact hn349_3) (.bool t347)).trans hx349_2
                            clear hn349_0
                            clear hn349_1
                            clear hn349_2
                            clear hn349_3
                            replace p349 := eq_true p349
                            replace q349 := eq_true q349
                            have p350 : 0 ≤ (x9_1 : Int) := of_decide_eq_true (by first | (with_reducible assumption) | assumption)
                            have q350 : x9_1 < (l0.length : Int) := of_decide_eq_true (by first | (with_reducible assumption) | assumption)
                            obtain ⟨ad350, e350, hx350_0, hx350_1, hx350_2⟩ := at_T47 HR0.out x9_1 p350 q350
                            obtain rfl : ad343 = ad350 := (by injection e350)
                            have hn350_0 : ad343.block ≠ gb342 := Nat.ne_of_lt (Nat.lt_of_lt_of_le (by have := World.block_lt_of_cell? _ _ hx350_0; first | rwa [add_block] at this | exact this) GW342.out)
                            have hn350_1 : ad343.block ≠ gb342 := Nat.ne_of_lt (Nat.lt_of_lt_of_le (by have := World.block_lt_of_cell? _ _ hx350_0; first | rwa [add_block] at this | exact this) GW342.out)
                            have hn350_2 : ad343.block ≠ gb342 := Nat.ne_of_lt (Nat.lt_of_lt_of_le (by have := World.block_lt_of_cell? _ _ hx350_0; first | rwa [add_block] at this | exact this) GW342.out)
                            have hn350_3 : ad343.block ≠ gb342 := Nat.ne_of_lt (Nat.lt_of_lt_of_le (by have := World.block_lt_of_cell? _ _ hx350_0; first | rwa [add_block] at this | exact this) GW342.out)
                            replace hx350_0 := (HB.out.cell (World.block_lt_of_cell? w _ hx350_0)).trans hx350_0
                            replace hx350_1 := (HB.out.cell (World.block_lt_of_cell? w _ hx350_1)).trans hx350_1
                            replace hx350_2 := (HB.out.cell (World.block_lt_of_cell? w _ hx350_2)).trans hx350_2
                            replace hx350_0 := (cell_far (p := ⟨gb342, 0, none⟩) (by first | (rw [add_block]; exact hn350_0) | (show (Addr.add _ _).block ≠ _; rw [add_block]; exact hn350_0) | exact hn350_0) (.bool t344)).trans hx350_0
                            replace hx350_1 := (cell_far (p := ⟨gb342, 0, none⟩) (by first | (rw [add_block]; exact hn350_0) | (show (Addr.add _ _).block ≠ _; rw [add_block]; exact hn350_0) | exact hn350_0) (.bool t344)).trans hx350_1
                            replace hx350_2 := (cell_far (p := ⟨gb342, 0, none⟩) (by first | (rw [add_block]; exact hn350_0) | (show (Addr.add _ _).block ≠ _; rw [add_block]; exact hn350_0) | exact hn350_0) (.bool t344)).trans hx350_2
                            replace hx350_0 := (cell_far (p := ⟨gb342, 1, none⟩) (by first | (rw [add_block]; exact hn350_1) | (show (Addr.add _ _).block ≠ _; rw [add_block]; exact hn350_1) | exact hn350_1) (.bool t345)).trans hx350_0
                            replace hx350_1 := (cell_far (p := ⟨gb342, 1, none⟩) (by first | (rw [add_block]; exact hn350_1) | (show (Addr.add _ _).block ≠ _; rw [add_block]; exact hn350_1) | exact hn350_1) (.bool t345)).trans hx350_1
                            replace hx350_2 := (cell_far (p := ⟨gb342, 1, none⟩) (by first | (rw [add_block]; exact hn350_1) | (show (Addr.add _ _).block ≠ _; rw [add_block]; exact hn350_1) | exact hn350_1) (.bool t345)).trans hx350_2
                            replace hx350_0 := (cell_far (p := ⟨gb342, 2, none⟩) (by first | (rw [add_block]; exact hn350_2) | (show (Addr.add _ _).block ≠ _; rw [add_block]; exact hn350_2) | exact hn350_2) (.int .i64 t346)).trans hx350_0
                            replace hx350_1 := (cell_far (p := ⟨gb342, 2, none⟩) (by first | (rw [add_block]; exact hn350_2) | (show (Addr.add _ _).block ≠ _; rw [add_block]; exact hn350_2) | exact hn350_2) (.int .i64 t346)).trans hx350_1
                            replace hx350_2 := (cell_far (p := ⟨gb342, 2, none⟩) (by first | (rw [add_block]; exact hn350_2) | (show (Addr.add _ _).block ≠ _; rw [add_block]; exact hn350_2) | exact hn350_2) (.int .i64 t346)).trans hx350_2
                            replace hx350_0 := (cell_far (p := ⟨gb342, 3, none⟩) (by first | (rw [add_block]; exact hn350_3) | (show (Addr.add _ _).block ≠ _; rw [add_block]; exact hn350_3) | exact hn350_3) (.bool t347)).trans hx350_0
                            replace hx350_1 := (cell_far (p := ⟨gb342, 3, none⟩) (by first | (rw [add_block]; exact hn350_3) | (show (Addr.add _ _).block ≠ _; rw [add_block]; exact hn350_3) | exact hn350_3) (.bool t347)).trans hx350_1
                            replace hx350_2 := (cell_far (p := ⟨gb342, 3, none⟩) (by first | (rw [add_block]; exact hn350_3) | (show (Addr.add _ _).block ≠ _; rw [add_block]; exact hn350_3) | exact hn350_3) (.bool t347)).trans hx350_2
                            clear hn350_0
                            clear hn350_1
                            clear hn350_2
                            clear hn350_3
                            replace p350 := eq_true p350
                            replace q350 := eq_true q350
                            have hcz66_0 : w61.cell? ⟨gb342, 0, none⟩ = some (.bool x343000_1) := (blk_cell BK342.out 0).trans rfl
                            have hcz66_1 : w61.cell? ⟨gb342, 1, none⟩ = some (.bool x343001_1) := (blk_cell BK342.out 1).trans rfl
                            have hcz66_2 : w61.cell? ⟨gb342, 2, none⟩ = some (.int .i64 x343002_1) := (blk_cell BK342.out 2).trans rfl
                            have hcz66_3 : w61.cell? ⟨gb342, 3, none⟩ = some (.bool x343003_1) := (blk_cell BK342.out 3).trans rfl
                            have hfz66_0 := blk_frozen BK342.out 0
                            have hfz66_1 := blk_frozen BK342.out 1
                            have hfz66_2 := blk_frozen BK342.out 2
                            have hfz66_3 := blk_frozen BK342.out 3
                            try go_wp2
                            go_roundg kj5
                            case measure => have := HK1.out; have := HJ5.out; omega
                            case rel => exact ⟨(wrap64 (x5_1 + 1)), (true), ((rd_T47 l0 x9_1).f1), ((rd_T47 l0 x9_1).f2), (wrap64 (x9_1 + 1)), (t344), (t345), (t346), (t347), (by first | rfl | (simp; done) | (simp [*]; done)), (by first | rfl | (simp; done) | (simp [*]; done)), (by first | rfl | (simp; done) | (simp [*]; done)), (by first | rfl | (simp; done) | (simp [*]; done)), (by first | rfl | (simp; done) | (simp [*]; done)), H', ⟨by have := HK1.out; have := HJ5.out; omega⟩, ⟨by (with_reducible repeat (first | refine blk_drewN ?_ _ | refine blk_drew ?_ | refine blk_alloc ?_ _)); refine blk_put (cs := #[.bool t344, .bool t345, .int .i64 t346, .bool x343003_1]) ?_ 3 _ rfl; (with_reducible repeat (first | refine blk_drewN ?_ _ | refine blk_drew ?_ | refine blk_alloc ?_ _)); refine blk_put (cs := #[.bool t344, .bool t345, .int .i64 x343002_1, .bool x343003_1]) ?_ 2 _ rfl; (with_reducible repeat (first | refine blk_drewN ?_ _ | refine blk_drew ?_ | refine blk_alloc ?_ _)); refine blk_put (cs := #[.bool t344, .bool x343001_1, .int .i64 x343002_1, .bool x343003_1]) ?_ 1 _ rfl; (with_reducible repeat (first | refine blk_drewN ?_ _ | refine blk_drew ?_ | refine blk_alloc ?_ _)); refine blk_put (cs := #[.bool x343000_1, .bool x343001_1, .int .i64 x343002_1, .bool x343003_1]) ?_ 0 _ rfl; (with_reducible repeat (first | refine blk_drewN ?_ _ | refine blk_drew ?_ | refine blk_alloc ?_ _)); exact BK342.out⟩, ⟨by repeat (first | (with_reducible first | exact HB.out | apply below_alloc | apply pw_below_drewN | apply below_drew1 | refine below_set ?_ GE342.out) | exact HB.out)⟩⟩
                    · replace c56 := Bool.eq_false_iff.mpr c56
                      subst c56
                      have H1 : (if (t347 != (decide ((wrap64 (x5_1 + 1)) ≥ 4))) = true then (some false) else (if (t344 != ((rd_T47 l0 x9_1).f1)) = true then (some false) else (if (t345 != ((rd_T47 l0 x9_1).f2)) = true then (some false) else (ambidexterlaw26_DualchannelBad.l0 kj5 l0 true (wrap64 (x5_1 + 1)) (decide ((wrap64 (x5_1 + 1)) ≥ 4)) ((rd_T47 l0 x9_1).f1) ((rd_T47 l0 x9_1).f2) (wrap64 (x9_1 + 1)) t344 t345 t346 t347)))) = some r := by rw [if_neg (show ¬ (false = true) by decide)] at H; exact H
                      clear H
                      have H := H1
                      clear H1
                      by_cases c67 : (t347 != (decide ((wrap64 (x5_1 + 1)) ≥ 4))) = true
                      · rw [if_pos c67] at H
                        have c67b0 : (t347 != (decide ((wrap64 (x5_1 + 1)) ≥ 4))) = true := c67
                        (try (have c67b1 : decide (t347 = (decide ((wrap64 (x5_1 + 1)) ≥ 4))) = false := by simpa using c67))
                        (try (have c67b2 : (t347 == (decide ((wrap64 (x5_1 + 1)) ≥ 4))) = false := by simpa using c67))
                        (try (have c67b3 : ¬ (t347 = (decide ((wrap64 (x5_1 + 1)) ≥ 4))) := by simpa using c67))
                        clear c67
                        exact absurd HT.out (by rw [← Option.some.inj H]; decide)
                      · rw [if_neg c67] at H
                        have c67b0 : (t347 != (decide ((wrap64 (x5_1 + 1)) ≥ 4))) = false := by simpa using c67
                        (try (have c67b1 : decide (t347 = (decide ((wrap64 (x5_1 + 1)) ≥ 4))) = true := by simpa using c67))
                        (try (have c67b2 : (t347 == (decide ((wrap64 (x5_1 + 1)) ≥ 4))) = true := by simpa using c67))
                        clear c67
                        by_cases c68 : (t344 != ((rd_T47 l0 x9_1).f1)) = true
                        · rw [if_pos c68] at H
                          have c68b0 : (t344 != ((rd_T47 l0 x9_1).f1)) = true := c68
                          (try (have c68b1 : decide (t344 = ((rd_T47 l0 x9_1).f1)) = false := by simpa using c68))
                          (try (have c68b2 : (t344 == ((rd_T47 l0 x9_1).f1)) = false := by simpa using c68))
                          (try (have c68b3 : ¬ (t344 = ((rd_T47 l0 x9_1).f1)) := by simpa using c68))
                          clear c68
                          exact absurd HT.out (by rw [← Option.some.inj H]; decide)
                        · rw [if_neg c68] at H
                          have c68b0 : (t344 != ((rd_T47 l0 x9_1).f1)) = false := by simpa using c68
                          (try (have c68b1 : decide (t344 = ((rd_T47 l0 x9_1).f1)) = true := by simpa using c68))
                          (try (have c68b2 : (t344 == ((rd_T47 l0 x9_1).f1)) = true := by simpa using c68))
                          clear c68
                          by_cases c69 : (t345 != ((rd_T47 l0 x9_1).f2)) = true
                          · rw [if_pos c69] at H
                            have c69b0 : (t345 != ((rd_T47 l0 x9_1).f2)) = true := c69
                            (try (have c69b1 : decide (t345 = ((rd_T47 l0 x9_1).f2)) = false := by simpa using c69))
                            (try (have c69b2 : (t345 == ((rd_T47 l0 x9_1).f2)) = false := by simpa using c69))
                            (try (have c69b3 : ¬ (t345 = ((rd_T47 l0 x9_1).f2)) := by simpa using c69))
                            clear c69
                            exact absurd HT.out (by rw [← Option.some.inj H]; decide)
                          · rw [if_neg c69] at H
                            have c69b0 : (t345 != ((rd_T47 l0 x9_1).f2)) = false := by simpa using c69
                            (try (have c69b1 : decide (t345 = ((rd_T47 l0 x9_1).f2)) = true := by simpa using c69))
                            (try (have c69b2 : (t345 == ((rd_T47 l0 x9_1).f2)) = true := by simpa using c69))
                            clear c69
                            have H' := Aside0.mk H
                            clear H
                            try go_wp2
                            have n0_ := Aside0.mk (blk_drew BK342.out)
                            have n1_ := Aside0.mk (below_drew1 HB.out)
                            clear BK342
                            clear HB
                            have BK342 := n0_
                            have HB := n1_
                            clear n0_ n1_
                            have p343 : 0 ≤ (x9_1 : Int) := of_decide_eq_true (by first | (with_reducible assumption) | assumption)
                            have q343 : x9_1 < (l0.length : Int) := of_decide_eq_true (by first | (with_reducible assumption) | assumption)
                            obtain ⟨ad343, e343, hx343_0, hx343_1, hx343_2⟩ := at_T47 HR0.out x9_1 p343 q343
                            have hw343_2 := hx343_2
                            have hw343_1 := hx343_1
                            have hw343_0 := hx343_0
                            cases e343
                            replace hx343_0 := (HB.out.cell (World.block_lt_of_cell? w _ hx343_0)).trans hx343_0
                            replace hx343_1 := (HB.out.cell (World.block_lt_of_cell? w _ hx343_1)).trans hx343_1
                            replace hx343_2 := (HB.out.cell (World.block_lt_of_cell? w _ hx343_2)).trans hx343_2
                            replace p343 := eq_true p343
                            replace q343 := eq_true q343
                            refine start_ (n := 7) (S := fun w' => w'.cell? ⟨gb342, 0, none⟩ = some (.bool x343000_1) ∧ w'.cell? ⟨gb342, 1, none⟩ = some (.bool x343001_1) ∧ w'.cell? ⟨gb342, 2, none⟩ = some (.int .i64 x343002_1) ∧ w'.cell? ⟨gb342, 3, none⟩ = some (.bool x343003_1) ∧ w'.cell? (ad343.add ((x9_1).toNat * 3)) = some (.int .u8 ((rd_T47 l0 x9_1).f0)) ∧ w'.cell? ⟨(ad343.add ((x9_1).toNat * 3)).block, (ad343.add ((x9_1).toNat * 3)).off + 1, none⟩ = some (.bool ((rd_T47 l0 x9_1).f1)) ∧ w'.cell? ⟨(ad343.add ((x9_1).toNat * 3)).block, (ad343.add ((x9_1).toNat * 3)).off + 2, none⟩ = some (.bool ((rd_T47 l0 x9_1).f2))) (ds := [6]) #[false, false, false, false, false, false, false] (by kernel_rfl) rfl rfl ⟨(blk_cell BK342.out 0).trans rfl, (blk_cell BK342.out 1).trans rfl, (blk_cell BK342.out 2).trans rfl, (blk_cell BK342.out 3).trans rfl, ((HB.out.cell (World.block_lt_of_cell? w _ hw343_0)).trans hw343_0), ((HB.out.cell (World.block_lt_of_cell? w _ hw343_1)).trans hw343_1), ((HB.out.cell (World.block_lt_of_cell? w _ hw343_2)).trans hw343_2)⟩ (fun hHeld => ?_)
                            generalize wc.drew = w70 at BK342 HB hx343_0 hx343_1 hx343_2 hHeld ⊢
                            refine pure_ (i := 1) (N := some 23) (v := ?_) (a' := ?_) #[false, true, false, false, false, false, false] rfl rfl (by kernel_rfl) (fun _ _ _ h => h) (Or.inl ⟨by rfl, ?_⟩) ?_ ?_
                            rotate_left
                            · intro w'
                              go_simp
                              with_reducible rfl
                            rotate_left
                            · simp only [Act.put, List.setIfInBounds_toArray, List.set_cons_zero, List.set_cons_succ, i64_w, i32_w]
                              rfl
                            refine pure_ (i := 2) (N := some 24) (v := ?_) (a' := ?_) #[false, true, true, false, false, false, false] rfl rfl (by kernel_rfl) (fun _ _ _ h => h) (Or.inl ⟨by rfl, ?_⟩) ?_ ?_
                            rotate_left
                            · intro w'
                              go_simp
                              with_reducible rfl
                            rotate_left
                            · simp only [Act.put, List.setIfInBounds_toArray, List.set_cons_zero, List.set_cons_succ, i64_w, i32_w]
                              rfl
                            refine pure_ (i := 3) (N := some 25) (v := ?_) (a' := ?_) #[false, true, true, true, false, false, false] rfl rfl (by kernel_rfl) (fun _ _ _ h => h) (Or.inl ⟨by rfl, ?_⟩) ?_ ?_
                            rotate_left
                            · intro w'
                              go_simp
                              with_reducible rfl
                            rotate_left
                            · simp only [Act.put, List.setIfInBounds_toArray, List.set_cons_zero, List.set_cons_succ, i64_w, i32_w]
                              rfl
                            refine take_ (i := 0) (N := some 22) (v := ?_) (a' := ?_) #[true, true, true, true, false, false, false] rfl rfl (by kernel_rfl) (fun _ _ _ h => h) (Or.inl ⟨by rfl, ?_⟩) hHeld ?_ ?_
                            rotate_left
                            · rintro w' ⟨s0, s1, s2, s3, s4, s5, s6⟩
                              go_simp
                              with_reducible rfl
                            rotate_left
                            · simp only [Act.put, List.setIfInBounds_toArray, List.set_cons_zero, List.set_cons_succ, i64_w, i32_w]
                              rfl
                            refine take_ (i := 4) (N := some 26) (v := ?_) (a' := ?_) #[true, true, true, true, true, false, false] rfl rfl (by kernel_rfl) (fun _ _ _ h => h) (Or.inl ⟨by rfl, ?_⟩) hHeld ?_ ?_
                            rotate_left
                            · rintro w' ⟨s0, s1, s2, s3, s4, s5, s6⟩
                              go_simp
                              with_reducible rfl
                            rotate_left
                            · simp only [Act.put, List.setIfInBounds_toArray, List.set_cons_zero, List.set_cons_succ, i64_w, i32_w]
                              rfl
                            refine one_ (i := 5) (N := some 27) #[true, true, true, true, true, true, false] rfl rfl (by kernel_rfl) (by decide) (fun K hK => ?_)
                            refine goes_ Try.func28 (by kernel_rfl) rfl #[.agg #[.bool x343000_1, .bool x343001_1, .int .i64 x343002_1, .bool x343003_1], .agg #[.int .u8 ((rd_T47 l0 x9_1).f0), .bool ((rd_T47 l0 x9_1).f1), .bool ((rd_T47 l0 x9_1).f2)]] (by rfl) rfl rfl (by (try simp only [List.map_toArray, List.map_cons, List.map_nil]); first | done | rfl | (simp only [List.length_drop, List.length_take]; rfl)) ?_
                            with_reducible refine (ambidexterlaw26_step.calls x343000_1 x343001_1 x343002_1 x343003_1 ((rd_T47 l0 x9_1).f0) ((rd_T47 l0 x9_1).f1) ((rd_T47 l0 x9_1).f2) t344 t345 t346 t347 _ A11.out).mono ?_
                            rintro e w71 ⟨rfl, hb⟩
                            refine ⟨_, rfl, ?_⟩
                            have n0_ := Aside0.mk (blk_below (g := gb342) (o := .cells #[.bool x343000_1, .bool x343001_1, .int .i64 x343002_1, .bool x343003_1] 44 (0, 0)) (by (with_reducible repeat (first | refine blk_drewN ?_ _ | refine blk_drew ?_ | refine blk_alloc ?_ _)); exact BK342.out) hb)
                            have n1_ := Aside0.mk (below_step (by repeat (first | (with_reducible first | exact HB.out | apply below_alloc | apply pw_below_drewN | apply below_drew1 | refine below_set ?_ GE342.out) | exact HB.out)) hb)
                            clear BK342
                            clear HB
                            have BK342 := n0_
                            have HB := n1_
                            clear n0_ n1_
                            (try clear hb)
                            (try clear hb2)
                            (try clear hk)
                            (try clear hi)
                            refine hK.out _ _ ⟨(blk_cell BK342.out 0).trans rfl, (blk_cell BK342.out 1).trans rfl, (blk_cell BK342.out 2).trans rfl, (blk_cell BK342.out 3).trans rfl, ((HB.out.cell (World.block_lt_of_cell? w _ hw343_0)).trans hw343_0), ((HB.out.cell (World.block_lt_of_cell? w _ hw343_1)).trans hw343_1), ((HB.out.cell (World.block_lt_of_cell? w _ hw343_2)).trans hw343_2)⟩ (fun hHeld => ?_)
                            clear hK K
                            refine norm_ (a' := ?_) ?_ ?_
                            rotate_left
                            · show Act.put _ (some 27) _ = _
                              simp only [Act.put, List.setIfInBounds_toArray, List.set_cons_zero, List.set_cons_succ, i64_w, i32_w]
                              rfl
                            refine last_ (i := 6) (N := none) #[true, true, true, true, true, true, true] rfl rfl (by kernel_rfl) (by decide) (fun K hK => ?_)
                            have hs72 : w71.cell? ⟨gb342, 0, none⟩ = some (.bool x343000_1) := (blk_cell BK342.out 0).trans rfl
                            have hfs72 := blk_frozen BK342.out 0
                            have hs73 : w71.cell? ⟨gb342, 1, none⟩ = some (.bool x343001_1) := (blk_cell BK342.out 1).trans rfl
                            have hfs73 := blk_frozen BK342.out 1
                            have hs74 : w71.cell? ⟨gb342, 2, none⟩ = some (.int .i64 x343002_1) := (blk_cell BK342.out 2).trans rfl
                            have hfs74 := blk_frozen BK342.out 2
                            have hs75 : w71.cell? ⟨gb342, 3, none⟩ = some (.bool x343003_1) := (blk_cell BK342.out 3).trans rfl
                            have hfs75 := blk_frozen BK342.out 3
                            refine skip_ (w1 := ?_) (by rfl) rfl ?_ ?_
                            rotate_left
                            · go_simp
                              rfl
                            refine hK.out _ _ ?_
                            clear hK K
                            refine done_ (by kernel_rfl) ?_
                            have p348 : 0 ≤ (x9_1 : Int) := of_decide_eq_true (by first | (with_reducible assumption) | assumption)
                            have q348 : x9_1 < (l0.length : Int) := of_decide_eq_true (by first | (with_reducible assumption) | assumption)
                            obtain ⟨ad348, e348, hx348_0, hx348_1, hx348_2⟩ := at_T47 HR0.out x9_1 p348 q348
                            obtain rfl : ad343 = ad348 := (by injection e348)
                            have hn348_0 : ad343.block ≠ gb342 := Nat.ne_of_lt (Nat.lt_of_lt_of_le (by have := World.block_lt_of_cell? _ _ hx348_0; first | rwa [add_block] at this | exact this) GW342.out)
                            have hn348_1 : ad343.block ≠ gb342 := Nat.ne_of_lt (Nat.lt_of_lt_of_le (by have := World.block_lt_of_cell? _ _ hx348_0; first | rwa [add_block] at this | exact this) GW342.out)
                            have hn348_2 : ad343.block ≠ gb342 := Nat.ne_of_lt (Nat.lt_of_lt_of_le (by have := World.block_lt_of_cell? _ _ hx348_0; first | rwa [add_block] at this | exact this) GW342.out)
                            have hn348_3 : ad343.block ≠ gb342 := Nat.ne_of_lt (Nat.lt_of_lt_of_le (by have := World.block_lt_of_cell? _ _ hx348_0; first | rwa [add_block] at this | exact this) GW342.out)
                            replace hx348_0 := (HB.out.cell (World.block_lt_of_cell? w _ hx348_0)).trans hx348_0
                            replace hx348_1 := (HB.out.cell (World.block_lt_of_cell? w _ hx348_1)).trans hx348_1
                            replace hx348_2 := (HB.out.cell (World.block_lt_of_cell? w _ hx348_2)).trans hx348_2
                            replace hx348_0 := (cell_far (p := ⟨gb342, 0, none⟩) (by first | (rw [add_block]; exact hn348_0) | (show (Addr.add _ _).block ≠ _; rw [add_block]; exact hn348_0) | exact hn348_0) (.bool t344)).trans hx348_0
                            replace hx348_1 := (cell_far (p := ⟨gb342, 0, none⟩) (by first | (rw [add_block]; exact hn348_0) | (show (Addr.add _ _).block ≠ _; rw [add_block]; exact hn348_0) | exact hn348_0) (.bool t344)).trans hx348_1
                            replace hx348_2 := (cell_far (p := ⟨gb342, 0, none⟩) (by first | (rw [add_block]; exact hn348_0) | (show (Addr.add _ _).block ≠ _; rw [add_block]; exact hn348_0) | exact hn348_0) (.bool t344)).trans hx348_2
                            replace hx348_0 := (cell_far (p := ⟨gb342, 1, none⟩) (by first | (rw [add_block]; exact hn348_1) | (show (Addr.add _ _).block ≠ _; rw [add_block]; exact hn348_1) | exact hn348_1) (.bool t345)).trans hx348_0
                            replace hx348_1 := (cell_far (p := ⟨gb342, 1, none⟩) (by first | (rw [add_block]; exact hn348_1) | (show (Addr.add _ _).block ≠ _; rw [add_block]; exact hn348_1) | exact hn348_1) (.bool t345)).trans hx348_1
                            replace hx348_2 := (cell_far (p := ⟨gb342, 1, none⟩) (by first | (rw [add_block]; exact hn348_1) | (show (Addr.add _ _).block ≠ _; rw [add_block]; exact hn348_1) | exact hn348_1) (.bool t345)).trans hx348_2
                            replace hx348_0 := (cell_far (p := ⟨gb342, 2, none⟩) (by first | (rw [add_block]; exact hn348_2) | (show (Addr.add _ _).block ≠ _; rw [add_block]; exact hn348_2) | exact hn348_2) (.int .i64 t346)).trans hx348_0
                            replace hx348_1 := (cell_far (p := ⟨gb342, 2, none⟩) (by first | (rw [add_block]; exact hn348_2) | (show (Addr.add _ _).block ≠ _; rw [add_block]; exact hn348_2) | exact hn348_2) (.int .i64 t346)).trans hx348_1
                            replace hx348_2 := (cell_far (p := ⟨gb342, 2, none⟩) (by first | (rw [add_block]; exact hn348_2) | (show (Addr.add _ _).block ≠ _; rw [add_block]; exact hn348_2) | exact hn348_2) (.int .i64 t346)).trans hx348_2
                            replace hx348_0 := (cell_far (p := ⟨gb342, 3, none⟩) (by first | (rw [add_block]; exact hn348_3) | (show (Addr.add _ _).block ≠ _; rw [add_block]; exact hn348_3) | exact hn348_3) (.bool t347)).trans hx348_0
                            replace hx348_1 := (cell_far (p := ⟨gb342, 3, none⟩) (by first | (rw [add_block]; exact hn348_3) | (show (Addr.add _ _).block ≠ _; rw [add_block]; exact hn348_3) | exact hn348_3) (.bool t347)).trans hx348_1
                            replace hx348_2 := (cell_far (p := ⟨gb342, 3, none⟩) (by first | (rw [add_block]; exact hn348_3) | (show (Addr.add _ _).block ≠ _; rw [add_block]; exact hn348_3) | exact hn348_3) (.bool t347)).trans hx348_2
                            clear hn348_0
                            clear hn348_1
                            clear hn348_2
                            clear hn348_3
                            replace p348 := eq_true p348
                            replace q348 := eq_true q348
                            have p349 : 0 ≤ (x9_1 : Int) := of_decide_eq_true (by first | (with_reducible assumption) | assumption)
                            have q349 : x9_1 < (l0.length : Int) := of_decide_eq_true (by first | (with_reducible assumption) | assumption)
                            obtain ⟨ad349, e349, hx349_0, hx349_1, hx349_2⟩ := at_T47 HR0.out x9_1 p349 q349
                            obtain rfl : ad343 = ad349 := (by injection e349)
                            have hn349_0 : ad343.block ≠ gb342 := Nat.ne_of_lt (Nat.lt_of_lt_of_le (by have := World.block_lt_of_cell? _ _ hx349_0; first | rwa [add_block] at this | exact this) GW342.out)
                            have hn349_1 : ad343.block ≠ gb342 := Nat.ne_of_lt (Nat.lt_of_lt_of_le (by have := World.block_lt_of_cell? _ _ hx349_0; first | rwa [add_block] at this | exact this) GW342.out)
                            have hn349_2 : ad343.block ≠ gb342 := Nat.ne_of_lt (Nat.lt_of_lt_of_le (by have := World.block_lt_of_cell? _ _ hx349_0; first | rwa [add_block] at this | exact this) GW342.out)
                            have hn349_3 : ad343.block ≠ gb342 := Nat.ne_of_lt (Nat.lt_of_lt_of_le (by have := World.block_lt_of_cell? _ _ hx349_0; first | rwa [add_block] at this | exact this) GW342.out)
                            replace hx349_0 := (HB.out.cell (World.block_lt_of_cell? w _ hx349_0)).trans hx349_0
                            replace hx349_1 := (HB.out.cell (World.block_lt_of_cell? w _ hx349_1)).trans hx349_1
                            replace hx349_2 := (HB.out.cell (World.block_lt_of_cell? w _ hx349_2)).trans hx349_2
                            replace hx349_0 := (cell_far (p := ⟨gb342, 0, none⟩) (by first | (rw [add_block]; exact hn349_0) | (show (Addr.add _ _).block ≠ _; rw [add_block]; exact hn349_0) | exact hn349_0) (.bool t344)).trans hx349_0
                            replace hx349_1 := (cell_far (p := ⟨gb342, 0, none⟩) (by first | (rw [add_block]; exact hn349_0) | (show (Addr.add _ _).block ≠ _; rw [add_block]; exact hn349_0) | exact hn349_0) (.bool t344)).trans hx349_1
                            replace hx349_2 := (cell_far (p := ⟨gb342, 0, none⟩) (by first | (rw [add_block]; exact hn349_0) | (show (Addr.add _ _).block ≠ _; rw [add_block]; exact hn349_0) | exact hn349_0) (.bool t344)).trans hx349_2
                            replace hx349_0 := (cell_far (p := ⟨gb342, 1, none⟩) (by first | (rw [add_block]; exact hn349_1) | (show (Addr.add _ _).block ≠ _; rw [add_block]; exact hn349_1) | exact hn349_1) (.bool t345)).trans hx349_0
                            replace hx349_1 := (cell_far (p := ⟨gb342, 1, none⟩) (by first | (rw [add_block]; exact hn349_1) | (show (Addr.add _ _).block ≠ _; rw [add_block]; exact hn349_1) | exact hn349_1) (.bool t345)).trans hx349_1
                            replace hx349_2 := (cell_far (p := ⟨gb342, 1, none⟩) (by first | (rw [add_block]; exact hn349_1) | (show (Addr.add _ _).block ≠ _; rw [add_block]; exact hn349_1) | exact hn349_1) (.bool t345)).trans hx349_2
                            replace hx349_0 := (cell_far (p := ⟨gb342, 2, none⟩) (by first | (rw [add_block]; exact hn349_2) | (show (Addr.add _ _).block ≠ _; rw [add_block]; exact hn349_2) | exact hn349_2) (.int .i64 t346)).trans hx349_0
                            replace hx349_1 := (cell_far (p := ⟨gb342, 2, none⟩) (by first | (rw [add_block]; exact hn349_2) | (show (Addr.add _ _).block ≠ _; rw [add_block]; exact hn349_2) | exact hn349_2) (.int .i64 t346)).trans hx349_1
                            replace hx349_2 := (cell_far (p := ⟨gb342, 2, none⟩) (by first | (rw [add_block]; exact hn349_2) | (show (Addr.add _ _).block ≠ _; rw [add_block]; exact hn349_2) | exact hn349_2) (.int .i64 t346)).trans hx349_2
                            replace hx349_0 := (cell_far (p := ⟨gb342, 3, none⟩) (by first | (rw [add_block]; exact hn349_3) | (show (Addr.add _ _).block ≠ _; rw [add_block]; exact hn349_3) | exact hn349_3) (.bool t347)).trans hx349_0
                            replace hx349_1 := (cell_far (p := ⟨gb342, 3, none⟩) (by first | (rw [add_block]; exact hn349_3) | (show (Addr.add _ _).block ≠ _; rw [add_block]; exact hn349_3) | exact hn349_3) (.bool t347)).trans hx349_1
                            replace hx349_2 := (cell_far (p := ⟨gb342, 3, none⟩) (by first | (rw [add_block]; exact hn349_3) | (show (Addr.add _ _).block ≠ _; rw [add_block]; exact hn349_3) | exact hn349_3) (.bool t347)).trans hx349_2
                            clear hn349_0
                            clear hn349_1
                            clear hn349_2
                            clear hn349_3
                            replace p349 := eq_true p349
                            replace q349 := eq_true q349
                            have p350 : 0 ≤ (x9_1 : Int) := of_decide_eq_true (by first | (with_reducible assumption) | assumption)
                            have q350 : x9_1 < (l0.length : Int) := of_decide_eq_true (by first | (with_reducible assumption) | assumption)
                            obtain ⟨ad350, e350, hx350_0, hx350_1, hx350_2⟩ := at_T47 HR0.out x9_1 p350 q350
                            obtain rfl : ad343 = ad350 := (by injection e350)
                            have hn350_0 : ad343.block ≠ gb342 := Nat.ne_of_lt (Nat.lt_of_lt_of_le (by have := World.block_lt_of_cell? _ _ hx350_0; first | rwa [add_block] at this | exact this) GW342.out)
                            have hn350_1 : ad343.block ≠ gb342 := Nat.ne_of_lt (Nat.lt_of_lt_of_le (by have := World.block_lt_of_cell? _ _ hx350_0; first | rwa [add_block] at this | exact this) GW342.out)
                            have hn350_2 : ad343.block ≠ gb342 := Nat.ne_of_lt (Nat.lt_of_lt_of_le (by have := World.block_lt_of_cell? _ _ hx350_0; first | rwa [add_block] at this | exact this) GW342.out)
                            have hn350_3 : ad343.block ≠ gb342 := Nat.ne_of_lt (Nat.lt_of_lt_of_le (by have := World.block_lt_of_cell? _ _ hx350_0; first | rwa [add_block] at this | exact this) GW342.out)
                            replace hx350_0 := (HB.out.cell (World.block_lt_of_cell? w _ hx350_0)).trans hx350_0
                            replace hx350_1 := (HB.out.cell (World.block_lt_of_cell? w _ hx350_1)).trans hx350_1
                            replace hx350_2 := (HB.out.cell (World.block_lt_of_cell? w _ hx350_2)).trans hx350_2
                            replace hx350_0 := (cell_far (p := ⟨gb342, 0, none⟩) (by first | (rw [add_block]; exact hn350_0) | (show (Addr.add _ _).block ≠ _; rw [add_block]; exact hn350_0) | exact hn350_0) (.bool t344)).trans hx350_0
                            replace hx350_1 := (cell_far (p := ⟨gb342, 0, none⟩) (by first | (rw [add_block]; exact hn350_0) | (show (Addr.add _ _).block ≠ _; rw [add_block]; exact hn350_0) | exact hn350_0) (.bool t344)).trans hx350_1
                            replace hx350_2 := (cell_far (p := ⟨gb342, 0, none⟩) (by first | (rw [add_block]; exact hn350_0) | (show (Addr.add _ _).block ≠ _; rw [add_block]; exact hn350_0) | exact hn350_0) (.bool t344)).trans hx350_2
                            replace hx350_0 := (cell_far (p := ⟨gb342, 1, none⟩) (by first | (rw [add_block]; exact hn350_1) | (show (Addr.add _ _).block ≠ _; rw [add_block]; exact hn350_1) | exact hn350_1) (.bool t345)).trans hx350_0
                            replace hx350_1 := (cell_far (p := ⟨gb342, 1, none⟩) (by first | (rw [add_block]; exact hn350_1) | (show (Addr.add _ _).block ≠ _; rw [add_block]; exact hn350_1) | exact hn350_1) (.bool t345)).trans hx350_1
                            replace hx350_2 := (cell_far (p := ⟨gb342, 1, none⟩) (by first | (rw [add_block]; exact hn350_1) | (show (Addr.add _ _).block ≠ _; rw [add_block]; exact hn350_1) | exact hn350_1) (.bool t345)).trans hx350_2
                            replace hx350_0 := (cell_far (p := ⟨gb342, 2, none⟩) (by first | (rw [add_block]; exact hn350_2) | (show (Addr.add _ _).block ≠ _; rw [add_block]; exact hn350_2) | exact hn350_2) (.int .i64 t346)).trans hx350_0
                            replace hx350_1 := (cell_far (p := ⟨gb342, 2, none⟩) (by first | (rw [add_block]; exact hn350_2) | (show (Addr.add _ _).block ≠ _; rw [add_block]; exact hn350_2) | exact hn350_2) (.int .i64 t346)).trans hx350_1
                            replace hx350_2 := (cell_far (p := ⟨gb342, 2, none⟩) (by first | (rw [add_block]; exact hn350_2) | (show (Addr.add _ _).block ≠ _; rw [add_block]; exact hn350_2) | exact hn350_2) (.int .i64 t346)).trans hx350_2
                            replace hx350_0 := (cell_far (p := ⟨gb342, 3, none⟩) (by first | (rw [add_block]; exact hn350_3) | (show (Addr.add _ _).block ≠ _; rw [add_block]; exact hn350_3) | exact hn350_3) (.bool t347)).trans hx350_0
                            replace hx350_1 := (cell_far (p := ⟨gb342, 3, none⟩) (by first | (rw [add_block]; exact hn350_3) | (show (Addr.add _ _).block ≠ _; rw [add_block]; exact hn350_3) | exact hn350_3) (.bool t347)).trans hx350_1
                            replace hx350_2 := (cell_far (p := ⟨gb342, 3, none⟩) (by first | (rw [add_block]; exact hn350_3) | (show (Addr.add _ _).block ≠ _; rw [add_block]; exact hn350_3) | exact hn350_3) (.bool t347)).trans hx350_2
                            clear hn350_0
                            clear hn350_1
                            clear hn350_2
                            clear hn350_3
                            replace p350 := eq_true p350
                            replace q350 := eq_true q350
                            have hcz76_0 : w71.cell? ⟨gb342, 0, none⟩ = some (.bool x343000_1) := (blk_cell BK342.out 0).trans rfl
                            have hcz76_1 : w71.cell? ⟨gb342, 1, none⟩ = some (.bool x343001_1) := (blk_cell BK342.out 1).trans rfl
                            have hcz76_2 : w71.cell? ⟨gb342, 2, none⟩ = some (.int .i64 x343002_1) := (blk_cell BK342.out 2).trans rfl
                            have hcz76_3 : w71.cell? ⟨gb342, 3, none⟩ = some (.bool x343003_1) := (blk_cell BK342.out 3).trans rfl
                            have hfz76_0 := blk_frozen BK342.out 0
                            have hfz76_1 := blk_frozen BK342.out 1
                            have hfz76_2 := blk_frozen BK342.out 2
                            have hfz76_3 := blk_frozen BK342.out 3
                            try go_wp2
                            go_roundg kj5
                            case measure => have := HK1.out; have := HJ5.out; omega
                            case rel => exact ⟨(wrap64 (x5_1 + 1)), (decide ((wrap64 (x5_1 + 1)) ≥ 4)), ((rd_T47 l0 x9_1).f1), ((rd_T47 l0 x9_1).f2), (wrap64 (x9_1 + 1)), (t344), (t345), (t346), (t347), (by first | rfl | (simp; done) | (simp [*]; done)), (by first | rfl | (simp; done) | (simp [*]; done)), (by first | rfl | (simp; done) | (simp [*]; done)), (by first | rfl | (simp; done) | (simp [*]; done)), (by first | rfl | (simp; done) | (simp [*]; done)), H', ⟨by have := HK1.out; have := HJ5.out; omega⟩, ⟨by (with_reducible repeat (first | refine blk_drewN ?_ _ | refine blk_drew ?_ | refine blk_alloc ?_ _)); refine blk_put (cs := #[.bool t344, .bool t345, .int .i64 t346, .bool x343003_1]) ?_ 3 _ rfl; (with_reducible repeat (first | refine blk_drewN ?_ _ | refine blk_drew ?_ | refine blk_alloc ?_ _)); refine blk_put (cs := #[.bool t344, .bool t345, .int .i64 x343002_1, .bool x343003_1]) ?_ 2 _ rfl; (with_reducible repeat (first | refine blk_drewN ?_ _ | refine blk_drew ?_ | refine blk_alloc ?_ _)); refine blk_put (cs := #[.bool t344, .bool x343001_1, .int .i64 x343002_1, .bool x343003_1]) ?_ 1 _ rfl; (with_reducible repeat (first | refine blk_drewN ?_ _ | refine blk_drew ?_ | refine blk_alloc ?_ _)); refine blk_put (cs := #[.bool x343000_1, .bool x343001_1, .int .i64 x343002_1, .bool x343003_1]) ?_ 0 _ rfl; (with_reducible repeat (first | refine blk_drewN ?_ _ | refine blk_drew ?_ | refine blk_alloc ?_ _)); exact BK342.out⟩, ⟨by repeat (first | (with_reducible first | exact HB.out | apply below_alloc | apply pw_below_drewN | apply below_drew1 | refine below_set ?_ GE342.out) | exact HB.out)⟩⟩
              · rw [if_neg c10] at H
                exact absurd H (by simp)
            · rw [if_neg c9] at H
              exact absurd H (by simp)
          · replace c8 := Bool.eq_false_iff.mpr c8
            subst c8
            have H1 : (some true) = some r := by rw [if_neg (show ¬ (false = true) by decide)] at H; exact H
            clear H
            have H := H1
            clear H1
            obtain rfl := Option.some.inj H
            go_wp2
            go_ret
            exact ⟨by first | rfl | (simp [errW_none, errW_some] <;> rfl) | (simp [*, errW_none, errW_some] <;> rfl), by repeat (first | (with_reducible first | exact HB.out | apply below_alloc | apply pw_below_drewN | apply below_drew1 | refine below_set ?_ GE342.out) | exact HB.out)⟩

end Go.Proofs.Ythnbcedpdjingaa.P
