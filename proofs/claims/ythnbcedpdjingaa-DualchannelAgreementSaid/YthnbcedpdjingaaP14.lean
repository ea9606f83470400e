-- Written by this session's own program, for this seat. Lean checks it.
import Derived.Test.YthnbcedpdjingaaP0
import Derived.Test.YthnbcedpdjingaaP10
import Derived.Test.YthnbcedpdjingaaP11
namespace Go.Proofs.Ythnbcedpdjingaa.P
open Go.RowKit Go.Proofs.YthnbcedpdjingaaW.PrintWords Go.Proofs.YthnbcedpdjingaaW.PrintLast Go.Proofs.YthnbcedpdjingaaW.PrintMore
attribute [local go_sem] max2_int min2_int max_two min_two max_three min_three max_four min_four   -- for this text's walks alone
set_option linter.unusedVariables false
set_option linter.unusedSimpArgs false

/-! ### ambidexterlaw26_Made: function 33 -/
def ambidexterlaw26_Made.l0 : Nat → List (S47) → Int → Bool → Bool → Int → Bool → Option (Bool × Bool × Int × Bool)
  | 0, _, _, _, _, _, _ => none
  | k + 1, x0, x4, x353000, x353001, x353002, x353003 => if x4 < (x0.length : Int) then (if x4 < 300 then (if 0 ≤ x4 then ((ambidexterlaw26_want.f x353000 x353001 x353002 x353003 ((rd_T47 x0 x4).f0) ((rd_T47 x0 x4).f1) ((rd_T47 x0 x4).f2)).bind fun bt354 => (ambidexterlaw26_Made.l0 k x0 (wrap64 (x4 + 1)) bt354.1 bt354.2.1 bt354.2.2.1 bt354.2.2.2)) else (none)) else (some (x353000, x353001, x353002, x353003))) else (some (x353000, x353001, x353002, x353003))
def ambidexterlaw26_Made.f (k : Nat) (l0 : List (S47)) : Option (Bool × Bool × Int × Bool) := ambidexterlaw26_Made.l0 k l0 0 false false 0 false
theorem ambidexterlaw26_Made.mono_l : ∀ k, (∀ y0 y1 y2 y3 y4 y5, LeO (ambidexterlaw26_Made.l0 k y0 y1 y2 y3 y4 y5) (ambidexterlaw26_Made.l0 (k + 1) y0 y1 y2 y3 y4 y5))
  | 0 => fun _ _ _ _ _ _ r h => by simp [ambidexterlaw26_Made.l0] at h
  | k + 1 => by
    have ih0 := ambidexterlaw26_Made.mono_l k
    · intro y0 y1 y2 y3 y4 y5
      unfold ambidexterlaw26_Made.l0
      repeat' first
      | (with_reducible exact ih0 _ _ _ _ _ _)
      | (with_reducible exact LeO.refl _)
      | (with_reducible exact LeO.none _)
      | (with_reducible refine LeO.ite ?_ ?_)
      | (with_reducible refine LeO.bind ?_ (fun _ => ?_))
      | exact ih0 _ _ _ _ _ _
      | exact LeO.none _
      | refine LeO.ite ?_ ?_
      | refine LeO.bind ?_ (fun _ => ?_)
theorem ambidexterlaw26_Made.mono : ∀ a0 k, LeO (ambidexterlaw26_Made.f k a0) (ambidexterlaw26_Made.f (k + 1) a0) := by
  intro a0 k
  have ih0 := ambidexterlaw26_Made.mono_l k
  unfold ambidexterlaw26_Made.f
  repeat' first
      | (with_reducible exact ih0 _ _ _ _ _ _)
      | (with_reducible exact LeO.refl _)
      | (with_reducible exact LeO.none _)
      | (with_reducible refine LeO.ite ?_ ?_)
      | (with_reducible refine LeO.bind ?_ (fun _ => ?_))
      | exact ih0 _ _ _ _ _ _
      | exact LeO.none _
      | refine LeO.ite ?_ ?_
      | refine LeO.bind ?_ (fun _ => ?_)
set_option maxHeartbeats 8000000 in
set_option maxRecDepth 100000 in
theorem ambidexterlaw26_Made.calls (k : Nat) (A0 : Option Addr) (c0 : Nat) (l0 : List (S47)) (r1 : Bool) (r2 : Bool) (r3 : Int) (r4 : Bool) (w : World) (hr0 : Kd.C k47 w A0 l0.length l0) (hc0 : l0.length ≤ c0) (h : ambidexterlaw26_Made.f k l0 = some (r1, r2, r3, r4)) :
    Calls Try.prog 33 #[.slice A0 l0.length c0] w fun e w' => e = .returned (.agg #[.bool r1, .bool r2, .int .i64 r3, .bool r4]) ∧ Below w.heap.size w w' := by
  have hu44 := Try.underlying44
  have hu47 := Try.underlying47
  have HR0 := Aside0.mk hr0
  have HC0 := Aside0.mk hc0
  clear hr0 hc0
  have HB := Aside0.mk (Below.refl w.heap.size w)
  have H : (ambidexterlaw26_Made.l0 k l0 0 false false 0 false) = some (r1, r2, r3, r4) := h
  clear h
  have H' := Aside0.mk H
  clear H
  go_enter Try.func33, Try.ntmps33
  go_wp2_with (first | ((with_reducible refine gate_dst (N := 2) rfl ?_); refine box_event ?hg (N := 2) ?hd (cs := #[.bool false, .bool false, .int .i64 0, .bool false]) (t := 44) ?hr ?_; (case hd => rfl); (case hg => rfl); (case hr => first | (go_simp; done) | (go_simp; rfl)); intro gb351 hg w2 hbox hb; have n0_ := Aside0.mk (below_step (by repeat (first | (with_reducible first | exact HB.out | apply below_alloc | apply pw_below_drewN | apply below_drew1) | exact HB.out)) hb); have n1_ := Aside0.mk (hbox); have n2_ := Aside0.mk ((by rw [hg]; exact (below_size (by repeat (first | (with_reducible first | exact HB.out | apply below_alloc | apply pw_below_drewN | apply below_drew1) | exact HB.out))) : w.heap.size ≤ gb351)); have n3_ := Aside0.mk ((by rw [hg]; exact (below_size (by repeat (first | (with_reducible first | exact HB.out | apply below_alloc | apply pw_below_drewN | apply below_drew1) | exact HB.out))) : w.heap.size ≤ gb351)); clear HB; have HB := n0_; have BK351 := n1_; have GW351 := n2_; have GE351 := n3_; clear n0_ n1_ n2_ n3_; clear hb hbox hg) | ((with_reducible refine gate_dst (N := 3) rfl ?_); refine box_event ?hg (N := 3) ?hd (cs := #[.bool false, .bool false, .int .i64 0, .bool false]) (t := 44) ?hr ?_; (case hd => rfl); (case hg => rfl); (case hr => first | (go_simp; done) | (go_simp; rfl)); intro gb352 hg w3 hbox hb; have n0_ := Aside0.mk (blk_below (g := gb351) (o := .cells #[.bool false, .bool false, .int .i64 0, .bool false] 44 (0, 0)) (by (with_reducible repeat (first | refine blk_drewN ?_ _ | refine blk_drew ?_ | refine blk_alloc ?_ _)); exact BK351.out) hb); have n1_ := Aside0.mk (below_step (by repeat (first | (with_reducible first | exact HB.out | apply below_alloc | apply pw_below_drewN | apply below_drew1 | refine below_set ?_ GE351.out) | exact HB.out)) hb); have n2_ := Aside0.mk (hbox); have n3_ := Aside0.mk ((by rw [hg]; exact (below_size (by repeat (first | (with_reducible first | exact HB.out | apply below_alloc | apply pw_below_drewN | apply below_drew1 | refine below_set ?_ GE351.out) | exact HB.out))) : w.heap.size ≤ gb352)); have n4_ := Aside0.mk ((by rw [hg]; exact (below_size (by repeat (first | (with_reducible first | exact HB.out | apply below_alloc | apply pw_below_drewN | apply below_drew1 | refine below_set ?_ GE351.out) | exact HB.out))) : w.heap.size ≤ gb352)); have n5_ := Aside0.mk ((by rw [hg]; exact Nat.ne_of_lt (blk_lt (g := gb351) (o := .cells #[.bool false, .bool false, .int .i64 0, .bool false] 44 (0, 0)) (by (with_reducible repeat (first | refine blk_drewN ?_ _ | refine blk_drew ?_ | refine blk_alloc ?_ _)); exact BK351.out)) : gb351 ≠ gb352)); have n6_ := Aside0.mk ((by rw [hg]; exact Nat.ne_of_gt (blk_lt (g := gb351) (o := .cells #[.bool false, .bool false, .int .i64 0, .bool false] 44 (0, 0)) (by (with_reducible repeat (first | refine blk_drewN ?_ _ | refine blk_drew ?_ | refine blk_alloc ?_ _)); exact BK351.out)) : gb352 ≠ gb351)); clear BK351; clear HB; have BK351 := n0_; have HB := n1_; have BK352 := n2_; have GW352 := n3_; have GE352 := n4_; have NB351_352 := n5_; have NB352_351 := n6_; clear n0_ n1_ n2_ n3_ n4_ n5_ n6_; clear hb hbox hg; have hnb4 := NB352_351.out; have hnc4 := NB351_352.out; have hcz5_0 : w3.cell? ⟨gb352, 0, none⟩ = some (.bool false) := (blk_cell BK352.out 0).trans rfl; have hcz5_1 : w3.cell? ⟨gb352, 1, none⟩ = some (.bool false) := (blk_cell BK352.out 1).trans rfl; have hcz5_2 : w3.cell? ⟨gb352, 2, none⟩ = some (.int .i64 0) := (blk_cell BK352.out 2).trans rfl; have hcz5_3 : w3.cell? ⟨gb352, 3, none⟩ = some (.bool false) := (blk_cell BK352.out 3).trans rfl; have hfz5_0 := blk_frozen BK352.out 0; have hfz5_1 := blk_frozen BK352.out 1; have hfz5_2 := blk_frozen BK352.out 2; have hfz5_3 := blk_frozen BK352.out 3))
  go_loopg [4] k (fun kq v4 w' => ∃ (x4_1 : Int) (x353000_1 : Bool) (x353001_1 : Bool) (x353002_1 : Int) (x353003_1 : Bool), v4 = .int .i64 x4_1 ∧ Aside0 (ambidexterlaw26_Made.l0 kq l0 x4_1 x353000_1 x353001_1 x353002_1 x353003_1 = some (r1, r2, r3, r4)) ∧ Aside0 (kq ≤ k) ∧ Aside0 (w'.heap[gb351]? = some (.cells #[.bool false, .bool false, .int .i64 0, .bool false] 44 (0, 0))) ∧ Aside0 (w'.heap[gb352]? = some (.cells #[.bool x353000_1, .bool x353001_1, .int .i64 x353002_1, .bool x353003_1] 44 (0, 0))) ∧ Aside0 (Below w.heap.size w w'))
  case atStart => exact ⟨(0), (false), (false), (0), (false), (by first | rfl | (simp; done) | (simp [*]; done)), H', ⟨Nat.le_refl _⟩, ⟨by (with_reducible repeat (first | refine blk_drewN ?_ _ | refine blk_drew ?_ | refine blk_alloc ?_ _)); refine blk_far ?_ NB351_352.out _; (with_reducible repeat (first | refine blk_drewN ?_ _ | refine blk_drew ?_ | refine blk_alloc ?_ _)); refine blk_far ?_ NB351_352.out _; (with_reducible repeat (first | refine blk_drewN ?_ _ | refine blk_drew ?_ | refine blk_alloc ?_ _)); refine blk_far ?_ NB351_352.out _; (with_reducible repeat (first | refine blk_drewN ?_ _ | refine blk_drew ?_ | refine blk_alloc ?_ _)); refine blk_far ?_ NB351_352.out _; (with_reducible repeat (first | refine blk_drewN ?_ _ | refine blk_drew ?_ | refine blk_alloc ?_ _)); exact BK351.out⟩, ⟨by (with_reducible repeat (first | refine blk_drewN ?_ _ | refine blk_drew ?_ | refine blk_alloc ?_ _)); refine blk_put (cs := #[.bool false, .bool false, .int .i64 0, .bool false]) ?_ 3 _ rfl; (with_reducible repeat (first | refine blk_drewN ?_ _ | refine blk_drew ?_ | refine blk_alloc ?_ _)); refine blk_put (cs := #[.bool false, .bool false, .int .i64 0, .bool false]) ?_ 2 _ rfl; (with_reducible repeat (first | refine blk_drewN ?_ _ | refine blk_drew ?_ | refine blk_alloc ?_ _)); refine blk_put (cs := #[.bool false, .bool false, .int .i64 0, .bool false]) ?_ 1 _ rfl; (with_reducible repeat (first | refine blk_drewN ?_ _ | refine blk_drew ?_ | refine blk_alloc ?_ _)); refine blk_put (cs := #[.bool false, .bool false, .int .i64 0, .bool false]) ?_ 0 _ rfl; (with_reducible repeat (first | refine blk_drewN ?_ _ | refine blk_drew ?_ | refine blk_alloc ?_ _)); exact BK352.out⟩, ⟨by repeat (first | (with_reducible first | exact HB.out | apply below_alloc | apply pw_below_drewN | apply below_drew1 | refine below_set ?_ GE351.out | refine below_set ?_ GE352.out) | exact HB.out)⟩⟩
  case round =>
    clear H'
    try clear p2
    try clear c3
    try clear c4
    try clear hcz5_0
    try clear hcz5_1
    try clear hcz5_2
    try clear hcz5_3
    try clear hfz5_0
    try clear hfz5_1
    try clear hfz5_2
    try clear hfz5_3
    obtain ⟨x4_1, x353000_1, x353001_1, x353002_1, x353003_1, rfl, HA, HK1, BK351, BK352, HB⟩ := hrel
    cases gk with
    | zero => exact absurd HA.out (by simp [ambidexterlaw26_Made.l0])
    | succ k1 =>
      have H := HA.out
      clear HA
      simp only [ambidexterlaw26_Made.l0] at H
      by_cases c6 : x4_1 < (l0.length : Int)
      · rw [if_pos c6] at H
        have c6b0 : decide (x4_1 < (l0.length : Int)) = true := decide_eq_true c6
        clear c6
        by_cases c7 : x4_1 < 300
        · rw [if_pos c7] at H
          have c7b0 : decide (x4_1 < 300) = true := decide_eq_true c7
          clear c7
          by_cases c8 : 0 ≤ x4_1
          · rw [if_pos c8] at H
            have c8b0 : decide (0 ≤ x4_1) = true := decide_eq_true c8
            clear c8
            replace H := Option.bind_eq_some_iff.mp H
            obtain ⟨⟨t354, t355, t356, t357⟩, A90, H⟩ := H
            replace H : (ambidexterlaw26_Made.l0 k1 l0 (wrap64 (x4_1 + 1)) t354 t355 t356 t357) = some (r1, r2, r3, r4) := H
            have A9 := Aside0.mk A90
            clear A90
            have H' := Aside0.mk H
            clear H
            try go_wp2
            have n0_ := Aside0.mk (blk_drew BK351.out)
            have n1_ := Aside0.mk (blk_drew BK352.out)
            have n2_ := Aside0.mk (below_drew1 HB.out)
            clear BK351
            clear BK352
            clear HB
            have BK351 := n0_
            have BK352 := n1_
            have HB := n2_
            clear n0_ n1_ n2_
            have p353 : 0 ≤ (x4_1 : Int) := of_decide_eq_true (by first | (with_reducible assumption) | assumption)
            have q353 : x4_1 < (l0.length : Int) := of_decide_eq_true (by first | (with_reducible assumption) | assumption)
            obtain ⟨ad353, e353, hx353_0, hx353_1, hx353_2⟩ := at_T47 HR0.out x4_1 p353 q353
            have hw353_2 := hx353_2
            have hw353_1 := hx353_1
            have hw353_0 := hx353_0
            cases e353
            replace hx353_0 := (HB.out.cell (World.block_lt_of_cell? w _ hx353_0)).trans hx353_0
            replace hx353_1 := (HB.out.cell (World.block_lt_of_cell? w _ hx353_1)).trans hx353_1
            replace hx353_2 := (HB.out.cell (World.block_lt_of_cell? w _ hx353_2)).trans hx353_2
            replace p353 := eq_true p353
            replace q353 := eq_true q353
            refine start_ (n := 7) (S := fun w' => w'.cell? ⟨gb352, 0, none⟩ = some (.bool x353000_1) ∧ w'.cell? ⟨gb352, 1, none⟩ = some (.bool x353001_1) ∧ w'.cell? ⟨gb352, 2, none⟩ = some (.int .i64 x353002_1) ∧ w'.cell? ⟨gb352, 3, none⟩ = some (.bool x353003_1) ∧ w'.cell? (ad353.add ((x4_1).toNat * 3)) = some (.int .u8 ((rd_T47 l0 x4_1).f0)) ∧ w'.cell? ⟨(ad353.add ((x4_1).toNat * 3)).block, (ad353.add ((x4_1).toNat * 3)).off + 1, none⟩ = some (.bool ((rd_T47 l0 x4_1).f1)) ∧ w'.cell? ⟨(ad353.add ((x4_1).toNat * 3)).block, (ad353.add ((x4_1).toNat * 3)).off + 2, none⟩ = some (.bool ((rd_T47 l0 x4_1).f2))) (ds := [6]) #[false, false, false, false, false, false, false] (by kernel_rfl) rfl rfl ⟨(blk_cell BK352.out 0).trans rfl, (blk_cell BK352.out 1).trans rfl, (blk_cell BK352.out 2).trans rfl, (blk_cell BK352.out 3).trans rfl, ((HB.out.cell (World.block_lt_of_cell? w _ hw353_0)).trans hw353_0), ((HB.out.cell (World.block_lt_of_cell? w _ hw353_1)).trans hw353_1), ((HB.out.cell (World.block_lt_of_cell? w _ hw353_2)).trans hw353_2)⟩ (fun hHeld => ?_)
            generalize wr.drew = w10 at BK351 BK352 HB hx353_0 hx353_1 hx353_2 hHeld ⊢
            refine pure_ (i := 1) (N := some 17) (v := ?_) (a' := ?_) #[false, true, false, false, false, false, false] rfl rfl (by kernel_rfl) (fun _ _ _ h => h) (Or.inl ⟨by rfl, ?_⟩) ?_ ?_
            rotate_left
            · intro w'
              go_simp
              with_reducible rfl
            rotate_left
            · simp only [Act.put, List.setIfInBounds_toArray, List.set_cons_zero, List.set_cons_succ, i64_w, i32_w]
              rfl
            refine pure_ (i := 2) (N := some 18) (v := ?_) (a' := ?_) #[false, true, true, false, false, false, false] rfl rfl (by kernel_rfl) (fun _ _ _ h => h) (Or.inl ⟨by rfl, ?_⟩) ?_ ?_
            rotate_left
            · intro w'
              go_simp
              with_reducible rfl
            rotate_left
            · simp only [Act.put, List.setIfInBounds_toArray, List.set_cons_zero, List.set_cons_succ, i64_w, i32_w]
              rfl
            refine pure_ (i := 3) (N := some 19) (v := ?_) (a' := ?_) #[false, true, true, true, false, false, false] rfl rfl (by kernel_rfl) (fun _ _ _ h => h) (Or.inl ⟨by rfl, ?_⟩) ?_ ?_
            rotate_left
            · intro w'
              go_simp
              with_reducible rfl
            rotate_left
            · simp only [Act.put, List.setIfInBounds_toArray, List.set_cons_zero, List.set_cons_succ, i64_w, i32_w]
              rfl
            refine take_ (i := 0) (N := some 16) (v := ?_) (a' := ?_) #[true, true, true, true, false, false, false] rfl rfl (by kernel_rfl) (fun _ _ _ h => h) (Or.inl ⟨by rfl, ?_⟩) hHeld ?_ ?_
            rotate_left
            · rintro w' ⟨s0, s1, s2, s3, s4, s5, s6⟩
              go_simp
              with_reducible rfl
            rotate_left
            · simp only [Act.put, List.setIfInBounds_toArray, List.set_cons_zero, List.set_cons_succ, i64_w, i32_w]
              rfl
            refine take_ (i := 4) (N := some 20) (v := ?_) (a' := ?_) #[true, true, true, true, true, false, false] rfl rfl (by kernel_rfl) (fun _ _ _ h => h) (Or.inl ⟨by rfl, ?_⟩) hHeld ?_ ?_
            rotate_left
            · rintro w' ⟨s0, s1, s2, s3, s4, s5, s6⟩
              go_simp
              with_reducible rfl
            rotate_left
            · simp only [Act.put, List.setIfInBounds_toArray, List.set_cons_zero, List.set_cons_succ, i64_w, i32_w]
              rfl
            refine one_ (i := 5) (N := some 21) #[true, true, true, true, true, true, false] rfl rfl (by kernel_rfl) (by decide) (fun K hK => ?_)
            refine goes_ Try.func29 (by kernel_rfl) rfl #[.agg #[.bool x353000_1, .bool x353001_1, .int .i64 x353002_1, .bool x353003_1], .agg #[.int .u8 ((rd_T47 l0 x4_1).f0), .bool ((rd_T47 l0 x4_1).f1), .bool ((rd_T47 l0 x4_1).f2)]] (by rfl) rfl rfl (by (try simp only [List.map_toArray, List.map_cons, List.map_nil]); first | done | rfl | (simp only [List.length_drop, List.length_take]; rfl)) ?_
            with_reducible refine (ambidexterlaw26_want.calls x353000_1 x353001_1 x353002_1 x353003_1 ((rd_T47 l0 x4_1).f0) ((rd_T47 l0 x4_1).f1) ((rd_T47 l0 x4_1).f2) t354 t355 t356 t357 _ A9.out).mono ?_
            rintro e w11 ⟨rfl, hb⟩
            refine ⟨_, rfl, ?_⟩
            have n0_ := Aside0.mk (blk_below (g := gb351) (o := .cells #[.bool false, .bool false, .int .i64 0, .bool false] 44 (0, 0)) (by (with_reducible repeat (first | refine blk_drewN ?_ _ | refine blk_drew ?_ | refine blk_alloc ?_ _)); exact BK351.out) hb)
            have n1_ := Aside0.mk (blk_below (g := gb352) (o := .cells #[.bool x353000_1, .bool x353001_1, .int .i64 x353002_1, .bool x353003_1] 44 (0, 0)) (by (with_reducible repeat (first | refine blk_drewN ?_ _ | refine blk_drew ?_ | refine blk_alloc ?_ _)); exact BK352.out) hb)
            have n2_ := Aside0.mk (below_step (by repeat (first | (with_reducible first | exact HB.out | apply below_alloc | apply pw_below_drewN | apply below_drew1 | refine below_set ?_ GE351.out | refine below_set ?_ GE352.out) | exact HB.out)) hb)
            clear BK351
            clear BK352
            clear HB
            have BK351 := n0_
            have BK352 := n1_
            have HB := n2_
            clear n0_ n1_ n2_
            (try clear hb)
            (try clear hb2)
            (try clear hk)
            (try clear hi)
            refine hK.out _ _ ⟨(blk_cell BK352.out 0).trans rfl, (blk_cell BK352.out 1).trans rfl, (blk_cell BK352.out 2).trans rfl, (blk_cell BK352.out 3).trans rfl, ((HB.out.cell (World.block_lt_of_cell? w _ hw353_0)).trans hw353_0), ((HB.out.cell (World.block_lt_of_cell? w _ hw353_1)).trans hw353_1), ((HB.out.cell (World.block_lt_of_cell? w _ hw353_2)).trans hw353_2)⟩ (fun hHeld => ?_)
            clear hK K
            refine norm_ (a' := ?_) ?_ ?_
            rotate_left
            · show Act.put _ (some 21) _ = _
              simp only [Act.put, List.setIfInBounds_toArray, List.set_cons_zero, List.set_cons_succ, i64_w, i32_w]
              rfl
            refine last_ (i := 6) (N := none) #[true, true, true, true, true, true, true] rfl rfl (by kernel_rfl) (by decide) (fun K hK => ?_)
            have hs12 : w11.cell? ⟨gb352, 0, none⟩ = some (.bool x353000_1) := (blk_cell BK352.out 0).trans rfl
            have hfs12 := blk_frozen BK352.out 0
            have hns12_0 := NB351_352.out
            have hms12_0 := NB352_351.out
            have hs13 : w11.cell? ⟨gb352, 1, none⟩ = some (.bool x353001_1) := (blk_cell BK352.out 1).trans rfl
            have hfs13 := blk_frozen BK352.out 1
            have hns13_0 := NB351_352.out
            have hms13_0 := NB352_351.out
            have hs14 : w11.cell? ⟨gb352, 2, none⟩ = some (.int .i64 x353002_1) := (blk_cell BK352.out 2).trans rfl
            have hfs14 := blk_frozen BK352.out 2
            have hns14_0 := NB351_352.out
            have hms14_0 := NB352_351.out
            have hs15 : w11.cell? ⟨gb352, 3, none⟩ = some (.bool x353003_1) := (blk_cell BK352.out 3).trans rfl
            have hfs15 := blk_frozen BK352.out 3
            have hns15_0 := NB351_352.out
            have hms15_0 := NB352_351.out
            refine skip_ (w1 := ?_) (by rfl) rfl ?_ ?_
            rotate_left
            · go_simp
              rfl
            refine hK.out _ _ ?_
            clear hK K
            refine done_ (by kernel_rfl) ?_
            try go_wp2
            go_roundg k1
            case measure => have := HK1.out; omega
            case rel => exact ⟨(wrap64 (x4_1 + 1)), (t354), (t355), (t356), (t357), (by first | rfl | (simp; done) | (simp [*]; done)), H', ⟨by have := HK1.out; omega⟩, ⟨by (with_reducible repeat (first | refine blk_drewN ?_ _ | refine blk_drew ?_ | refine blk_alloc ?_ _)); refine blk_far ?_ NB351_352.out _; (with_reducible repeat (first | refine blk_drewN ?_ _ | refine blk_drew ?_ | refine blk_alloc ?_ _)); refine blk_far ?_ NB351_352.out _; (with_reducible repeat (first | refine blk_drewN ?_ _ | refine blk_drew ?_ | refine blk_alloc ?_ _)); refine blk_far ?_ NB351_352.out _; (with_reducible repeat (first | refine blk_drewN ?_ _ | refine blk_drew ?_ | refine blk_alloc ?_ _)); refine blk_far ?_ NB351_352.out _; (with_reducible repeat (first | refine blk_drewN ?_ _ | refine blk_drew ?_ | refine blk_alloc ?_ _)); exact BK351.out⟩, ⟨by (with_reducible repeat (first | refine blk_drewN ?_ _ | refine blk_drew ?_ | refine blk_alloc ?_ _)); refine blk_put (cs := #[.bool t354, .bool t355, .int .i64 t356, .bool x353003_1]) ?_ 3 _ rfl; (with_reducible repeat (first | refine blk_drewN ?_ _ | refine blk_drew ?_ | refine blk_alloc ?_ _)); refine blk_put (cs := #[.bool t354, .bool t355, .int .i64 x353002_1, .bool x353003_1]) ?_ 2 _ rfl; (with_reducible repeat (first | refine blk_drewN ?_ _ | refine blk_drew ?_ | refine blk_alloc ?_ _)); refine blk_put (cs := #[.bool t354, .bool x353001_1, .int .i64 x353002_1, .bool x353003_1]) ?_ 1 _ rfl; (with_reducible repeat (first | refine blk_drewN ?_ _ | refine blk_drew ?_ | refine blk_alloc ?_ _)); refine blk_put (cs := #[.bool x353000_1, .bool x353001_1, .int .i64 x353002_1, .bool x353003_1]) ?_ 0 _ rfl; (with_reducible repeat (first | refine blk_drewN ?_ _ | refine blk_drew ?_ | refine blk_alloc ?_ _)); exact BK352.out⟩, ⟨by repeat (first | (with_reducible first | exact HB.out | apply below_alloc | apply pw_below_drewN | apply below_drew1 | refine below_set ?_ GE351.out | refine below_set ?_ GE352.out) | exact HB.out)⟩⟩
          · rw [if_neg c8] at H
            exact absurd H (by simp)
        · rw [if_neg c7] at H
          have c7b0 : decide (x4_1 < 300) = false := decide_eq_false c7
          clear c7
          simp only [Option.some.injEq, Prod.mk.injEq] at H
          obtain ⟨rfl, rfl, rfl, rfl⟩ := H
          have hnb16 := NB352_351.out
          have hnc16 := NB351_352.out
          have hcz17_0 : wr.cell? ⟨gb352, 0, none⟩ = some (.bool x353000_1) := (blk_cell BK352.out 0).trans rfl
          have hcz17_1 : wr.cell? ⟨gb352, 1, none⟩ = some (.bool x353001_1) := (blk_cell BK352.out 1).trans rfl
          have hcz17_2 : wr.cell? ⟨gb352, 2, none⟩ = some (.int .i64 x353002_1) := (blk_cell BK352.out 2).trans rfl
          have hcz17_3 : wr.cell? ⟨gb352, 3, none⟩ = some (.bool x353003_1) := (blk_cell BK352.out 3).trans rfl
          have hfz17_0 := blk_frozen BK352.out 0
          have hfz17_1 := blk_frozen BK352.out 1
          have hfz17_2 := blk_frozen BK352.out 2
          have hfz17_3 := blk_frozen BK352.out 3
          have hcz18_0 : wr.cell? ⟨gb351, 0, none⟩ = some (.bool false) := (blk_cell BK351.out 0).trans rfl
          have hcz18_1 : wr.cell? ⟨gb351, 1, none⟩ = some (.bool false) := (blk_cell BK351.out 1).trans rfl
          have hcz18_2 : wr.cell? ⟨gb351, 2, none⟩ = some (.int .i64 0) := (blk_cell BK351.out 2).trans rfl
          have hcz18_3 : wr.cell? ⟨gb351, 3, none⟩ = some (.bool false) := (blk_cell BK351.out 3).trans rfl
          have hfz18_0 := blk_frozen BK351.out 0
          have hfz18_1 := blk_frozen BK351.out 1
          have hfz18_2 := blk_frozen BK351.out 2
          have hfz18_3 := blk_frozen BK351.out 3
          go_wp2
          refine bodyPost_ret (results_cell_row rfl _ _ gb351 44 #[.bool x353000_1, .bool x353001_1, .int .i64 x353002_1, .bool x353003_1] (0, 0) _ rfl (by (with_reducible repeat (first | refine blk_drewN ?_ _ | refine blk_drew ?_ | refine blk_alloc ?_ _)); refine blk_put (cs := #[.bool x353000_1, .bool x353001_1, .int .i64 x353002_1, .bool false]) ?_ 3 _ rfl; (with_reducible repeat (first | refine blk_drewN ?_ _ | refine blk_drew ?_ | refine blk_alloc ?_ _)); refine blk_put (cs := #[.bool x353000_1, .bool x353001_1, .int .i64 0, .bool false]) ?_ 2 _ rfl; (with_reducible repeat (first | refine blk_drewN ?_ _ | refine blk_drew ?_ | refine blk_alloc ?_ _)); refine blk_put (cs := #[.bool x353000_1, .bool false, .int .i64 0, .bool false]) ?_ 1 _ rfl; (with_reducible repeat (first | refine blk_drewN ?_ _ | refine blk_drew ?_ | refine blk_alloc ?_ _)); refine blk_put (cs := #[.bool false, .bool false, .int .i64 0, .bool false]) ?_ 0 _ rfl; (with_reducible repeat (first | refine blk_drewN ?_ _ | refine blk_drew ?_ | refine blk_alloc ?_ _)); exact BK351.out) Try.underlying44 rfl (by kernel_rfl)) rfl ?_
          exact ⟨by first | rfl | (simp [errW_none, errW_some] <;> rfl) | (simp [*, errW_none, errW_some] <;> rfl), by repeat (first | (with_reducible first | exact HB.out | apply below_alloc | apply pw_below_drewN | apply below_drew1 | refine below_set ?_ GE351.out | refine below_set ?_ GE352.out) | exact HB.out)⟩
      · rw [if_neg c6] at H
        have c6b0 : decide (x4_1 < (l0.length : Int)) = false := decide_eq_false c6
        clear c6
        simp only [Option.some.injEq, Prod.mk.injEq] at H
        obtain ⟨rfl, rfl, rfl, rfl⟩ := H
        have hnb19 := NB352_351.out
        have hnc19 := NB351_352.out
        have hcz20_0 : wr.cell? ⟨gb352, 0, none⟩ = some (.bool x353000_1) := (blk_cell BK352.out 0).trans rfl
        have hcz20_1 : wr.cell? ⟨gb352, 1, none⟩ = some (.bool x353001_1) := (blk_cell BK352.out 1).trans rfl
        have hcz20_2 : wr.cell? ⟨gb352, 2, none⟩ = some (.int .i64 x353002_1) := (blk_cell BK352.out 2).trans rfl
        have hcz20_3 : wr.cell? ⟨gb352, 3, none⟩ = some (.bool x353003_1) := (blk_cell BK352.out 3).trans rfl
        have hfz20_0 := blk_frozen BK352.out 0
        have hfz20_1 := blk_frozen BK352.out 1
        have hfz20_2 := blk_frozen BK352.out 2
        have hfz20_3 := blk_frozen BK352.out 3
        have hcz21_0 : wr.cell? ⟨gb351, 0, none⟩ = some (.bool false) := (blk_cell BK351.out 0).trans rfl
        have hcz21_1 : wr.cell? ⟨gb351, 1, none⟩ = some (.bool false) := (blk_cell BK351.out 1).trans rfl
        have hcz21_2 : wr.cell? ⟨gb351, 2, none⟩ = some (.int .i64 0) := (blk_cell BK351.out 2).trans rfl
        have hcz21_3 : wr.cell? ⟨gb351, 3, none⟩ = some (.bool false) := (blk_cell BK351.out 3).trans rfl
        have hfz21_0 := blk_frozen BK351.out 0
        have hfz21_1 := blk_frozen BK351.out 1
        have hfz21_2 := blk_frozen BK351.out 2
        have hfz21_3 := blk_frozen BK351.out 3
        go_wp2
        refine bodyPost_ret (results_cell_row rfl _ _ gb351 44 #[.bool x353000_1, .bool x353001_1, .int .i64 x353002_1, .bool x353003_1] (0, 0) _ rfl (by (with_reducible repeat (first | refine blk_drewN ?_ _ | refine blk_drew ?_ | refine blk_alloc ?_ _)); refine blk_put (cs := #[.bool x353000_1, .bool x353001_1, .int .i64 x353002_1, .bool false]) ?_ 3 _ rfl; (with_reducible repeat (first | refine blk_drewN ?_ _ | refine blk_drew ?_ | refine blk_alloc ?_ _)); refine blk_put (cs := #[.bool x353000_1, .bool x353001_1, .int .i64 0, .bool false]) ?_ 2 _ rfl; (with_reducible repeat (first | refine blk_drewN ?_ _ | refine blk_drew ?_ | refine blk_alloc ?_ _)); refine blk_put (cs := #[.bool x353000_1, .bool false, .int .i64 0, .bool false]) ?_ 1 _ rfl; (with_reducible repeat (first | refine blk_drewN ?_ _ | refine blk_drew ?_ | refine blk_alloc ?_ _)); refine blk_put (cs := #[.bool false, .bool false, .int .i64 0, .bool false]) ?_ 0 _ rfl; (with_reducible repeat (first | refine blk_drewN ?_ _ | refine blk_drew ?_ | refine blk_alloc ?_ _)); exact BK351.out) Try.underlying44 rfl (by kernel_rfl)) rfl ?_
        exact ⟨by first | rfl | (simp [errW_none, errW_some] <;> rfl) | (simp [*, errW_none, errW_some] <;> rfl), by repeat (first | (with_reducible first | exact HB.out | apply below_alloc | apply pw_below_drewN | apply below_drew1 | refine below_set ?_ GE351.out | refine below_set ?_ GE352.out) | exact HB.out)⟩

/-! ### ambidexterlaw26_DualchannelSafe: function 12 -/
def ambidexterlaw26_DualchannelSafe.j0 : Nat → Bool → Bool → Int → Bool → Bool → Bool → Bool → Int → Bool → Bool → Bool → Int → Bool → Option (Bool)
  | 0, _, _, _, _, _, _, _, _, _, _, _, _, _ => none
  | k + 1, x5, x29, x359000, x359001, x359002, x365000, x365001, x365002, x365003, x370000, x370001, x370002, x370003 => if x29 = true then (some false) else (if x365003 = true then ((dualchannel_Closed.f x370000 x370001 x370002 x370003).bind fun t371 => (if t371 = true then (if x5 = true then (if (Int.tmod x359000 8) = 0 then (if x365000 = true then (some x365001) else (some false)) else (some false)) else (some false)) else (if x5 = true then (if x370003 = true then (some true) else (if (Int.tmod x359000 8) = 0 then (some (x365000 == x365001)) else (some false))) else (some false)))) else (if x5 = true then (some true) else (some false)))
def ambidexterlaw26_DualchannelSafe.f (k : Nat) (l0 : List (S47)) (a1_0 : Int) (a1_1 : Bool) (a1_2 : Bool) : Option (Bool) := (ambidexterlaw26_head.f k).bind fun t359 => ((ambidexterlaw26_Made.f k l0).bind fun bt360 => ((ambidexterlaw26_step.f bt360.1 bt360.2.1 bt360.2.2.1 bt360.2.2.2 a1_0 a1_1 a1_2).bind fun bt365 => ((dualchannel_Closed.f bt365.1 bt365.2.1 bt365.2.2.1 bt365.2.2.2).bind fun t370 => (if t370 = true then (if bt365.1 = true then (if bt365.2.1 = true then (ambidexterlaw26_DualchannelSafe.j0 k t359 bt365.2.2.2 a1_0 a1_1 a1_2 bt360.1 bt360.2.1 bt360.2.2.1 bt360.2.2.2 bt365.1 bt365.2.1 bt365.2.2.1 bt365.2.2.2) else (ambidexterlaw26_DualchannelSafe.j0 k t359 true a1_0 a1_1 a1_2 bt360.1 bt360.2.1 bt360.2.2.1 bt360.2.2.2 bt365.1 bt365.2.1 bt365.2.2.1 bt365.2.2.2)) else (ambidexterlaw26_DualchannelSafe.j0 k t359 true a1_0 a1_1 a1_2 bt360.1 bt360.2.1 bt360.2.2.1 bt360.2.2.2 bt365.1 bt365.2.1 bt365.2.2.1 bt365.2.2.2)) else (ambidexterlaw26_DualchannelSafe.j0 k t359 false a1_0 a1_1 a1_2 bt360.1 bt360.2.1 bt360.2.2.1 bt360.2.2.2 bt365.1 bt365.2.1 bt365.2.2.1 bt365.2.2.2)))))
theorem ambidexterlaw26_DualchannelSafe.mono_l : ∀ k, (∀ y0 y1 y2 y3 y4 y5 y6 y7 y8 y9 y10 y11 y12, LeO (ambidexterlaw26_DualchannelSafe.j0 k y0 y1 y2 y3 y4 y5 y6 y7 y8 y9 y10 y11 y12) (ambidexterlaw26_DualchannelSafe.j0 (k + 1) y0 y1 y2 y3 y4 y5 y6 y7 y8 y9 y10 y11 y12))
  | 0 => fun _ _ _ _ _ _ _ _ _ _ _ _ _ r h => by simp [ambidexterlaw26_DualchannelSafe.j0] at h
  | k + 1 => by
    have ih0 := ambidexterlaw26_DualchannelSafe.mono_l k
    · intro y0 y1 y2 y3 y4 y5 y6 y7 y8 y9 y10 y11 y12
      unfold ambidexterlaw26_DualchannelSafe.j0
      repeat' first
      | (with_reducible exact ih0 _ _ _ _ _ _ _ _ _ _ _ _ _)
      | (with_reducible exact ambidexterlaw26_Made.mono _ _)
      | (with_reducible exact ambidexterlaw26_head.mono _)
      | (with_reducible exact LeO.refl _)
      | (with_reducible exact LeO.none _)
      | (with_reducible refine LeO.ite ?_ ?_)
      | (with_reducible refine LeO.bind ?_ (fun _ => ?_))
      | exact ih0 _ _ _ _ _ _ _ _ _ _ _ _ _
      | exact ambidexterlaw26_Made.mono _ _
      | exact ambidexterlaw26_head.mono _
      | exact LeO.none _
      | refine LeO.ite ?_ ?_
      | refine LeO.bind ?_ (fun _ => ?_)
theorem ambidexterlaw26_DualchannelSafe.mono : ∀ a0 a1 a2 a3 k, LeO (ambidexterlaw26_DualchannelSafe.f k a0 a1 a2 a3) (ambidexterlaw26_DualchannelSafe.f (k + 1) a0 a1 a2 a3) := by
  intro a0 a1 a2 a3 k
  have ih0 := ambidexterlaw26_DualchannelSafe.mono_l k
  unfold ambidexterlaw26_DualchannelSafe.f
  repeat' first
      | (with_reducible exact ih0 _ _ _ _ _ _ _ _ _ _ _ _ _)
      | (with_reducible exact ambidexterlaw26_Made.mono _ _)
      | (with_reducible exact ambidexterlaw26_head.mono _)
      | (with_reducible exact LeO.refl _)
      | (with_reducible exact LeO.none _)
      | (with_reducible refine LeO.ite ?_ ?_)
      | (with_reducible refine LeO.bind ?_ (fun _ => ?_))
      | exact ih0 _ _ _ _ _ _ _ _ _ _ _ _ _
      | exact ambidexterlaw26_Made.mono _ _
      | exact ambidexterlaw26_head.mono _
      | exact LeO.none _
      | refine LeO.ite ?_ ?_
      | refine LeO.bind ?_ (fun _ => ?_)
set_option maxHeartbeats 8000000 in
set_option maxRecDepth 100000 in
theorem ambidexterlaw26_DualchannelSafe.calls0 (k : Nat) (A0 : Option Addr) (c0 : Nat) (l0 : List (S47)) (a1_0 : Int) (a1_1 : Bool) (a1_2 : Bool) (r : Bool) (w : World) (hr0 : Kd.C k47 w A0 l0.length l0) (hc0 : l0.length ≤ c0) (h : ambidexterlaw26_DualchannelSafe.f k l0 a1_0 a1_1 a1_2 = some r) (hT : r = true) :
    Calls Try.prog 12 #[.slice A0 l0.length c0, .agg #[.int .u8 a1_0, .bool a1_1, .bool a1_2]] w fun e w' => e = .returned (.bool r) ∧ Below w.heap.size w w' := by
  have hu47 := Try.underlying47
  have hu44 := Try.underlying44
  have HR0 := Aside0.mk hr0
  have HC0 := Aside0.mk hc0
  clear hr0 hc0
  have HB := Aside0.mk (Below.refl w.heap.size w)
  have H : ((ambidexterlaw26_head.f k).bind fun t359 => ((ambidexterlaw26_Made.f k l0).bind fun bt360 => ((ambidexterlaw26_step.f bt360.1 bt360.2.1 bt360.2.2.1 bt360.2.2.2 a1_0 a1_1 a1_2).bind fun bt365 => ((dualchannel_Closed.f bt365.1 bt365.2.1 bt365.2.2.1 bt365.2.2.2).bind fun t370 => (if t370 = true then (if bt365.1 = true then (if bt365.2.1 = true then (ambidexterlaw26_DualchannelSafe.j0 k t359 bt365.2.2.2 a1_0 a1_1 a1_2 bt360.1 bt360.2.1 bt360.2.2.1 bt360.2.2.2 bt365.1 bt365.2.1 bt365.2.2.1 bt365.2.2.2) else (ambidexterlaw26_DualchannelSafe.j0 k t359 true a1_0 a1_1 a1_2 bt360.1 bt360.2.1 bt360.2.2.1 bt360.2.2.2 bt365.1 bt365.2.1 bt365.2.2.1 bt365.2.2.2)) else (ambidexterlaw26_DualchannelSafe.j0 k t359 true a1_0 a1_1 a1_2 bt360.1 bt360.2.1 bt360.2.2.1 bt360.2.2.2 bt365.1 bt365.2.1 bt365.2.2.1 bt365.2.2.2)) else (ambidexterlaw26_DualchannelSafe.j0 k t359 false a1_0 a1_1 a1_2 bt360.1 bt360.2.1 bt360.2.2.1 bt360.2.2.2 bt365.1 bt365.2.1 bt365.2.2.1 bt365.2.2.2)))))) = some r := h
  clear h
  have HT := Aside0.mk hT
  clear hT
  replace H := Option.bind_eq_some_iff.mp H
  obtain ⟨t359, A30, H⟩ := H
  obtain rfl := ambidexterlaw26_head.is_true k A30
  replace H : ((ambidexterlaw26_Made.f k l0).bind fun bt360 => ((ambidexterlaw26_step.f bt360.1 bt360.2.1 bt360.2.2.1 bt360.2.2.2 a1_0 a1_1 a1_2).bind fun bt365 => ((dualchannel_Closed.f bt365.1 bt365.2.1 bt365.2.2.1 bt365.2.2.2).bind fun t370 => (if t370 = true then (if bt365.1 = true then (if bt365.2.1 = true then (ambidexterlaw26_DualchannelSafe.j0 k true bt365.2.2.2 a1_0 a1_1 a1_2 bt360.1 bt360.2.1 bt360.2.2.1 bt360.2.2.2 bt365.1 bt365.2.1 bt365.2.2.1 bt365.2.2.2) else (ambidexterlaw26_DualchannelSafe.j0 k true true a1_0 a1_1 a1_2 bt360.1 bt360.2.1 bt360.2.2.1 bt360.2.2.2 bt365.1 bt365.2.1 bt365.2.2.1 bt365.2.2.2)) else (ambidexterlaw26_DualchannelSafe.j0 k true true a1_0 a1_1 a1_2 bt360.1 bt360.2.1 bt360.2.2.1 bt360.2.2.2 bt365.1 bt365.2.1 bt365.2.2.1 bt365.2.2.2)) else (ambidexterlaw26_DualchannelSafe.j0 k true false a1_0 a1_1 a1_2 bt360.1 bt360.2.1 bt360.2.2.1 bt360.2.2.2 bt365.1 bt365.2.1 bt365.2.2.1 bt365.2.2.2))))) = some r := H
  have A3 := Aside0.mk A30
  clear A30
  replace H := Option.bind_eq_some_iff.mp H
  obtain ⟨⟨t360, t361, t362, t363⟩, A40, H⟩ := H
  replace H : ((ambidexterlaw26_step.f t360 t361 t362 t363 a1_0 a1_1 a1_2).bind fun bt365 => ((dualchannel_Closed.f bt365.1 bt365.2.1 bt365.2.2.1 bt365.2.2.2).bind fun t370 => (if t370 = true then (if bt365.1 = true then (if bt365.2.1 = true then (ambidexterlaw26_DualchannelSafe.j0 k true bt365.2.2.2 a1_0 a1_1 a1_2 t360 t361 t362 t363 bt365.1 bt365.2.1 bt365.2.2.1 bt365.2.2.2) else (ambidexterlaw26_DualchannelSafe.j0 k true true a1_0 a1_1 a1_2 t360 t361 t362 t363 bt365.1 bt365.2.1 bt365.2.2.1 bt365.2.2.2)) else (ambidexterlaw26_DualchannelSafe.j0 k true true a1_0 a1_1 a1_2 t360 t361 t362 t363 bt365.1 bt365.2.1 bt365.2.2.1 bt365.2.2.2)) else (ambidexterlaw26_DualchannelSafe.j0 k true false a1_0 a1_1 a1_2 t360 t361 t362 t363 bt365.1 bt365.2.1 bt365.2.2.1 bt365.2.2.2)))) = some r := H
  have A4 := Aside0.mk A40
  clear A40
  replace H := Option.bind_eq_some_iff.mp H
  obtain ⟨⟨t365, t366, t367, t368⟩, A50, H⟩ := H
  replace H : ((dualchannel_Closed.f t365 t366 t367 t368).bind fun t370 => (if t370 = true then (if t365 = true then (if t366 = true then (ambidexterlaw26_DualchannelSafe.j0 k true t368 a1_0 a1_1 a1_2 t360 t361 t362 t363 t365 t366 t367 t368) else (ambidexterlaw26_DualchannelSafe.j0 k true true a1_0 a1_1 a1_2 t360 t361 t362 t363 t365 t366 t367 t368)) else (ambidexterlaw26_DualchannelSafe.j0 k true true a1_0 a1_1 a1_2 t360 t361 t362 t363 t365 t366 t367 t368)) else (ambidexterlaw26_DualchannelSafe.j0 k true false a1_0 a1_1 a1_2 t360 t361 t362 t363 t365 t366 t367 t368))) = some r := H
  have A5 := Aside0.mk A50
  clear A50
  have HC6 := Aside0.mk H
  clear H
  go_enter Try.func12, Try.ntmps12
  go_upto_region 4 with (first | ((with_reducible refine gate_dst (N := 3) rfl ?_); refine box_event ?hg (N := 3) ?hd (cs := #[.int .u8 a1_0, .bool a1_1, .bool a1_2]) (t := 47) ?hr ?_; (case hd => rfl); (case hg => rfl); (case hr => first | (go_simp; done) | (go_simp; rfl)); intro gb358 hg w7 hbox hb; have n0_ := Aside0.mk (below_step (by repeat (first | (with_reducible first | exact HB.out | apply below_alloc | apply pw_below_drewN | apply below_drew1) | exact HB.out)) hb); have n1_ := Aside0.mk (hbox); have n2_ := Aside0.mk ((by rw [hg]; exact (below_size (by repeat (first | (with_reducible first | exact HB.out | apply below_alloc | apply pw_below_drewN | apply below_drew1) | exact HB.out))) : w.heap.size ≤ gb358)); have n3_ := Aside0.mk ((by rw [hg]; exact (below_size (by repeat (first | (with_reducible first | exact HB.out | apply below_alloc | apply pw_below_drewN | apply below_drew1) | exact HB.out))) : w.heap.size ≤ gb358)); clear HB; have HB := n0_; have BK358 := n1_; have GW358 := n2_; have GE358 := n3_; clear n0_ n1_ n2_ n3_; clear hb hbox hg) | ((with_reducible refine gate_callee (f := 27) rfl ?_); refine goesL_ (some 8) rfl rfl Try.func27 (by kernel_rfl) rfl #[] rfl (by (try simp only [List.map_toArray, List.map_cons, List.map_nil]); first | done | rfl | (simp only [List.length_drop, List.length_take]; rfl)) ?_; (with_reducible refine (ambidexterlaw26_head.calls k  true _ A3.out).mono ?_); rintro e w8 ⟨rfl, hb⟩; refine ⟨_, rfl, ?_⟩; have n0_ := Aside0.mk (blk_below (g := gb358) (o := .cells #[.int .u8 a1_0, .bool a1_1, .bool a1_2] 47 (0, 0)) (by (with_reducible repeat (first | refine blk_drewN ?_ _ | refine blk_drew ?_ | refine blk_alloc ?_ _)); exact BK358.out) hb); have n1_ := Aside0.mk (below_step (by repeat (first | (with_reducible first | exact HB.out | apply below_alloc | apply pw_below_drewN | apply below_drew1 | refine below_set ?_ GE358.out) | exact HB.out)) hb); clear BK358; clear HB; have BK358 := n0_; have HB := n1_; clear n0_ n1_; (try clear hb); (try clear hb2); (try clear hk); (try clear hi)) | ((with_reducible refine gate_callee (f := 33) rfl ?_); refine goesL_ (some 10) rfl rfl Try.func33 (by kernel_rfl) rfl #[.slice A0 l0.length c0] rfl (by (try simp only [List.map_toArray, List.map_cons, List.map_nil]); first | done | rfl | (simp only [List.length_drop, List.length_take]; rfl)) ?_; (with_reducible refine (ambidexterlaw26_Made.calls k _ _ l0 t360 t361 t362 t363 _ ?side1 ?side2 A4.out).mono ?_); (case side1 => repeat (first | exact (Kd.C_below HR0.out HB.out) | (with_reducible refine Kd.C_alloc ?_ _) | (with_reducible refine Kd.C_drewN ?_ _) | (with_reducible refine Kd.C_drew ?_))); (case side2 => exact HC0.out); rintro e w9 ⟨rfl, hb⟩; refine ⟨_, rfl, ?_⟩; have n0_ := Aside0.mk (blk_below (g := gb358) (o := .cells #[.int .u8 a1_0, .bool a1_1, .bool a1_2] 47 (0, 0)) (by (with_reducible repeat (first | refine blk_drewN ?_ _ | refine blk_drew ?_ | refine blk_alloc ?_ _)); exact BK358.out) hb); have n1_ := Aside0.mk (below_step (by repeat (first | (with_reducible first | exact HB.out | apply below_alloc | apply pw_below_drewN | apply below_drew1 | refine below_set ?_ GE358.out) | exact HB.out)) hb); clear BK358; clear HB; have BK358 := n0_; have HB := n1_; clear n0_ n1_; (try clear hb); (try clear hb2); (try clear hk); (try clear hi)) | ((with_reducible refine gate_dst (N := 6) rfl ?_); refine box_event ?hg (N := 6) ?hd (cs := #[.bool false, .bool false, .int .i64 0, .bool false]) (t := 44) ?hr ?_; (case hd => rfl); (case hg => rfl); (case hr => first | (go_simp; done) | (go_simp; rfl)); intro gb364 hg w10 hbox hb; have n0_ := Aside0.mk (blk_below (g := gb358) (o := .cells #[.int .u8 a1_0, .bool a1_1, .bool a1_2] 47 (0, 0)) (by (with_reducible repeat (first | refine blk_drewN ?_ _ | refine blk_drew ?_ | refine blk_alloc ?_ _)); exact BK358.out) hb); have n1_ := Aside0.mk (below_step (by repeat (first | (with_reducible first | exact HB.out | apply below_alloc | apply pw_below_drewN | apply below_drew1 | refine below_set ?_ GE358.out) | exact HB.out)) hb); have n2_ := Aside0.mk (hbox); have n3_ := Aside0.mk ((by rw [hg]; exact (below_size (by repeat (first | (with_reducible first | exact HB.out | apply below_alloc | apply pw_below_drewN | apply below_drew1 | refine below_set ?_ GE358.out) | exact HB.out))) : w.heap.size ≤ gb364)); have n4_ := Aside0.mk ((by rw [hg]; exact (below_size (by repeat (first | (with_reducible first | exact HB.out | apply below_alloc | apply pw_below_drewN | apply below_drew1 | refine below_set ?_ GE358.out) | exact HB.out))) : w.heap.size ≤ gb364)); have n5_ := Aside0.mk ((by rw [hg]; exact Nat.ne_of_lt (blk_lt (g := gb358) (o := .cells #[.int .u8 a1_0, .bool a1_1, .bool a1_2] 47 (0, 0)) (by (with_reducible repeat (first | refine blk_drewN ?_ _ | refine blk_drew ?_ | refine blk_alloc ?_ _)); exact BK358.out)) : gb358 ≠ gb364)); have n6_ := Aside0.mk ((by rw [hg]; exact Nat.ne_of_gt (blk_lt (g := gb358) (o := .cells #[.int .u8 a1_0, .bool a1_1, .bool a1_2] 47 (0, 0)) (by (with_reducible repeat (first | refine blk_drewN ?_ _ | refine blk_drew ?_ | refine blk_alloc ?_ _)); exact BK358.out)) : gb364 ≠ gb358)); clear BK358; clear HB; have BK358 := n0_; have HB := n1_; have BK364 := n2_; have GW364 := n3_; have GE364 := n4_; have NB358_364 := n5_; have NB364_358 := n6_; clear n0_ n1_ n2_ n3_ n4_ n5_ n6_; clear hb hbox hg; have hnb11 := NB364_358.out; have hnc11 := NB358_364.out; have hcz12_0 : w10.cell? ⟨gb364, 0, none⟩ = some (.bool false) := (blk_cell BK364.out 0).trans rfl; have hcz12_1 : w10.cell? ⟨gb364, 1, none⟩ = some (.bool false) := (blk_cell BK364.out 1).trans rfl; have hcz12_2 : w10.cell? ⟨gb364, 2, none⟩ = some (.int .i64 0) := (blk_cell BK364.out 2).trans rfl; have hcz12_3 : w10.cell? ⟨gb364, 3, none⟩ = some (.bool false) := (blk_cell BK364.out 3).trans rfl; have hfz12_0 := blk_frozen BK364.out 0; have hfz12_1 := blk_frozen BK364.out 1; have hfz12_2 := blk_frozen BK364.out 2; have hfz12_3 := blk_frozen BK364.out 3; have hcz13_0 : w10.cell? ⟨gb358, 0, none⟩ = some (.int .u8 a1_0) := (blk_cell BK358.out 0).trans rfl; have hcz13_1 : w10.cell? ⟨gb358, 1, none⟩ = some (.bool a1_1) := (blk_cell BK358.out 1).trans rfl; have hcz13_2 : w10.cell? ⟨gb358, 2, none⟩ = some (.bool a1_2) := (blk_cell BK358.out 2).trans rfl; have hfz13_0 := blk_frozen BK358.out 0; have hfz13_1 := blk_frozen BK358.out 1; have hfz13_2 := blk_frozen BK358.out 2) | ((with_reducible refine gate_callee (f := 28) rfl ?_); refine goesL_ (some 13) rfl rfl Try.func28 (by kernel_rfl) rfl #[.agg #[.bool t360, .bool t361, .int .i64 t362, .bool t363], .agg #[.int .u8 a1_0, .bool a1_1, .bool a1_2]] rfl (by (try simp only [List.map_toArray, List.map_cons, List.map_nil]); first | done | rfl | (simp only [List.length_drop, List.length_take]; rfl)) ?_; (with_reducible refine (ambidexterlaw26_step.calls t360 t361 t362 t363 a1_0 a1_1 a1_2 t365 t366 t367 t368 _ A5.out).mono ?_); rintro e w14 ⟨rfl, hb⟩; refine ⟨_, rfl, ?_⟩; have n0_ := Aside0.mk (blk_below (g := gb358) (o := .cells #[.int .u8 a1_0, .bool a1_1, .bool a1_2] 47 (0, 0)) (by (with_reducible repeat (first | refine blk_drewN ?_ _ | refine blk_drew ?_ | refine blk_alloc ?_ _)); refine blk_far ?_ NB358_364.out _; (with_reducible repeat (first | refine blk_drewN ?_ _ | refine blk_drew ?_ | refine blk_alloc ?_ _)); refine blk_far ?_ NB358_364.out _; (with_reducible repeat (first | refine blk_drewN ?_ _ | refine blk_drew ?_ | refine blk_alloc ?_ _)); refine blk_far ?_ NB358_364.out _; (with_reducible repeat (first | refine blk_drewN ?_ _ | refine blk_drew ?_ | refine blk_alloc ?_ _)); refine blk_far ?_ NB358_364.out _; (with_reducible repeat (first | refine blk_drewN ?_ _ | refine blk_drew ?_ | refine blk_alloc ?_ _)); exact BK358.out) hb); have n1_ := Aside0.mk (blk_below (g := gb364) (o := .cells #[.bool t360, .bool t361, .int .i64 t362, .bool t363] 44 (0, 0)) (by (with_reducible repeat (first | refine blk_drewN ?_ _ | refine blk_drew ?_ | refine blk_alloc ?_ _)); refine blk_put (cs := #[.bool t360, .bool t361, .int .i64 t362, .bool false]) ?_ 3 _ rfl; (with_reducible repeat (first | refine blk_drewN ?_ _ | refine blk_drew ?_ | refine blk_alloc ?_ _)); refine blk_put (cs := #[.bool t360, .bool t361, .int .i64 0, .bool false]) ?_ 2 _ rfl; (with_reducible repeat (first | refine blk_drewN ?_ _ | refine blk_drew ?_ | refine blk_alloc ?_ _)); refine blk_put (cs := #[.bool t360, .bool false, .int .i64 0, .bool false]) ?_ 1 _ rfl; (with_reducible repeat (first | refine blk_drewN ?_ _ | refine blk_drew ?_ | refine blk_alloc ?_ _)); refine blk_put (cs := #[.bool false, .bool false, .int .i64 0, .bool false]) ?_ 0 _ rfl; (with_reducible repeat (first | refine blk_drewN ?_ _ | refine blk_drew ?_ | refine blk_alloc ?_ _)); exact BK364.out) hb); have n2_ := Aside0.mk (below_step (by repeat (first | (with_reducible first | exact HB.out | apply below_alloc | apply pw_below_drewN | apply below_drew1 | refine below_set ?_ GE358.out | refine below_set ?_ GE364.out) | exact HB.out)) hb); clear BK358; clear BK364; clear HB; have BK358 := n0_; have BK364 := n1_; have HB := n2_; clear n0_ n1_ n2_; (try clear hb); (try clear hb2); (try clear hk); (try clear hi)) | ((with_reducible refine gate_dst (N := 7) rfl ?_); refine box_event ?hg (N := 7) ?hd (cs := #[.bool false, .bool false, .int .i64 0, .bool false]) (t := 44) ?hr ?_; (case hd => rfl); (case hg => rfl); (case hr => first | (go_simp; done) | (go_simp; rfl)); intro gb369 hg w15 hbox hb; have n0_ := Aside0.mk (blk_below (g := gb358) (o := .cells #[.int .u8 a1_0, .bool a1_1, .bool a1_2] 47 (0, 0)) (by (with_reducible repeat (first | refine blk_drewN ?_ _ | refine blk_drew ?_ | refine blk_alloc ?_ _)); exact BK358.out) hb); have n1_ := Aside0.mk (blk_below (g := gb364) (o := .cells #[.bool t360, .bool t361, .int .i64 t362, .bool t363] 44 (0, 0)) (by (with_reducible repeat (first | refine blk_drewN ?_ _ | refine blk_drew ?_ | refine blk_alloc ?_ _)); exact BK364.out) hb); have n2_ := Aside0.mk (below_step (by repeat (first | (with_reducible first | exact HB.out | apply below_alloc | apply pw_below_drewN | apply below_drew1 | refine below_set ?_ GE358.out | refine below_set ?_ GE364.out) | exact HB.out)) hb); have n3_ := Aside0.mk (hbox); have n4_ := Aside0.mk ((by rw [hg]; exact (below_size (by repeat (first | (with_reducible first | exact HB.out | apply below_alloc | apply pw_below_drewN | apply below_drew1 | refine below_set ?_ GE358.out | refine below_set ?_ GE364.out) | exact HB.out))) : w.heap.size ≤ gb369)); have n5_ := Aside0.mk ((by rw [hg]; exact (below_size (by repeat (first | (with_reducible first | exact HB.out | apply below_alloc | apply pw_below_drewN | apply below_drew1 | refine below_set ?_ GE358.out | refine below_set ?_ GE364.out) | exact HB.out))) : w.heap.size ≤ gb369)); have n6_ := Aside0.mk ((by rw [hg]; exact Nat.ne_of_lt (blk_lt (g := gb358) (o := .cells #[.int .u8 a1_0, .bool a1_1, .bool a1_2] 47 (0, 0)) (by (with_reducible repeat (first | refine blk_drewN ?_ _ | refine blk_drew ?_ | refine blk_alloc ?_ _)); exact BK358.out)) : gb358 ≠ gb369)); have n7_ := Aside0.mk ((by rw [hg]; exact Nat.ne_of_gt (blk_lt (g := gb358) (o := .cells #[.int .u8 a1_0, .bool a1_1, .bool a1_2] 47 (0, 0)) (by (with_reducible repeat (first | refine blk_drewN ?_ _ | refine blk_drew ?_ | refine blk_alloc ?_ _)); exact BK358.out)) : gb369 ≠ gb358)); have n8_ := Aside0.mk ((by rw [hg]; exact Nat.ne_of_lt (blk_lt (g := gb364) (o := .cells #[.bool t360, .bool t361, .int .i64 t362, .bool t363] 44 (0, 0)) (by (with_reducible repeat (first | refine blk_drewN ?_ _ | refine blk_drew ?_ | refine blk_alloc ?_ _)); exact BK364.out)) : gb364 ≠ gb369)); have n9_ := Aside0.mk ((by rw [hg]; exact Nat.ne_of_gt (blk_lt (g := gb364) (o := .cells #[.bool t360, .bool t361, .int .i64 t362, .bool t363] 44 (0, 0)) (by (with_reducible repeat (first | refine blk_drewN ?_ _ | refine blk_drew ?_ | refine blk_alloc ?_ _)); exact BK364.out)) : gb369 ≠ gb364)); clear BK358; clear BK364; clear HB; have BK358 := n0_; have BK364 := n1_; have HB := n2_; have BK369 := n3_; have GW369 := n4_; have GE369 := n5_; have NB358_369 := n6_; have NB369_358 := n7_; have NB364_369 := n8_; have NB369_364 := n9_; clear n0_ n1_ n2_ n3_ n4_ n5_ n6_ n7_ n8_ n9_; clear hb hbox hg; have hnb16 := NB369_358.out; have hnc16 := NB358_369.out; have hnb17 := NB369_364.out; have hnc17 := NB364_369.out; have hcz18_0 : w15.cell? ⟨gb369, 0, none⟩ = some (.bool false) := (blk_cell BK369.out 0).trans rfl; have hcz18_1 : w15.cell? ⟨gb369, 1, none⟩ = some (.bool false) := (blk_cell BK369.out 1).trans rfl; have hcz18_2 : w15.cell? ⟨gb369, 2, none⟩ = some (.int .i64 0) := (blk_cell BK369.out 2).trans rfl; have hcz18_3 : w15.cell? ⟨gb369, 3, none⟩ = some (.bool false) := (blk_cell BK369.out 3).trans rfl; have hfz18_0 := blk_frozen BK369.out 0; have hfz18_1 := blk_frozen BK369.out 1; have hfz18_2 := blk_frozen BK369.out 2; have hfz18_3 := blk_frozen BK369.out 3))
  (try simp only [Act.put, List.setIfInBounds_toArray, List.set_cons_zero, List.set_cons_succ])
  go_cut [29] (fun v29 wc => ∃ (kq : Nat) (x29_5 : Bool), v29 = .bool x29_5 ∧ Aside0 (ambidexterlaw26_DualchannelSafe.j0 kq true x29_5 a1_0 a1_1 a1_2 t360 t361 t362 t363 t365 t366 t367 t368 = some r) ∧ Aside0 (kq ≤ k) ∧ Aside0 (wc.heap[gb358]? = some (.cells #[.int .u8 a1_0, .bool a1_1, .bool a1_2] 47 (0, 0))) ∧ Aside0 (wc.heap[gb364]? = some (.cells #[.bool t360, .bool t361, .int .i64 t362, .bool t363] 44 (0, 0))) ∧ Aside0 (wc.heap[gb369]? = some (.cells #[.bool t365, .bool t366, .int .i64 t367, .bool t368] 44 (0, 0))) ∧ Aside0 (Below w.heap.size w wc))
  case first =>
    have H := HC6.out
    clear HC6
    replace H := Option.bind_eq_some_iff.mp H
    obtain ⟨t370, A190, H⟩ := H
    replace H : (if t370 = true then (if t365 = true then (if t366 = true then (ambidexterlaw26_DualchannelSafe.j0 k true t368 a1_0 a1_1 a1_2 t360 t361 t362 t363 t365 t366 t367 t368) else (ambidexterlaw26_DualchannelSafe.j0 k true true a1_0 a1_1 a1_2 t360 t361 t362 t363 t365 t366 t367 t368)) else (ambidexterlaw26_DualchannelSafe.j0 k true true a1_0 a1_1 a1_2 t360 t361 t362 t363 t365 t366 t367 t368)) else (ambidexterlaw26_DualchannelSafe.j0 k true false a1_0 a1_1 a1_2 t360 t361 t362 t363 t365 t366 t367 t368)) = some r := H
    have A19 := Aside0.mk A190
    clear A190
    by_cases c20 : t370 = true
    · subst c20
      have H1 : (if t365 = true then (if t366 = true then (ambidexterlaw26_DualchannelSafe.j0 k true t368 a1_0 a1_1 a1_2 t360 t361 t362 t363 t365 t366 t367 t368) else (ambidexterlaw26_DualchannelSafe.j0 k true true a1_0 a1_1 a1_2 t360 t361 t362 t363 t365 t366 t367 t368)) else (ambidexterlaw26_DualchannelSafe.j0 k true true a1_0 a1_1 a1_2 t360 t361 t362 t363 t365 t366 t367 t368)) = some r := by rw [if_pos rfl] at H; exact H
      clear H
      have H := H1
      clear H1
      by_cases c21 : t365 = true
      · subst c21
        have H1 : (if t366 = true then (ambidexterlaw26_DualchannelSafe.j0 k true t368 a1_0 a1_1 a1_2 t360 t361 t362 t363 true t366 t367 t368) else (ambidexterlaw26_DualchannelSafe.j0 k true true a1_0 a1_1 a1_2 t360 t361 t362 t363 true t366 t367 t368)) = some r := by rw [if_pos rfl] at H; exact H
        clear H
        have H := H1
        clear H1
        by_cases c22 : t366 = true
        · subst c22
          have H1 : (ambidexterlaw26_DualchannelSafe.j0 k true t368 a1_0 a1_1 a1_2 t360 t361 t362 t363 true true t367 t368) = some r := by rw [if_pos rfl] at H; exact H
          clear H
          have H := H1
          clear H1
          have H' := Aside0.mk H
          clear H
          have hnb23 := NB369_358.out
          have hnc23 := NB358_369.out
          have hnb24 := NB369_364.out
          have hnc24 := NB364_369.out
          have hcz25_0 : w15.cell? ⟨gb369, 0, none⟩ = some (.bool false) := (blk_cell BK369.out 0).trans rfl
          have hcz25_1 : w15.cell? ⟨gb369, 1, none⟩ = some (.bool false) := (blk_cell BK369.out 1).trans rfl
          have hcz25_2 : w15.cell? ⟨gb369, 2, none⟩ = some (.int .i64 0) := (blk_cell BK369.out 2).trans rfl
          have hcz25_3 : w15.cell? ⟨gb369, 3, none⟩ = some (.bool false) := (blk_cell BK369.out 3).trans rfl
          have hfz25_0 := blk_frozen BK369.out 0
          have hfz25_1 := blk_frozen BK369.out 1
          have hfz25_2 := blk_frozen BK369.out 2
          have hfz25_3 := blk_frozen BK369.out 3
          go_wp2_with (first | ((with_reducible refine gate_callee (f := 30) rfl ?_); refine goesL_ (some 15) rfl rfl Try.func30 (by kernel_rfl) rfl #[.agg #[.bool true, .bool true, .int .i64 t367, .bool t368]] rfl (by (try simp only [List.map_toArray, List.map_cons, List.map_nil]); first | done | rfl | (simp only [List.length_drop, List.length_take]; rfl)) ?_; (with_reducible refine (dualchannel_Closed.calls true true t367 t368 true _ A19.out).mono ?_); rintro e w26 ⟨rfl, hb⟩; refine ⟨_, rfl, ?_⟩; have n0_ := Aside0.mk (blk_below (g := gb358) (o := .cells #[.int .u8 a1_0, .bool a1_1, .bool a1_2] 47 (0, 0)) (by (with_reducible repeat (first | refine blk_drewN ?_ _ | refine blk_drew ?_ | refine blk_alloc ?_ _)); refine blk_far ?_ NB358_369.out _; (with_reducible repeat (first | refine blk_drewN ?_ _ | refine blk_drew ?_ | refine blk_alloc ?_ _)); refine blk_far ?_ NB358_369.out _; (with_reducible repeat (first | refine blk_drewN ?_ _ | refine blk_drew ?_ | refine blk_alloc ?_ _)); refine blk_far ?_ NB358_369.out _; (with_reducible repeat (first | refine blk_drewN ?_ _ | refine blk_drew ?_ | refine blk_alloc ?_ _)); refine blk_far ?_ NB358_369.out _; (with_reducible repeat (first | refine blk_drewN ?_ _ | refine blk_drew ?_ | refine blk_alloc ?_ _)); exact BK358.out) hb); have n1_ := Aside0.mk (blk_below (g := gb364) (o := .cells #[.bool t360, .bool t361, .int .i64 t362, .bool t363] 44 (0, 0)) (by (with_reducible repeat (first | refine blk_drewN ?_ _ | refine blk_drew ?_ | refine blk_alloc ?_ _)); refine blk_far ?_ NB364_369.out _; (with_reducible repeat (first | refine blk_drewN ?_ _ | refine blk_drew ?_ | refine blk_alloc ?_ _)); refine blk_far ?_ NB364_369.out _; (with_reducible repeat (first | refine blk_drewN ?_ _ | refine blk_drew ?_ | refine blk_alloc ?_ _)); refine blk_far ?_ NB364_369.out _; (with_reducible repeat (first | refine blk_drewN ?_ _ | refine blk_drew ?_ | refine blk_alloc ?_ _)); refine blk_far ?_ NB364_369.out _; (with_reducible repeat (first | refine blk_drewN ?_ _ | refine blk_drew ?_ | refine blk_alloc ?_ _)); exact BK364.out) hb); have n2_ := Aside0.mk (blk_below (g := gb369) (o := .cells #[.bool true, .bool true, .int .i64 t367, .bool t368] 44 (0, 0)) (by (with_reducible repeat (first | refine blk_drewN ?_ _ | refine blk_drew ?_ | refine blk_alloc ?_ _)); refine blk_put (cs := #[.bool true, .bool true, .int .i64 t367, .bool false]) ?_ 3 _ rfl; (with_reducible repeat (first | refine blk_drewN ?_ _ | refine blk_drew ?_ | refine blk_alloc ?_ _)); refine blk_put (cs := #[.bool true, .bool true, .int .i64 0, .bool false]) ?_ 2 _ rfl; (with_reducible repeat (first | refine blk_drewN ?_ _ | refine blk_drew ?_ | refine blk_alloc ?_ _)); refine blk_put (cs := #[.bool true, .bool false, .int .i64 0, .bool false]) ?_ 1 _ rfl; (with_reducible repeat (first | refine blk_drewN ?_ _ | refine blk_drew ?_ | refine blk_alloc ?_ _)); refine blk_put (cs := #[.bool false, .bool false, .int .i64 0, .bool false]) ?_ 0 _ rfl; (with_reducible repeat (first | refine blk_drewN ?_ _ | refine blk_drew ?_ | refine blk_alloc ?_ _)); exact BK369.out) hb); have n3_ := Aside0.mk (below_step (by repeat (first | (with_reducible first | exact HB.out | apply below_alloc | apply pw_below_drewN | apply below_drew1 | refine below_set ?_ GE358.out | refine below_set ?_ GE364.out | refine below_set ?_ GE369.out) | exact HB.out)) hb); clear BK358; clear BK364; clear BK369; clear HB; have BK358 := n0_; have BK364 := n1_; have BK369 := n2_; have HB := n3_; clear n0_ n1_ n2_ n3_; (try clear hb); (try clear hb2); (try clear hk); (try clear hi); have hcz27_0 : w26.cell? ⟨gb369, 0, none⟩ = some (.bool true) := (blk_cell BK369.out 0).trans rfl; have hcz27_1 : w26.cell? ⟨gb369, 1, none⟩ = some (.bool true) := (blk_cell BK369.out 1).trans rfl; have hcz27_2 : w26.cell? ⟨gb369, 2, none⟩ = some (.int .i64 t367) := (blk_cell BK369.out 2).trans rfl; have hcz27_3 : w26.cell? ⟨gb369, 3, none⟩ = some (.bool t368) := (blk_cell BK369.out 3).trans rfl; have hfz27_0 := blk_frozen BK369.out 0; have hfz27_1 := blk_frozen BK369.out 1; have hfz27_2 := blk_frozen BK369.out 2; have hfz27_3 := blk_frozen BK369.out 3))
          go_meet
          case rel => exact ⟨_, (t368), (by first | rfl | (simp; done) | (simp [*]; done)), H', ⟨by first | omega | exact Nat.le_refl _⟩, ⟨by (with_reducible repeat (first | refine blk_drewN ?_ _ | refine blk_drew ?_ | refine blk_alloc ?_ _)); exact BK358.out⟩, ⟨by (with_reducible repeat (first | refine blk_drewN ?_ _ | refine blk_drew ?_ | refine blk_alloc ?_ _)); exact BK364.out⟩, ⟨by (with_reducible repeat (first | refine blk_drewN ?_ _ | refine blk_drew ?_ | refine blk_alloc ?_ _)); exact BK369.out⟩, ⟨by repeat (first | (with_reducible first | exact HB.out | apply below_alloc | apply pw_below_drewN | apply below_drew1 | refine below_set ?_ GE358.out | refine below_set ?_ GE364.out | refine below_set ?_ GE369.out) | exact HB.out)⟩⟩
        · replace c22 := Bool.eq_false_iff.mpr c22
          subst c22
          have H1 : (ambidexterlaw26_DualchannelSafe.j0 k true true a1_0 a1_1 a1_2 t360 t361 t362 t363 true false t367 t368) = some r := by rw [if_neg (show ¬ (false = true) by decide)] at H; exact H
          clear H
          have H := H1
          clear H1
          have H' := Aside0.mk H
          clear H
          have hnb28 := NB369_358.out
          have hnc28 := NB358_369.out
          have hnb29 := NB369_364.out
          have hnc29 := NB364_369.out
          have hcz30_0 : w15.cell? ⟨gb369, 0, none⟩ = some (.bool false) := (blk_cell BK369.out 0).trans rfl
          have hcz30_1 : w15.cell? ⟨gb369, 1, none⟩ = some (.bool false) := (blk_cell BK369.out 1).trans rfl
          have hcz30_2 : w15.cell? ⟨gb369, 2, none⟩ = some (.int .i64 0) := (blk_cell BK369.out 2).trans rfl
          have hcz30_3 : w15.cell? ⟨gb369, 3, none⟩ = some (.bool false) := (blk_cell BK369.out 3).trans rfl
          have hfz30_0 := blk_frozen BK369.out 0
          have hfz30_1 := blk_frozen BK369.out 1
          have hfz30_2 := blk_frozen BK369.out 2
          have hfz30_3 := blk_frozen BK369.out 3
          go_wp2_with (first | ((with_reducible refine gate_callee (f := 30) rfl ?_); refine goesL_ (some 15) rfl rfl Try.func30 (by kernel_rfl) rfl #[.agg #[.bool true, .bool false, .int .i64 t367, .bool t368]] rfl (by (try simp only [List.map_toArray, List.map_cons, List.map_nil]); first | done | rfl | (simp only [List.length_drop, List.length_take]; rfl)) ?_; (with_reducible refine (dualchannel_Closed.calls true false t367 t368 true _ A19.out).mono ?_); rintro e w31 ⟨rfl, hb⟩; refine ⟨_, rfl, ?_⟩; have n0_ := Aside0.mk (blk_below (g := gb358) (o := .cells #[.int .u8 a1_0, .bool a1_1, .bool a1_2] 47 (0, 0)) (by (with_reducible repeat (first | refine blk_drewN ?_ _ | refine blk_drew ?_ | refine blk_alloc ?_ _)); refine blk_far ?_ NB358_369.out _; (with_reducible repeat (first | refine blk_drewN ?_ _ | refine blk_drew ?_ | refine blk_alloc ?_ _)); refine blk_far ?_ NB358_369.out _; (with_reducible repeat (first | refine blk_drewN ?_ _ | refine blk_drew ?_ | refine blk_alloc ?_ _)); refine blk_far ?_ NB358_369.out _; (with_reducible repeat (first | refine blk_drewN ?_ _ | refine blk_drew ?_ | refine blk_alloc ?_ _)); refine blk_far ?_ NB358_369.out _; (with_reducible repeat (first | refine blk_drewN ?_ _ | refine blk_drew ?_ | refine blk_alloc ?_ _)); exact BK358.out) hb); have n1_ := Aside0.mk (blk_below (g := gb364) (o := .cells #[.bool t360, .bool t361, .int .i64 t362, .bool t363] 44 (0, 0)) (by (with_reducible repeat (first | refine blk_drewN ?_ _ | refine blk_drew ?_ | refine blk_alloc ?_ _)); refine blk_far ?_ NB364_369.out _; (with_reducible repeat (first | refine blk_drewN ?_ _ | refine blk_drew ?_ | refine blk_alloc ?_ _)); refine blk_far ?_ NB364_369.out _; (with_reducible repeat (first | refine blk_drewN ?_ _ | refine blk_drew ?_ | refine blk_alloc ?_ _)); refine blk_far ?_ NB364_369.out _; (with_reducible repeat (first | refine blk_drewN ?_ _ | refine blk_drew ?_ | refine blk_alloc ?_ _)); refine blk_far ?_ NB364_369.out _; (with_reducible repeat (first | refine blk_drewN ?_ _ | refine blk_drew ?_ | refine blk_alloc ?_ _)); exact BK364.out) hb); have n2_ := Aside0.mk (blk_below (g := gb369) (o := .cells #[.bool true, .bool false, .int .i64 t367, .bool t368] 44 (0, 0)) (by (with_reducible repeat (first | refine blk_drewN ?_ _ | refine blk_drew ?_ | refine blk_alloc ?_ _)); refine blk_put (cs := #[.bool true, .bool false, .int .i64 t367, .bool false]) ?_ 3 _ rfl; (with_reducible repeat (first | refine blk_drewN ?_ _ | refine blk_drew ?_ | refine blk_alloc ?_ _)); refine blk_put (cs := #[.bool true, .bool false, .int .i64 0, .bool false]) ?_ 2 _ rfl; (with_reducible repeat (first | refine blk_drewN ?_ _ | refine blk_drew ?_ | refine blk_alloc ?_ _)); refine blk_put (cs := #[.bool true, .bool false, .int .i64 0, .bool false]) ?_ 1 _ rfl; (with_reducible repeat (first | refine blk_drewN ?_ _ | refine blk_drew ?_ | refine blk_alloc ?_ _)); refine blk_put (cs := #[.bool false, .bool false, .int .i64 0, .bool false]) ?_ 0 _ rfl; (with_reducible repeat (first | refine blk_drewN ?_ _ | refine blk_drew ?_ | refine blk_alloc ?_ _)); exact BK369.out) hb); have n3_ := Aside0.mk (below_step (by repeat (first | (with_reducible first | exact HB.out | apply below_alloc | apply pw_below_drewN | apply below_drew1 | refine below_set ?_ GE358.out | refine below_set ?_ GE364.out | refine below_set ?_ GE369.out) | exact HB.out)) hb); clear BK358; clear BK364; clear BK369; clear HB; have BK358 := n0_; have BK364 := n1_; have BK369 := n2_; have HB := n3_; clear n0_ n1_ n2_ n3_; (try clear hb); (try clear hb2); (try clear hk); (try clear hi); have hcz32_0 : w31.cell? ⟨gb369, 0, none⟩ = some (.bool true) := (blk_cell BK369.out 0).trans rfl; have hcz32_1 : w31.cell? ⟨gb369, 1, none⟩ = some (.bool false) := (blk_cell BK369.out 1).trans rfl; have hcz32_2 : w31.cell? ⟨gb369, 2, none⟩ = some (.int .i64 t367) := (blk_cell BK369.out 2).trans rfl; have hcz32_3 : w31.cell? ⟨gb369, 3, none⟩ = some (.bool t368) := (blk_cell BK369.out 3).trans rfl; have hfz32_0 := blk_frozen BK369.out 0; have hfz32_1 := blk_frozen BK369.out 1; have hfz32_2 := blk_frozen BK369.out 2; have hfz32_3 := blk_frozen BK369.out 3))
          go_meet
          case rel => exact ⟨_, (true), (by first | rfl | (simp; done) | (simp [*]; done)), H', ⟨by first | omega | exact Nat.le_refl _⟩, ⟨by (with_reducible repeat (first | refine blk_drewN ?_ _ | refine blk_drew ?_ | refine blk_alloc ?_ _)); exact BK358.out⟩, ⟨by (with_reducible repeat (first | refine blk_drewN ?_ _ | refine blk_drew ?_ | refine blk_alloc ?_ _)); exact BK364.out⟩, ⟨by (with_reducible repeat (first | refine blk_drewN ?_ _ | refine blk_drew ?_ | refine blk_alloc ?_ _)); exact BK369.out⟩, ⟨by repeat (first | (with_reducible first | exact HB.out | apply below_alloc | apply pw_below_drewN | apply below_drew1 | refine below_set ?_ GE358.out | refine below_set ?_ GE364.out | refine below_set ?_ GE369.out) | exact HB.out)⟩⟩
      · replace c21 := Bool.eq_false_iff.mpr c21
        subst c21
        have H1 : (ambidexterlaw26_DualchannelSafe.j0 k true true a1_0 a1_1 a1_2 t360 t361 t362 t363 false t366 t367 t368) = some r := by rw [if_neg (show ¬ (false = true) by decide)] at H; exact H
        clear H
        have H := H1
        clear H1
        have H' := Aside0.mk H
        clear H
        have hnb33 := NB369_358.out
        have hnc33 := NB358_369.out
        have hnb34 := NB369_364.out
        have hnc34 := NB364_369.out
        have hcz35_0 : w15.cell? ⟨gb369, 0, none⟩ = some (.bool false) := (blk_cell BK369.out 0).trans rfl
        have hcz35_1 : w15.cell? ⟨gb369, 1, none⟩ = some (.bool false) := (blk_cell BK369.out 1).trans rfl
        have hcz35_2 : w15.cell? ⟨gb369, 2, none⟩ = some (.int .i64 0) := (blk_cell BK369.out 2).trans rfl
        have hcz35_3 : w15.cell? ⟨gb369, 3, none⟩ = some (.bool false) := (blk_cell BK369.out 3).trans rfl
        have hfz35_0 := blk_frozen BK369.out 0
        have hfz35_1 := blk_frozen BK369.out 1
        have hfz35_2 := blk_frozen BK369.out 2
        have hfz35_3 := blk_frozen BK369.out 3
        go_wp2_with (first | ((with_reducible refine gate_callee (f := 30) rfl ?_); refine goesL_ (some 15) rfl rfl Try.func30 (by kernel_rfl) rfl #[.agg #[.bool false, .bool t366, .int .i64 t367, .bool t368]] rfl (by (try simp only [List.map_toArray, List.map_cons, List.map_nil]); first | done | rfl | (simp only [List.length_drop, List.length_take]; rfl)) ?_; (with_reducible refine (dualchannel_Closed.calls false t366 t367 t368 true _ A19.out).mono ?_); rintro e w36 ⟨rfl, hb⟩; refine ⟨_, rfl, ?_⟩; have n0_ := Aside0.mk (blk_below (g := gb358) (o := .cells #[.int .u8 a1_0, .bool a1_1, .bool a1_2] 47 (0, 0)) (by (with_reducible repeat (first | refine blk_drewN ?_ _ | refine blk_drew ?_ | refine blk_alloc ?_ _)); refine blk_far ?_ NB358_369.out _; (with_reducible repeat (first | refine blk_drewN ?_ _ | refine blk_drew ?_ | refine blk_alloc ?_ _)); refine blk_far ?_ NB358_369.out _; (with_reducible repeat (first | refine blk_drewN ?_ _ | refine blk_drew ?_ | refine blk_alloc ?_ _)); refine blk_far ?_ NB358_369.out _; (with_reducible repeat (first | refine blk_drewN ?_ _ | refine blk_drew ?_ | refine blk_alloc ?_ _)); refine blk_far ?_ NB358_369.out _; (with_reducible repeat (first | refine blk_drewN ?_ _ | refine blk_drew ?_ | refine blk_alloc ?_ _)); exact BK358.out) hb); have n1_ := Aside0.mk (blk_below (g := gb364) (o := .cells #[.bool t360, .bool t361, .int .i64 t362, .bool t363] 44 (0, 0)) (by (with_reducible repeat (first | refine blk_drewN ?_ _ | refine blk_drew ?_ | refine blk_alloc ?_ _)); refine blk_far ?_ NB364_369.out _; (with_reducible repeat (first | refine blk_drewN ?_ _ | refine blk_drew ?_ | refine blk_alloc ?_ _)); refine blk_far ?_ NB364_369.out _; (with_reducible repeat (first | refine blk_drewN ?_ _ | refine blk_drew ?_ | refine blk_alloc ?_ _)); refine blk_far ?_ NB364_369.out _; (with_reducible repeat (first | refine blk_drewN ?_ _ | refine blk_drew ?_ | refine blk_alloc ?_ _)); refine blk_far ?_ NB364_369.out _; (with_reducible repeat (first | refine blk_drewN ?_ _ | refine blk_drew ?_ | refine blk_alloc ?_ _)); exact BK364.out) hb); have n2_ := Aside0.mk (blk_below (g := gb369) (o := .cells #[.bool false, .bool t366, .int .i64 t367, .bool t368] 44 (0, 0)) (by (with_reducible repeat (first | refine blk_drewN ?_ _ | refine blk_drew ?_ | refine blk_alloc ?_ _)); refine blk_put (cs := #[.bool false, .bool t366, .int .i64 t367, .bool false]) ?_ 3 _ rfl; (with_reducible repeat (first | refine blk_drewN ?_ _ | refine blk_drew ?_ | refine blk_alloc ?_ _)); refine blk_put (cs := #[.bool false, .bool t366, .int .i64 0, .bool false]) ?_ 2 _ rfl; (with_reducible repeat (first | refine blk_drewN ?_ _ | refine blk_drew ?_ | refine blk_alloc ?_ _)); refine blk_put (cs := #[.bool false, .bool false, .int .i64 0, .bool false]) ?_ 1 _ rfl; (with_reducible repeat (first | refine blk_drewN ?_ _ | refine blk_drew ?_ | refine blk_alloc ?_ _)); refine blk_put (cs := #[.bool false, .bool false, .int .i64 0, .bool false]) ?_ 0 _ rfl; (with_reducible repeat (first | refine blk_drewN ?_ _ | refine blk_drew ?_ | refine blk_alloc ?_ _)); exact BK369.out) hb); have n3_ := Aside0.mk (below_step (by repeat (first | (with_reducible first | exact HB.out | apply below_alloc | apply pw_below_drewN | apply below_drew1 | refine below_set ?_ GE358.out | refine below_set ?_ GE364.out | refine below_set ?_ GE369.out) | exact HB.out)) hb); clear BK358; clear BK364; clear BK369; clear HB; have BK358 := n0_; have BK364 := n1_; have BK369 := n2_; have HB := n3_; clear n0_ n1_ n2_ n3_; (try clear hb); (try clear hb2); (try clear hk); (try clear hi); have hcz37_0 : w36.cell? ⟨gb369, 0, none⟩ = some (.bool false) := (blk_cell BK369.out 0).trans rfl; have hcz37_1 : w36.cell? ⟨gb369, 1, none⟩ = some (.bool t366) := (blk_cell BK369.out 1).trans rfl; have hcz37_2 : w36.cell? ⟨gb369, 2, none⟩ = some (.int .i64 t367) := (blk_cell BK369.out 2).trans rfl; have hcz37_3 : w36.cell? ⟨gb369, 3, none⟩ = some (.bool t368) := (blk_cell BK369.out 3).trans rfl; have hfz37_0 := blk_frozen BK369.out 0; have hfz37_1 := blk_frozen BK369.out 1; have hfz37_2 := blk_frozen BK369.out 2; have hfz37_3 := blk_frozen BK369.out 3))
        go_meet
        case rel => exact ⟨_, (true), (by first | rfl | (simp; done) | (simp [*]; done)), H', ⟨by first | omega | exact Nat.le_refl _⟩, ⟨by (with_reducible repeat (first | refine blk_drewN ?_ _ | refine blk_drew ?_ | refine blk_alloc ?_ _)); exact BK358.out⟩, ⟨by (with_reducible repeat (first | refine blk_drewN ?_ _ | refine blk_drew ?_ | refine blk_alloc ?_ _)); exact BK364.out⟩, ⟨by (with_reducible repeat (first | refine blk_drewN ?_ _ | refine blk_drew ?_ | refine blk_alloc ?_ _)); exact BK369.out⟩, ⟨by repeat (first | (with_reducible first | exact HB.out | apply below_alloc | apply pw_below_drewN | apply below_drew1 | refine below_set ?_ GE358.out | refine below_set ?_ GE364.out | refine below_set ?_ GE369.out) | exact HB.out)⟩⟩
    · replace c20 := Bool.eq_false_iff.mpr c20
      subst c20
      have H1 : (ambidexterlaw26_DualchannelSafe.j0 k true false a1_0 a1_1 a1_2 t360 t361 t362 t363 t365 t366 t367 t368) = some r := by rw [if_neg (show ¬ (false = true) by decide)] at H; exact H
      clear H
      have H := H1
      clear H1
      have H' := Aside0.mk H
      clear H
      have hnb38 := NB369_358.out
      have hnc38 := NB358_369.out
      have hnb39 := NB369_364.out
      have hnc39 := NB364_369.out
      have hcz40_0 : w15.cell? ⟨gb369, 0, none⟩ = some (.bool false) := (blk_cell BK369.out 0).trans rfl
      have hcz40_1 : w15.cell? ⟨gb369, 1, none⟩ = some (.bool false) := (blk_cell BK369.out 1).trans rfl
      have hcz40_2 : w15.cell? ⟨gb369, 2, none⟩ = some (.int .i64 0) := (blk_cell BK369.out 2).trans rfl
      have hcz40_3 : w15.cell? ⟨gb369, 3, none⟩ = some (.bool false) := (blk_cell BK369.out 3).trans rfl
      have hfz40_0 := blk_frozen BK369.out 0
      have hfz40_1 := blk_frozen BK369.out 1
      have hfz40_2 := blk_frozen BK369.out 2
      have hfz40_3 := blk_frozen BK369.out 3
      go_wp2_with (first | ((with_reducible refine gate_callee (f := 30) rfl ?_); refine goesL_ (some 15) rfl rfl Try.func30 (by kernel_rfl) rfl #[.agg #[.bool t365, .bool t366, .int .i64 t367, .bool t368]] rfl (by (try simp only [List.map_toArray, List.map_cons, List.map_nil]); first | done | rfl | (simp only [List.length_drop, List.length_take]; rfl)) ?_; (with_reducible refine (dualchannel_Closed.calls t365 t366 t367 t368 false _ A19.out).mono ?_); rintro e w41 ⟨rfl, hb⟩; refine ⟨_, rfl, ?_⟩; have n0_ := Aside0.mk (blk_below (g := gb358) (o := .cells #[.int .u8 a1_0, .bool a1_1, .bool a1_2] 47 (0, 0)) (by (with_reducible repeat (first | refine blk_drewN ?_ _ | refine blk_drew ?_ | refine blk_alloc ?_ _)); refine blk_far ?_ NB358_369.out _; (with_reducible repeat (first | refine blk_drewN ?_ _ | refine blk_drew ?_ | refine blk_alloc ?_ _)); refine blk_far ?_ NB358_369.out _; (with_reducible repeat (first | refine blk_drewN ?_ _ | refine blk_drew ?_ | refine blk_alloc ?_ _)); refine blk_far ?_ NB358_369.out _; (with_reducible repeat (first | refine blk_drewN ?_ _ | refine blk_drew ?_ | refine blk_alloc ?_ _)); refine blk_far ?_ NB358_369.out _; (with_reducible repeat (first | refine blk_drewN ?_ _ | refine blk_drew ?_ | refine blk_alloc ?_ _)); exact BK358.out) hb); have n1_ := Aside0.mk (blk_below (g := gb364) (o := .cells #[.bool t360, .bool t361, .int .i64 t362, .bool t363] 44 (0, 0)) (by (with_reducible repeat (first | refine blk_drewN ?_ _ | refine blk_drew ?_ | refine blk_alloc ?_ _)); refine blk_far ?_ NB364_369.out _; (with_reducible repeat (first | refine blk_drewN ?_ _ | refine blk_drew ?_ | refine blk_alloc ?_ _)); refine blk_far ?_ NB364_369.out _; (with_reducible repeat (first | refine blk_drewN ?_ _ | refine blk_drew ?_ | refine blk_alloc ?_ _)); refine blk_far ?_ NB364_369.out _; (with_reducible repeat (first | refine blk_drewN ?_ _ | refine blk_drew ?_ | refine blk_alloc ?_ _)); refine blk_far ?_ NB364_369.out _; (with_reducible repeat (first | refine blk_drewN ?_ _ | refine blk_drew ?_ | refine blk_alloc ?_ _)); exact BK364.out) hb); have n2_ := Aside0.mk (blk_below (g := gb369) (o := .cells #[.bool t365, .bool t366, .int .i64 t367, .bool t368] 44 (0, 0)) (by (with_reducible repeat (first | refine blk_drewN ?_ _ | refine blk_drew ?_ | refine blk_alloc ?_ _)); refine blk_put (cs := #[.bool t365, .bool t366, .int .i64 t367, .bool false]) ?_ 3 _ rfl; (with_reducible repeat (first | refine blk_drewN ?_ _ | refine blk_drew ?_ | refine blk_alloc ?_ _)); refine blk_put (cs := #[.bool t365, .bool t366, .int .i64 0, .bool false]) ?_ 2 _ rfl; (with_reducible repeat (first | refine blk_drewN ?_ _ | refine blk_drew ?_ | refine blk_alloc ?_ _)); refine blk_put (cs := #[.bool t365, .bool false, .int .i64 0, .bool false]) ?_ 1 _ rfl; (with_reducible repeat (first | refine blk_drewN ?_ _ | refine blk_drew ?_ | refine blk_alloc ?_ _)); refine blk_put (cs := #[.bool false, .bool false, .int .i64 0, .bool false]) ?_ 0 _ rfl; (with_reducible repeat (first | refine blk_drewN ?_ _ | refine blk_drew ?_ | refine blk_alloc ?_ _)); exact BK369.out) hb); have n3_ := Aside0.mk (below_step (by repeat (first | (with_reducible first | exact HB.out | apply below_alloc | apply pw_below_drewN | apply below_drew1 | refine below_set ?_ GE358.out | refine below_set ?_ GE364.out | refine below_set ?_ GE369.out) | exact HB.out)) hb); clear BK358; clear BK364; clear BK369; clear HB; have BK358 := n0_; have BK364 := n1_; have BK369 := n2_; have HB := n3_; clear n0_ n1_ n2_ n3_; (try clear hb); (try clear hb2); (try clear hk); (try clear hi)))
      go_meet
      case rel => exact ⟨_, (false), (by first | rfl | (simp; done) | (simp [*]; done)), H', ⟨by first | omega | exact Nat.le_refl _⟩, ⟨by (with_reducible repeat (first | refine blk_drewN ?_ _ | refine blk_drew ?_ | refine blk_alloc ?_ _)); exact BK358.out⟩, ⟨by (with_reducible repeat (first | refine blk_drewN ?_ _ | refine blk_drew ?_ | refine blk_alloc ?_ _)); exact BK364.out⟩, ⟨by (with_reducible repeat (first | refine blk_drewN ?_ _ | refine blk_drew ?_ | refine blk_alloc ?_ _)); exact BK369.out⟩, ⟨by repeat (first | (with_reducible first | exact HB.out | apply below_alloc | apply pw_below_drewN | apply below_drew1 | refine below_set ?_ GE358.out | refine below_set ?_ GE364.out | refine below_set ?_ GE369.out) | exact HB.out)⟩⟩
  case rest =>
    clear HC6
    try clear c1
    try clear c2
    try clear p2
    try clear c3
    try clear c11
    try clear c12
    try clear c16
    try clear c17
    try clear c20
    try clear c21
    try clear c22
    try clear c23
    try clear c24
    try clear c27
    try clear c28
    try clear c29
    try clear c30
    try clear c33
    try clear c34
    try clear c38
    try clear c39
    try clear hcz12_0
    try clear hcz12_1
    try clear hcz12_2
    try clear hcz12_3
    try clear hcz13_0
    try clear hcz13_1
    try clear hcz13_2
    try clear hcz18_0
    try clear hcz18_1
    try clear hcz18_2
    try clear hcz18_3
    try clear hcz25_0
    try clear hcz25_1
    try clear hcz25_2
    try clear hcz25_3
    try clear hcz27_0
    try clear hcz27_1
    try clear hcz27_2
    try clear hcz27_3
    try clear hcz30_0
    try clear hcz30_1
    try clear hcz30_2
    try clear hcz30_3
    try clear hcz32_0
    try clear hcz32_1
    try clear hcz32_2
    try clear hcz32_3
    try clear hcz35_0
    try clear hcz35_1
    try clear hcz35_2
    try clear hcz35_3
    try clear hcz37_0
    try clear hcz37_1
    try clear hcz37_2
    try clear hcz37_3
    try clear hcz40_0
    try clear hcz40_1
    try clear hcz40_2
    try clear hcz40_3
    try clear hfz12_0
    try clear hfz12_1
    try clear hfz12_2
    try clear hfz12_3
    try clear hfz13_0
    try clear hfz13_1
    try clear hfz13_2
    try clear hfz18_0
    try clear hfz18_1
    try clear hfz18_2
    try clear hfz18_3
    try clear hfz25_0
    try clear hfz25_1
    try clear hfz25_2
    try clear hfz25_3
    try clear hfz27_0
    try clear hfz27_1
    try clear hfz27_2
    try clear hfz27_3
    try clear hfz30_0
    try clear hfz30_1
    try clear hfz30_2
    try clear hfz30_3
    try clear hfz32_0
    try clear hfz32_1
    try clear hfz32_2
    try clear hfz32_3
    try clear hfz35_0
    try clear hfz35_1
    try clear hfz35_2
    try clear hfz35_3
    try clear hfz37_0
    try clear hfz37_1
    try clear hfz37_2
    try clear hfz37_3
    try clear hfz40_0
    try clear hfz40_1
    try clear hfz40_2
    try clear hfz40_3
    obtain ⟨kq, x29_5, rfl, HA, HJ5, BK358, BK364, BK369, HB⟩ := hcut
    cases kq with
    | zero => exact absurd HA.out (by simp [ambidexterlaw26_DualchannelSafe.j0])
    | succ kj5 =>
      have H := HA.out
      clear HA
      simp only [ambidexterlaw26_DualchannelSafe.j0] at H
      by_cases c42 : x29_5 = true
      · subst c42
        have H1 : (some false) = some r := by rw [if_pos rfl] at H; exact H
        clear H
        have H := H1
        clear H1
        exact absurd HT.out (by rw [← Option.some.inj H]; decide)
      · replace c42 := Bool.eq_false_iff.mpr c42
        subst c42
        have H1 : (if t363 = true then ((dualchannel_Closed.f t365 t366 t367 t368).bind fun t371 => (if t371 = true then (if true = true then (if (Int.tmod a1_0 8) = 0 then (if t360 = true then (some t361) else (some false)) else (some false)) else (some false)) else (if true = true then (if t368 = true then (some true) else (if (Int.tmod a1_0 8) = 0 then (some (t360 == t361)) else (some false))) else (some false)))) else (if true = true then (some true) else (some false))) = some r := by rw [if_neg (show ¬ (false = true) by decide)] at H; exact H
        clear H
        have H := H1
        clear H1
        by_cases c43 : t363 = true
        · subst c43
          have H1 : ((dualchannel_Closed.f t365 t366 t367 t368).bind fun t371 => (if t371 = true then (if true = true then (if (Int.tmod a1_0 8) = 0 then (if t360 = true then (some t361) else (some false)) else (some false)) else (some false)) else (if true = true then (if t368 = true then (some true) else (if (Int.tmod a1_0 8) = 0 then (some (t360 == t361)) else (some false))) else (some false)))) = some r := by rw [if_pos rfl] at H; exact H
          clear H
          have H := H1
          clear H1
          replace H := Option.bind_eq_some_iff.mp H
          obtain ⟨t371, A440, H⟩ := H
          replace H : (if t371 = true then (if true = true then (if (Int.tmod a1_0 8) = 0 then (if t360 = true then (some t361) else (some false)) else (some false)) else (some false)) else (if true = true then (if t368 = true then (some true) else (if (Int.tmod a1_0 8) = 0 then (some (t360 == t361)) else (some false))) else (some false))) = some r := H
          have A44 := Aside0.mk A440
          clear A440
          by_cases c45 : t371 = true
          · subst c45
            have H1 : (if true = true then (if (Int.tmod a1_0 8) = 0 then (if t360 = true then (some t361) else (some false)) else (some false)) else (some false)) = some r := by rw [if_pos rfl] at H; exact H
            clear H
            have H := H1
            clear H1
            have H1 : (if (Int.tmod a1_0 8) = 0 then (if t360 = true then (some t361) else (some false)) else (some false)) = some r := by first | (rw [if_pos rfl] at H; exact H) | (rw [if_pos True.intro] at H; exact H)
            clear H
            have H := H1
            clear H1
            by_cases c46 : (Int.tmod a1_0 8) = 0
            · rw [if_pos c46] at H
              have c46b0 : ((Int.tmod a1_0 8) == 0) = true := beq_iff_eq.mpr c46
              have c46b1 : ((Int.tmod a1_0 8) != 0) = false := bne_eq_false_iff_eq.mpr c46
              clear c46
              by_cases c47 : t360 = true
              · subst c47
                have H1 : (some t361) = some r := by rw [if_pos rfl] at H; exact H
                clear H
                have H := H1
                clear H1
                obtain rfl := Option.some.inj H
                have hnb48 := NB364_358.out
                have hnc48 := NB358_364.out
                have hnb49 := NB364_369.out
                have hnc49 := NB369_364.out
                have hcz50_0 : wc.cell? ⟨gb364, 0, none⟩ = some (.bool true) := (blk_cell BK364.out 0).trans rfl
                have hcz50_1 : wc.cell? ⟨gb364, 1, none⟩ = some (.bool t361) := (blk_cell BK364.out 1).trans rfl
                have hcz50_2 : wc.cell? ⟨gb364, 2, none⟩ = some (.int .i64 t362) := (blk_cell BK364.out 2).trans rfl
                have hcz50_3 : wc.cell? ⟨gb364, 3, none⟩ = some (.bool true) := (blk_cell BK364.out 3).trans rfl
                have hfz50_0 := blk_frozen BK364.out 0
                have hfz50_1 := blk_frozen BK364.out 1
                have hfz50_2 := blk_frozen BK364.out 2
                have hfz50_3 := blk_frozen BK364.out 3
                have hnb51 := NB369_358.out
                have hnc51 := NB358_369.out
                have hcz52_0 : wc.cell? ⟨gb369, 0, none⟩ = some (.bool t365) := (blk_cell BK369.out 0).trans rfl
                have hcz52_1 : wc.cell? ⟨gb369, 1, none⟩ = some (.bool t366) := (blk_cell BK369.out 1).trans rfl
                have hcz52_2 : wc.cell? ⟨gb369, 2, none⟩ = some (.int .i64 t367) := (blk_cell BK369.out 2).trans rfl
                have hcz52_3 : wc.cell? ⟨gb369, 3, none⟩ = some (.bool t368) := (blk_cell BK369.out 3).trans rfl
                have hfz52_0 := blk_frozen BK369.out 0
                have hfz52_1 := blk_frozen BK369.out 1
                have hfz52_2 := blk_frozen BK369.out 2
                have hfz52_3 := blk_frozen BK369.out 3
                go_wp2_with (first | (go_at_call 30; (with_reducible refine (dualchannel_Closed.calls t365 t366 t367 t368 true _ A44.out).mono ?_); rintro e w53 ⟨rfl, hb⟩; have n0_ := Aside0.mk (blk_below (g := gb358) (o := .cells #[.int .u8 a1_0, .bool a1_1, .bool a1_2] 47 (0, 0)) (by (with_reducible repeat (first | refine blk_drewN ?_ _ | refine blk_drew ?_ | refine blk_alloc ?_ _)); exact BK358.out) hb); have n1_ := Aside0.mk (blk_below (g := gb364) (o := .cells #[.bool true, .bool t361, .int .i64 t362, .bool true] 44 (0, 0)) (by (with_reducible repeat (first | refine blk_drewN ?_ _ | refine blk_drew ?_ | refine blk_alloc ?_ _)); exact BK364.out) hb); have n2_ := Aside0.mk (blk_below (g := gb369) (o := .cells #[.bool t365, .bool t366, .int .i64 t367, .bool t368] 44 (0, 0)) (by (with_reducible repeat (first | refine blk_drewN ?_ _ | refine blk_drew ?_ | refine blk_alloc ?_ _)); exact BK369.out) hb); have n3_ := Aside0.mk (below_step (by repeat (first | (with_reducible first | exact HB.out | apply below_alloc | apply pw_below_drewN | apply below_drew1 | refine below_set ?_ GE358.out | refine below_set ?_ GE364.out | refine below_set ?_ GE369.out) | exact HB.out)) hb); clear BK358; clear BK364; clear BK369; clear HB; have BK358 := n0_; have BK364 := n1_; have BK369 := n2_; have HB := n3_; clear n0_ n1_ n2_ n3_; (try clear hb); (try clear hb2); (try clear hk); (try clear hi); have hcz54_0 : w53.cell? ⟨gb358, 0, none⟩ = some (.int .u8 a1_0) := (blk_cell BK358.out 0).trans rfl; have hcz54_1 : w53.cell? ⟨gb358, 1, none⟩ = some (.bool a1_1) := (blk_cell BK358.out 1).trans rfl; have hcz54_2 : w53.cell? ⟨gb358, 2, none⟩ = some (.bool a1_2) := (blk_cell BK358.out 2).trans rfl; have hfz54_0 := blk_frozen BK358.out 0; have hfz54_1 := blk_frozen BK358.out 1; have hfz54_2 := blk_frozen BK358.out 2; have hcz55_0 : w53.cell? ⟨gb364, 0, none⟩ = some (.bool true) := (blk_cell BK364.out 0).trans rfl; have hcz55_1 : w53.cell? ⟨gb364, 1, none⟩ = some (.bool t361) := (blk_cell BK364.out 1).trans rfl; have hcz55_2 : w53.cell? ⟨gb364, 2, none⟩ = some (.int .i64 t362) := (blk_cell BK364.out 2).trans rfl; have hcz55_3 : w53.cell? ⟨gb364, 3, none⟩ = some (.bool true) := (blk_cell BK364.out 3).trans rfl; have hfz55_0 := blk_frozen BK364.out 0; have hfz55_1 := blk_frozen BK364.out 1; have hfz55_2 := blk_frozen BK364.out 2; have hfz55_3 := blk_frozen BK364.out 3))
                go_ret
                exact ⟨by first | rfl | (simp [errW_none, errW_some] <;> rfl) | (simp [*, errW_none, errW_some] <;> rfl), by repeat (first | (with_reducible first | exact HB.out | apply below_alloc | apply pw_below_drewN | apply below_drew1 | refine below_set ?_ GE358.out | refine below_set ?_ GE364.out | refine below_set ?_ GE369.out) | exact HB.out)⟩
              · replace c47 := Bool.eq_false_iff.mpr c47
                subst c47
                have H1 : (some false) = some r := by rw [if_neg (show ¬ (false = true) by decide)] at H; exact H
                clear H
                have H := H1
                clear H1
                exact absurd HT.out (by rw [← Option.some.inj H]; decide)
            · rw [if_neg c46] at H
              have c46b0 : ((Int.tmod a1_0 8) == 0) = false := beq_eq_false_iff_ne.mpr c46
              have c46b1 : ((Int.tmod a1_0 8) != 0) = true := bne_iff_ne.mpr c46
              exact absurd HT.out (by rw [← Option.some.inj H]; decide)
          · replace c45 := Bool.eq_false_iff.mpr c45
            subst c45
            have H1 : (if true = true then (if t368 = true then (some true) else (if (Int.tmod a1_0 8) = 0 then (some (t360 == t361)) else (some false))) else (some false)) = some r := by rw [if_neg (show ¬ (false = true) by decide)] at H; exact H
            clear H
            have H := H1
            clear H1
            have H1 : (if t368 = true then (some true) else (if (Int.tmod a1_0 8) = 0 then (some (t360 == t361)) else (some false))) = some r := by first | (rw [if_pos rfl] at H; exact H) | (rw [if_pos True.intro] at H; exact H)
            clear H
            have H := H1
            clear H1
            by_cases c56 : t368 = true
            · subst c56
              have H1 : (some true) = some r := by rw [if_pos rfl] at H; exact H
              clear H
              have H := H1
              clear H1
              obtain rfl := Option.some.inj H
              have hnb57 := NB364_358.out
              have hnc57 := NB358_364.out
              have hnb58 := NB364_369.out
              have hnc58 := NB369_364.out
              have hcz59_0 : wc.cell? ⟨gb364, 0, none⟩ = some (.bool t360) := (blk_cell BK364.out 0).trans rfl
              have hcz59_1 : wc.cell? ⟨gb364, 1, none⟩ = some (.bool t361) := (blk_cell BK364.out 1).trans rfl
              have hcz59_2 : wc.cell? ⟨gb364, 2, none⟩ = some (.int .i64 t362) := (blk_cell BK364.out 2).trans rfl
              have hcz59_3 : wc.cell? ⟨gb364, 3, none⟩ = some (.bool true) := (blk_cell BK364.out 3).trans rfl
              have hfz59_0 := blk_frozen BK364.out 0
              have hfz59_1 := blk_frozen BK364.out 1
              have hfz59_2 := blk_frozen BK364.out 2
              have hfz59_3 := blk_frozen BK364.out 3
              have hnb60 := NB369_358.out
              have hnc60 := NB358_369.out
              have hcz61_0 : wc.cell? ⟨gb369, 0, none⟩ = some (.bool t365) := (blk_cell BK369.out 0).trans rfl
              have hcz61_1 : wc.cell? ⟨gb369, 1, none⟩ = some (.bool t366) := (blk_cell BK369.out 1).trans rfl
              have hcz61_2 : wc.cell? ⟨gb369, 2, none⟩ = some (.int .i64 t367) := (blk_cell BK369.out 2).trans rfl
              have hcz61_3 : wc.cell? ⟨gb369, 3, none⟩ = some (.bool true) := (blk_cell BK369.out 3).trans rfl
              have hfz61_0 := blk_frozen BK369.out 0
              have hfz61_1 := blk_frozen BK369.out 1
              have hfz61_2 := blk_frozen BK369.out 2
              have hfz61_3 := blk_frozen BK369.out 3
              go_wp2_with (first | (go_at_call 30; (with_reducible refine (dualchannel_Closed.calls t365 t366 t367 true false _ A44.out).mono ?_); rintro e w62 ⟨rfl, hb⟩; have n0_ := Aside0.mk (blk_below (g := gb358) (o := .cells #[.int .u8 a1_0, .bool a1_1, .bool a1_2] 47 (0, 0)) (by (with_reducible repeat (first | refine blk_drewN ?_ _ | refine blk_drew ?_ | refine blk_alloc ?_ _)); exact BK358.out) hb); have n1_ := Aside0.mk (blk_below (g := gb364) (o := .cells #[.bool t360, .bool t361, .int .i64 t362, .bool true] 44 (0, 0)) (by (with_reducible repeat (first | refine blk_drewN ?_ _ | refine blk_drew ?_ | refine blk_alloc ?_ _)); exact BK364.out) hb); have n2_ := Aside0.mk (blk_below (g := gb369) (o := .cells #[.bool t365, .bool t366, .int .i64 t367, .bool true] 44 (0, 0)) (by (with_reducible repeat (first | refine blk_drewN ?_ _ | refine blk_drew ?_ | refine blk_alloc ?_ _)); exact BK369.out) hb); have n3_ := Aside0.mk (below_step (by repeat (first | (with_reducible first | exact HB.out | apply below_alloc | apply pw_below_drewN | apply below_drew1 | refine below_set ?_ GE358.out | refine below_set ?_ GE364.out | refine below_set ?_ GE369.out) | exact HB.out)) hb); clear BK358; clear BK364; clear BK369; clear HB; have BK358 := n0_; have BK364 := n1_; have BK369 := n2_; have HB := n3_; clear n0_ n1_ n2_ n3_; (try clear hb); (try clear hb2); (try clear hk); (try clear hi); have hcz63_0 : w62.cell? ⟨gb364, 0, none⟩ = some (.bool t360) := (blk_cell BK364.out 0).trans rfl; have hcz63_1 : w62.cell? ⟨gb364, 1, none⟩ = some (.bool t361) := (blk_cell BK364.out 1).trans rfl; have hcz63_2 : w62.cell? ⟨gb364, 2, none⟩ = some (.int .i64 t362) := (blk_cell BK364.out 2).trans rfl; have hcz63_3 : w62.cell? ⟨gb364, 3, none⟩ = some (.bool true) := (blk_cell BK364.out 3).trans rfl; have hfz63_0 := blk_frozen BK364.out 0; have hfz63_1 := blk_frozen BK364.out 1; have hfz63_2 := blk_frozen BK364.out 2; have hfz63_3 := blk_frozen BK364.out 3; have hcz64_0 : w62.cell? ⟨gb369, 0, none⟩ = some (.bool t365) := (blk_cell BK369.out 0).trans rfl; have hcz64_1 : w62.cell? ⟨gb369, 1, none⟩ = some (.bool t366) := (blk_cell BK369.out 1).trans rfl; have hcz64_2 : w62.cell? ⟨gb369, 2, none⟩ = some (.int .i64 t367) := (blk_cell BK369.out 2).trans rfl; have hcz64_3 : w62.cell? ⟨gb369, 3, none⟩ = some (.bool true) := (blk_cell BK369.out 3).trans rfl; have hfz64_0 := blk_frozen BK369.out 0; have hfz64_1 := blk_frozen BK369.out 1; have hfz64_2 := blk_frozen BK369.out 2; have hfz64_3 := blk_frozen BK369.out 3))
              go_ret
              exact ⟨by first | rfl | (simp [errW_none, errW_some] <;> rfl) | (simp [*, errW_none, errW_some] <;> rfl), by repeat (first | (with_reducible first | exact HB.out | apply below_alloc | apply pw_below_drewN | apply below_drew1 | refine below_set ?_ GE358.out | refine below_set ?_ GE364.out | refine below_set ?_ GE369.out) | exact HB.out)⟩
            · replace c56 := Bool.eq_false_iff.mpr c56
              subst c56
              have H1 : (if (Int.tmod a1_0 8) = 0 then (some (t360 == t361)) else (some false)) = some r := by rw [if_neg (show ¬ (false = true) by decide)] at H; exact H
              clear H
              have H := H1
              clear H1
              by_cases c65 : (Int.tmod a1_0 8) = 0
              · rw [if_pos c65] at H
                have c65b0 : ((Int.tmod a1_0 8) == 0) = true := beq_iff_eq.mpr c65
                have c65b1 : ((Int.tmod a1_0 8) != 0) = false := bne_eq_false_iff_eq.mpr c65
                clear c65
                obtain rfl := Option.some.inj H
                have hnb66 := NB364_358.out
                have hnc66 := NB358_364.out
                have hnb67 := NB364_369.out
                have hnc67 := NB369_364.out
                have hcz68_0 : wc.cell? ⟨gb364, 0, none⟩ = some (.bool t360) := (blk_cell BK364.out 0).trans rfl
                have hcz68_1 : wc.cell? ⟨gb364, 1, none⟩ = some (.bool t361) := (blk_cell BK364.out 1).trans rfl
                have hcz68_2 : wc.cell? ⟨gb364, 2, none⟩ = some (.int .i64 t362) := (blk_cell BK364.out 2).trans rfl
                have hcz68_3 : wc.cell? ⟨gb364, 3, none⟩ = some (.bool true) := (blk_cell BK364.out 3).trans rfl
                have hfz68_0 := blk_frozen BK364.out 0
                have hfz68_1 := blk_frozen BK364.out 1
                have hfz68_2 := blk_frozen BK364.out 2
                have hfz68_3 := blk_frozen BK364.out 3
                have hnb69 := NB369_358.out
                have hnc69 := NB358_369.out
                have hcz70_0 : wc.cell? ⟨gb369, 0, none⟩ = some (.bool t365) := (blk_cell BK369.out 0).trans rfl
                have hcz70_1 : wc.cell? ⟨gb369, 1, none⟩ = some (.bool t366) := (blk_cell BK369.out 1).trans rfl
                have hcz70_2 : wc.cell? ⟨gb369, 2, none⟩ = some (.int .i64 t367) := (blk_cell BK369.out 2).trans rfl
                have hcz70_3 : wc.cell? ⟨gb369, 3, none⟩ = some (.bool false) := (blk_cell BK369.out 3).trans rfl
                have hfz70_0 := blk_frozen BK369.out 0
                have hfz70_1 := blk_frozen BK369.out 1
                have hfz70_2 := blk_frozen BK369.out 2
                have hfz70_3 := blk_frozen BK369.out 3
                go_wp2_with (first | (go_at_call 30; (with_reducible refine (dualchannel_Closed.calls t365 t366 t367 false false _ A44.out).mono ?_); rintro e w71 ⟨rfl, hb⟩; have n0_ := Aside0.mk (blk_below (g := gb358) (o := .cells #[.int .u8 a1_0, .bool a1_1, .bool a1_2] 47 (0, 0)) (by (with_reducible repeat (first | refine blk_drewN ?_ _ | refine blk_drew ?_ | refine blk_alloc ?_ _)); exact BK358.out) hb); have n1_ := Aside0.mk (blk_below (g := gb364) (o := .cells #[.bool t360, .bool t361, .int .i64 t362, .bool true] 44 (0, 0)) (by (with_reducible repeat (first | refine blk_drewN ?_ _ | refine blk_drew ?_ | refine blk_alloc ?_ _)); exact BK364.out) hb); have n2_ := Aside0.mk (blk_below (g := gb369) (o := .cells #[.bool t365, .bool t366, .int .i64 t367, .bool false] 44 (0, 0)) (by (with_reducible repeat (first | refine blk_drewN ?_ _ | refine blk_drew ?_ | refine blk_alloc ?_ _)); exact BK369.out) hb); have n3_ := Aside0.mk (below_step (by repeat (first | (with_reducible first | exact HB.out | apply below_alloc | apply pw_below_drewN | apply below_drew1 | refine below_set ?_ GE358.out | refine below_set ?_ GE364.out | refine below_set ?_ GE369.out) | exact HB.out)) hb); clear BK358; clear BK364; clear BK369; clear HB; have BK358 := n0_; have BK364 := n1_; have BK369 := n2_; have HB := n3_; clear n0_ n1_ n2_ n3_; (try clear hb); (try clear hb2); (try clear hk); (try clear hi); have hcz72_0 : w71.cell? ⟨gb364, 0, none⟩ = some (.bool t360) := (blk_cell BK364.out 0).trans rfl; have hcz72_1 : w71.cell? ⟨gb364, 1, none⟩ = some (.bool t361) := (blk_cell BK364.out 1).trans rfl; have hcz72_2 : w71.cell? ⟨gb364, 2, none⟩ = some (.int .i64 t362) := (blk_cell BK364.out 2).trans rfl; have hcz72_3 : w71.cell? ⟨gb364, 3, none⟩ = some (.bool true) := (blk_cell BK364.out 3).trans rfl; have hfz72_0 := blk_frozen BK364.out 0; have hfz72_1 := blk_frozen BK364.out 1; have hfz72_2 := blk_frozen BK364.out 2; have hfz72_3 := blk_frozen BK364.out 3; have hcz73_0 : w71.cell? ⟨gb369, 0, none⟩ = some (.bool t365) := (blk_cell BK369.out 0).trans rfl; have hcz73_1 : w71.cell? ⟨gb369, 1, none⟩ = some (.bool t366) := (blk_cell BK369.out 1).trans rfl; have hcz73_2 : w71.cell? ⟨gb369, 2, none⟩ = some (.int .i64 t367) := (blk_cell BK369.out 2).trans rfl; have hcz73_3 : w71.cell? ⟨gb369, 3, none⟩ = some (.bool false) := (blk_cell BK369.out 3).trans rfl; have hfz73_0 := blk_frozen BK369.out 0; have hfz73_1 := blk_frozen BK369.out 1; have hfz73_2 := blk_frozen BK369.out 2; have hfz73_3 := blk_frozen BK369.out 3; have hcz74_0 : w71.cell? ⟨gb358, 0, none⟩ = some (.int .u8 a1_0) := (blk_cell BK358.out 0).trans rfl; have hcz74_1 : w71.cell? ⟨gb358, 1, none⟩ = some (.bool a1_1) := (blk_cell BK358.out 1).trans rfl; have hcz74_2 : w71.cell? ⟨gb358, 2, none⟩ = some (.bool a1_2) := (blk_cell BK358.out 2).trans rfl; have hfz74_0 := blk_frozen BK358.out 0; have hfz74_1 := blk_frozen BK358.out 1; have hfz74_2 := blk_frozen BK358.out 2))
                go_ret
                exact ⟨by first | rfl | (simp [errW_none, errW_some] <;> rfl) | (simp [*, errW_none, errW_some] <;> rfl), by repeat (first | (with_reducible first | exact HB.out | apply below_alloc | apply pw_below_drewN | apply below_drew1 | refine below_set ?_ GE358.out | refine below_set ?_ GE364.out | refine below_set ?_ GE369.out) | exact HB.out)⟩
              · rw [if_neg c65] at H
                have c65b0 : ((Int.tmod a1_0 8) == 0) = false := beq_eq_false_iff_ne.mpr c65
                have c65b1 : ((Int.tmod a1_0 8) != 0) = true := bne_iff_ne.mpr c65
                exact absurd HT.out (by rw [← Option.some.inj H]; decide)
        · replace c43 := Bool.eq_false_iff.mpr c43
          subst c43
          have H1 : (if true = true then (some true) else (some false)) = some r := by rw [if_neg (show ¬ (false = true) by decide)] at H; exact H
          clear H
          have H := H1
          clear H1
          have H1 : (some true) = some r := by first | (rw [if_pos rfl] at H; exact H) | (rw [if_pos True.intro] at H; exact H)
          clear H
          have H := H1
          clear H1
          obtain rfl := Option.some.inj H
          have hnb75 := NB364_358.out
          have hnc75 := NB358_364.out
          have hnb76 := NB364_369.out
          have hnc76 := NB369_364.out
          have hcz77_0 : wc.cell? ⟨gb364, 0, none⟩ = some (.bool t360) := (blk_cell BK364.out 0).trans rfl
          have hcz77_1 : wc.cell? ⟨gb364, 1, none⟩ = some (.bool t361) := (blk_cell BK364.out 1).trans rfl
          have hcz77_2 : wc.cell? ⟨gb364, 2, none⟩ = some (.int .i64 t362) := (blk_cell BK364.out 2).trans rfl
          have hcz77_3 : wc.cell? ⟨gb364, 3, none⟩ = some (.bool false) := (blk_cell BK364.out 3).trans rfl
          have hfz77_0 := blk_frozen BK364.out 0
          have hfz77_1 := blk_frozen BK364.out 1
          have hfz77_2 := blk_frozen BK364.out 2
          have hfz77_3 := blk_frozen BK364.out 3
          go_wp2
          go_ret
          exact ⟨by first | rfl | (simp [errW_none, errW_some] <;> rfl) | (simp [*, errW_none, errW_some] <;> rfl), by repeat (first | (with_reducible first | exact HB.out | apply below_alloc | apply pw_below_drewN | apply below_drew1 | refine below_set ?_ GE358.out | refine below_set ?_ GE364.out | refine below_set ?_ GE369.out) | exact HB.out)⟩

end Go.Proofs.Ythnbcedpdjingaa.P
