-- Written by this session's own program, for this seat. Lean checks it.
import Derived.Test.YtjcefdockfbnaaaP0
import Derived.Test.YtjcefdockfbnaaaP1
import Derived.Test.YtjcefdockfbnaaaP2
import Derived.Test.YtjcefdockfbnaaaP3
import Derived.Test.YtjcefdockfbnaaaP4
import Derived.Test.YtjcefdockfbnaaaP6
namespace Go.Proofs.Ytjcefdockfbnaaa.P
open Go.RowKit Go.Proofs.YtjcefdockfbnaaaW.PrintWords Go.Proofs.YtjcefdockfbnaaaW.PrintLast Go.Proofs.YtjcefdockfbnaaaW.PrintMore
attribute [local go_sem] max2_int min2_int max_two min_two max_three min_three max_four min_four   -- for this text's walks alone
set_option linter.unusedVariables false
set_option linter.unusedSimpArgs false

attribute [local go_sem high] eqA37

/-! ### ambidexterref22_Leads: function 23 -/
mutual
def ambidexterref22_Leads.l0 : Nat → Int → List Int → Int → Int → Int → Int → Int → Int → Int → Option (Bool)
  | 0, _, _, _, _, _, _, _, _, _ => none
  | k + 1, x1, x2, x8, x278000, x278001, x278002, x279000, x279001, x279002 => if x8 < (x2.length : Int) then (if 0 ≤ x8 then (if (rd x2 x8) < (wrap64 (-x278002)) then (ambidexterref22_Leads.j1 k x1 x2 x8 true x278000 x278001 x278002 x279000 x279001 x279002) else (ambidexterref22_Leads.j1 k x1 x2 x8 (decide ((rd x2 x8) > x278002)) x278000 x278001 x278002 x279000 x279001 x279002)) else (none)) else (some (x279000 == x1 && (x279001 == 0 && (x279002 == 0))))
def ambidexterref22_Leads.j1 : Nat → Int → List Int → Int → Bool → Int → Int → Int → Int → Int → Int → Option (Bool)
  | 0, _, _, _, _, _, _, _, _, _, _ => none
  | k + 1, x1, x2, x8, x32, x278000, x278001, x278002, x279000, x279001, x279002 => if x32 = true then (some false) else (if 0 ≤ x8 then (if x8 < (x2.length : Int) then ((ambidexterref21_Tick.f x279000 x279001 x279002 (rd x2 x8)).bind fun bt282 => ((ambidexterref22_may.f x278000 x278001 x278002 x1 bt282.1 bt282.2.1 bt282.2.2).bind fun t285 => (if t285 = true then (ambidexterref22_Leads.l0 k x1 x2 (wrap64 (x8 + 1)) x278000 x278001 x278002 bt282.1 bt282.2.1 bt282.2.2) else (some false)))) else (none)) else (none))
end
def ambidexterref22_Leads.f (k : Nat) (a0_0 : Int) (a0_1 : Int) (a0_2 : Int) (a1 : Int) (l2 : List Int) : Option (Bool) := ambidexterref22_Leads.l0 k a1 l2 0 a0_0 a0_1 a0_2 0 0 0
theorem ambidexterref22_Leads.mono_l : ∀ k, (∀ y0 y1 y2 y3 y4 y5 y6 y7 y8, LeO (ambidexterref22_Leads.l0 k y0 y1 y2 y3 y4 y5 y6 y7 y8) (ambidexterref22_Leads.l0 (k + 1) y0 y1 y2 y3 y4 y5 y6 y7 y8)) ∧ (∀ y0 y1 y2 y3 y4 y5 y6 y7 y8 y9, LeO (ambidexterref22_Leads.j1 k y0 y1 y2 y3 y4 y5 y6 y7 y8 y9) (ambidexterref22_Leads.j1 (k + 1) y0 y1 y2 y3 y4 y5 y6 y7 y8 y9))
  | 0 => ⟨fun _ _ _ _ _ _ _ _ _ r h => by simp [ambidexterref22_Leads.l0] at h, fun _ _ _ _ _ _ _ _ _ _ r h => by simp [ambidexterref22_Leads.j1] at h⟩
  | k + 1 => by
    obtain ⟨ih0, ih1⟩ := ambidexterref22_Leads.mono_l k
    refine ⟨?_, ?_⟩
    · intro y0 y1 y2 y3 y4 y5 y6 y7 y8
      unfold ambidexterref22_Leads.l0
      repeat' first
      | (with_reducible exact ih0 _ _ _ _ _ _ _ _ _)
      | (with_reducible exact ih1 _ _ _ _ _ _ _ _ _ _)
      | (with_reducible exact LeO.refl _)
      | (with_reducible exact LeO.none _)
      | (with_reducible refine LeO.ite ?_ ?_)
      | (with_reducible refine LeO.bind ?_ (fun _ => ?_))
      | exact ih0 _ _ _ _ _ _ _ _ _
      | exact ih1 _ _ _ _ _ _ _ _ _ _
      | exact LeO.none _
      | refine LeO.ite ?_ ?_
      | refine LeO.bind ?_ (fun _ => ?_)
    · intro y0 y1 y2 y3 y4 y5 y6 y7 y8 y9
      unfold ambidexterref22_Leads.j1
      repeat' first
      | (with_reducible exact ih0 _ _ _ _ _ _ _ _ _)
      | (with_reducible exact ih1 _ _ _ _ _ _ _ _ _ _)
      | (with_reducible exact LeO.refl _)
      | (with_reducible exact LeO.none _)
      | (with_reducible refine LeO.ite ?_ ?_)
      | (with_reducible refine LeO.bind ?_ (fun _ => ?_))
      | exact ih0 _ _ _ _ _ _ _ _ _
      | exact ih1 _ _ _ _ _ _ _ _ _ _
      | exact LeO.none _
      | refine LeO.ite ?_ ?_
      | refine LeO.bind ?_ (fun _ => ?_)
theorem ambidexterref22_Leads.mono : ∀ a0 a1 a2 a3 a4 k, LeO (ambidexterref22_Leads.f k a0 a1 a2 a3 a4) (ambidexterref22_Leads.f (k + 1) a0 a1 a2 a3 a4) := by
  intro a0 a1 a2 a3 a4 k
  obtain ⟨ih0, ih1⟩ := ambidexterref22_Leads.mono_l k
  unfold ambidexterref22_Leads.f
  repeat' first
      | (with_reducible exact ih0 _ _ _ _ _ _ _ _ _)
      | (with_reducible exact ih1 _ _ _ _ _ _ _ _ _ _)
      | (with_reducible exact LeO.refl _)
      | (with_reducible exact LeO.none _)
      | (with_reducible refine LeO.ite ?_ ?_)
      | (with_reducible refine LeO.bind ?_ (fun _ => ?_))
      | exact ih0 _ _ _ _ _ _ _ _ _
      | exact ih1 _ _ _ _ _ _ _ _ _ _
      | exact LeO.none _
      | refine LeO.ite ?_ ?_
      | refine LeO.bind ?_ (fun _ => ?_)
def ambidexterref22_Leads.T5 : Bool × List (List Nat × List Nat) := (true, [([], []), ([], []), ([0, 1], [0, 1]), ([2], [2]), ([], []), ([4], [4]), ([5], [5]), ([3, 6], [3, 6]), ([7], [7]), ([8], [8]), ([8], [8]), ([9, 10, 8], [8, 9, 10]), ([11, 8], [8, 11]), ([8], [8]), ([13, 8], [8, 13]), ([12, 14, 8], [8, 12, 14]), ([8, 15], [8, 15])])
def ambidexterref22_Leads.B5 : List Nat := [0, 0, 3, 7, 0, 16, 48, 127, 255, 511, 511, 2047, 4095, 511, 8703, 32767, 65535]
theorem ambidexterref22_Leads.tab5 : rtab .any (opsOf Try.f23 5) = ambidexterref22_Leads.T5 := by kernel_rfl
theorem ambidexterref22_Leads.bits5 : waitsOk ambidexterref22_Leads.T5.2 ambidexterref22_Leads.B5 = true := by kernel_rfl
set_option maxHeartbeats 8000000 in
set_option maxRecDepth 100000 in
theorem ambidexterref22_Leads.calls (k : Nat) (a0_0 : Int) (a0_1 : Int) (a0_2 : Int) (a1 : Int) (A2 : Option Addr) (c2 : Nat) (l2 : List Int) (r : Bool) (w : World) (hr2 : Kd.C (Kd.int .i64) w A2 l2.length l2) (hc2 : l2.length ≤ c2) (h : ambidexterref22_Leads.f k a0_0 a0_1 a0_2 a1 l2 = some r) :
    Calls Try.prog 23 #[.agg #[.int .i64 a0_0, .int .i64 a0_1, .int .i64 a0_2], .int .i64 a1, .slice A2 l2.length c2] w fun e w' => e = .returned (.bool r) ∧ Below w.heap.size w w' := by
  have hu23 := Try.underlying23
  have hu37 := Try.underlying37
  have HR2 := Aside0.mk hr2
  have HC2 := Aside0.mk hc2
  clear hr2 hc2
  have HB := Aside0.mk (Below.refl w.heap.size w)
  have H : (ambidexterref22_Leads.l0 k a1 l2 0 a0_0 a0_1 a0_2 0 0 0) = some r := h
  clear h
  have H' := Aside0.mk H
  clear H
  go_enter Try.func23, Try.ntmps23
  go_wp2_with (first | ((with_reducible refine gate_dst (N := 3) rfl ?_); refine box_event ?hg (N := 3) ?hd (cs := #[.int .i64 a0_0, .int .i64 a0_1, .int .i64 a0_2]) (t := 23) ?hr ?_; (case hd => rfl); (case hg => rfl); (case hr => first | (go_simp; done) | (go_simp; rfl)); intro gb277 hg w4 hbox hb; have n0_ := Aside0.mk (below_step (by repeat (first | (with_reducible first | exact HB.out | apply below_alloc | apply pw_below_drewN | apply below_drew1) | exact HB.out)) hb); have n1_ := Aside0.mk (hbox); have n2_ := Aside0.mk ((by rw [hg]; exact (below_size (by repeat (first | (with_reducible first | exact HB.out | apply below_alloc | apply pw_below_drewN | apply below_drew1) | exact HB.out))) : w.heap.size ≤ gb277)); have n3_ := Aside0.mk ((by rw [hg]; exact (below_size (by repeat (first | (with_reducible first | exact HB.out | apply below_alloc | apply pw_below_drewN | apply below_drew1) | exact HB.out))) : w.heap.size ≤ gb277)); clear HB; have HB := n0_; have BK277 := n1_; have GW277 := n2_; have GE277 := n3_; clear n0_ n1_ n2_ n3_; clear hb hbox hg) | ((with_reducible refine gate_dst (N := 7) rfl ?_); refine box_event ?hg (N := 7) ?hd (cs := #[.int .i64 0, .int .i64 0, .int .i64 0]) (t := 37) ?hr ?_; (case hd => rfl); (case hg => rfl); (case hr => first | (go_simp; done) | (go_simp; rfl)); intro gb278 hg w5 hbox hb; have n0_ := Aside0.mk (blk_below (g := gb277) (o := .cells #[.int .i64 a0_0, .int .i64 a0_1, .int .i64 a0_2] 23 (0, 0)) (by (with_reducible repeat (first | refine blk_drewN ?_ _ | refine blk_drew ?_ | refine blk_alloc ?_ _)); exact BK277.out) hb); have n1_ := Aside0.mk (below_step (by repeat (first | (with_reducible first | exact HB.out | apply below_alloc | apply pw_below_drewN | apply below_drew1 | refine below_set ?_ GE277.out) | exact HB.out)) hb); have n2_ := Aside0.mk (hbox); have n3_ := Aside0.mk ((by rw [hg]; exact (below_size (by repeat (first | (with_reducible first | exact HB.out | apply below_alloc | apply pw_below_drewN | apply below_drew1 | refine below_set ?_ GE277.out) | exact HB.out))) : w.heap.size ≤ gb278)); have n4_ := Aside0.mk ((by rw [hg]; exact (below_size (by repeat (first | (with_reducible first | exact HB.out | apply below_alloc | apply pw_below_drewN | apply below_drew1 | refine below_set ?_ GE277.out) | exact HB.out))) : w.heap.size ≤ gb278)); have n5_ := Aside0.mk ((by rw [hg]; exact Nat.ne_of_lt (blk_lt (g := gb277) (o := .cells #[.int .i64 a0_0, .int .i64 a0_1, .int .i64 a0_2] 23 (0, 0)) (by (with_reducible repeat (first | refine blk_drewN ?_ _ | refine blk_drew ?_ | refine blk_alloc ?_ _)); exact BK277.out)) : gb277 ≠ gb278)); have n6_ := Aside0.mk ((by rw [hg]; exact Nat.ne_of_gt (blk_lt (g := gb277) (o := .cells #[.int .i64 a0_0, .int .i64 a0_1, .int .i64 a0_2] 23 (0, 0)) (by (with_reducible repeat (first | refine blk_drewN ?_ _ | refine blk_drew ?_ | refine blk_alloc ?_ _)); exact BK277.out)) : gb278 ≠ gb277)); clear BK277; clear HB; have BK277 := n0_; have HB := n1_; have BK278 := n2_; have GW278 := n3_; have GE278 := n4_; have NB277_278 := n5_; have NB278_277 := n6_; clear n0_ n1_ n2_ n3_ n4_ n5_ n6_; clear hb hbox hg; have hnb6 := NB278_277.out; have hnc6 := NB277_278.out; have hcz7_0 : w5.cell? ⟨gb278, 0, none⟩ = some (.int .i64 0) := (blk_cell BK278.out 0).trans rfl; have hcz7_1 : w5.cell? ⟨gb278, 1, none⟩ = some (.int .i64 0) := (blk_cell BK278.out 1).trans rfl; have hcz7_2 : w5.cell? ⟨gb278, 2, none⟩ = some (.int .i64 0) := (blk_cell BK278.out 2).trans rfl; have hfz7_0 := blk_frozen BK278.out 0; have hfz7_1 := blk_frozen BK278.out 1; have hfz7_2 := blk_frozen BK278.out 2))
  go_loopg [8] k (fun kq v8 w' => ∃ (x8_1 : Int) (x279000_1 : Int) (x279001_1 : Int) (x279002_1 : Int), v8 = .int .i64 x8_1 ∧ Aside0 (ambidexterref22_Leads.l0 kq a1 l2 x8_1 a0_0 a0_1 a0_2 x279000_1 x279001_1 x279002_1 = some r) ∧ Aside0 (kq ≤ k) ∧ Aside0 (w'.heap[gb277]? = some (.cells #[.int .i64 a0_0, .int .i64 a0_1, .int .i64 a0_2] 23 (0, 0))) ∧ Aside0 (w'.heap[gb278]? = some (.cells #[.int .i64 x279000_1, .int .i64 x279001_1, .int .i64 x279002_1] 37 (0, 0))) ∧ Aside0 (Below w.heap.size w w'))
  case atStart => exact ⟨(0), (0), (0), (0), (by first | rfl | (simp; done) | (simp [*]; done)), H', ⟨Nat.le_refl _⟩, ⟨by (with_reducible repeat (first | refine blk_drewN ?_ _ | refine blk_drew ?_ | refine blk_alloc ?_ _)); refine blk_far ?_ NB277_278.out _; (with_reducible repeat (first | refine blk_drewN ?_ _ | refine blk_drew ?_ | refine blk_alloc ?_ _)); refine blk_far ?_ NB277_278.out _; (with_reducible repeat (first | refine blk_drewN ?_ _ | refine blk_drew ?_ | refine blk_alloc ?_ _)); refine blk_far ?_ NB277_278.out _; (with_reducible repeat (first | refine blk_drewN ?_ _ | refine blk_drew ?_ | refine blk_alloc ?_ _)); exact BK277.out⟩, ⟨by (with_reducible repeat (first | refine blk_drewN ?_ _ | refine blk_drew ?_ | refine blk_alloc ?_ _)); refine blk_put (cs := #[.int .i64 0, .int .i64 0, .int .i64 0]) ?_ 2 _ rfl; (with_reducible repeat (first | refine blk_drewN ?_ _ | refine blk_drew ?_ | refine blk_alloc ?_ _)); refine blk_put (cs := #[.int .i64 0, .int .i64 0, .int .i64 0]) ?_ 1 _ rfl; (with_reducible repeat (first | refine blk_drewN ?_ _ | refine blk_drew ?_ | refine blk_alloc ?_ _)); refine blk_put (cs := #[.int .i64 0, .int .i64 0, .int .i64 0]) ?_ 0 _ rfl; (with_reducible repeat (first | refine blk_drewN ?_ _ | refine blk_drew ?_ | refine blk_alloc ?_ _)); exact BK278.out⟩, ⟨by repeat (first | (with_reducible first | exact HB.out | apply below_alloc | apply pw_below_drewN | apply below_drew1 | refine below_set ?_ GE277.out | refine below_set ?_ GE278.out) | exact HB.out)⟩⟩
  case round =>
    clear H'
    try clear c2
    try clear p2
    try clear c6
    try clear hcz7_0
    try clear hcz7_1
    try clear hcz7_2
    try clear hfz7_0
    try clear hfz7_1
    try clear hfz7_2
    obtain ⟨x8_1, x279000_1, x279001_1, x279002_1, rfl, HA, HK1, BK277, BK278, HB⟩ := hrel
    cases gk with
    | zero => exact absurd HA.out (by simp [ambidexterref22_Leads.l0])
    | succ k1 =>
      have H := HA.out
      clear HA
      simp only [ambidexterref22_Leads.l0] at H
      by_cases c8 : x8_1 < (l2.length : Int)
      · rw [if_pos c8] at H
        have c8b0 : decide (x8_1 < (l2.length : Int)) = true := decide_eq_true c8
        clear c8
        have HC9 := Aside0.mk H
        clear H
        go_upto_region 5 with (fail)
        go_cut [32] (fun v32 wc => ∃ (kq : Nat) (x32_8 : Bool), v32 = .bool x32_8 ∧ Aside0 (ambidexterref22_Leads.j1 kq a1 l2 x8_1 x32_8 a0_0 a0_1 a0_2 x279000_1 x279001_1 x279002_1 = some r) ∧ Aside0 (kq ≤ k1) ∧ Aside0 (wc.heap[gb277]? = some (.cells #[.int .i64 a0_0, .int .i64 a0_1, .int .i64 a0_2] 23 (0, 0))) ∧ Aside0 (wc.heap[gb278]? = some (.cells #[.int .i64 x279000_1, .int .i64 x279001_1, .int .i64 x279002_1] 37 (0, 0))) ∧ Aside0 (Below w.heap.size w wc))
        case first =>
          have H := HC9.out
          clear HC9
          by_cases c10 : 0 ≤ x8_1
          · rw [if_pos c10] at H
            have c10b0 : decide (0 ≤ x8_1) = true := decide_eq_true c10
            clear c10
            (first | rw [c10b0] | (simp only [i64_w, i32_w]; rw [c10b0]) | skip)
            by_cases c11 : (rd l2 x8_1) < (wrap64 (-a0_2))
            · rw [if_pos c11] at H
              have c11b0 : decide ((rd l2 x8_1) < (wrap64 (-a0_2))) = true := decide_eq_true c11
              clear c11
              have H' := Aside0.mk H
              clear H
              try go_wp2
              have n0_ := Aside0.mk (blk_drew BK277.out)
              have n1_ := Aside0.mk (blk_drew BK278.out)
              have n2_ := Aside0.mk (below_drew1 HB.out)
              clear BK277
              clear BK278
              clear HB
              have BK277 := n0_
              have BK278 := n1_
              have HB := n2_
              clear n0_ n1_ n2_
              have p279 : 0 ≤ (x8_1 : Int) := of_decide_eq_true (by first | (with_reducible assumption) | assumption)
              have q279 : x8_1 < (l2.length : Int) := of_decide_eq_true (by first | (with_reducible assumption) | assumption)
              obtain ⟨ad279, e279, hx279_0⟩ := Kd.at_int HR2.out x8_1 p279 q279
              have hw279_0 := hx279_0
              cases e279
              replace hx279_0 := (HB.out.cell (World.block_lt_of_cell? w _ hx279_0)).trans hx279_0
              replace p279 := eq_true p279
              replace q279 := eq_true q279
              refine start_ (n := 17) (S := fun w' => w'.cell? ⟨gb277, 0, none⟩ = some (.int .i64 a0_0) ∧ w'.cell? ⟨gb277, 1, none⟩ = some (.int .i64 a0_1) ∧ w'.cell? ⟨gb277, 2, none⟩ = some (.int .i64 a0_2) ∧ w'.cell? (ad279.add (x8_1).toNat) = some (.int .i64 (rd l2 x8_1))) (ds := []) #[false, false, false, false, false, false, false, false, false, false, false, false, false, false, false, false, false] (by kernel_rfl) rfl rfl ⟨(blk_cell BK277.out 0).trans rfl, (blk_cell BK277.out 1).trans rfl, (blk_cell BK277.out 2).trans rfl, ((HB.out.cell (World.block_lt_of_cell? w _ hw279_0)).trans hw279_0)⟩ (fun hHeld => ?_); refine with_tabW ambidexterref22_Leads.tab5 ambidexterref22_Leads.bits5 (fun HT_ HW_ => ?_)
              generalize wr.drew = w12 at BK277 BK278 HB hx279_0 hHeld ⊢
              refine pure_ (i := 0) (N := some 16) (v := ?_) (a' := ?_) #[true, false, false, false, false, false, false, false, false, false, false, false, false, false, false, false, false] rfl rfl (any_of HT_.out (by kernel_rfl)) (fun _ _ _ h => h) (Or.inl ⟨by rfl, ?_⟩) ?_ ?_
              rotate_left
              · intro w'
                go_simp
                with_reducible rfl
              rotate_left
              · simp only [Act.put, List.setIfInBounds_toArray, List.set_cons_zero, List.set_cons_succ, i64_w, i32_w]
                rfl
              refine pure_ (i := 1) (N := some 17) (v := ?_) (a' := ?_) #[true, true, false, false, false, false, false, false, false, false, false, false, false, false, false, false, false] rfl rfl (any_of HT_.out (by kernel_rfl)) (fun _ _ _ h => h) (Or.inl ⟨by rfl, ?_⟩) ?_ ?_
              rotate_left
              · intro w'
                go_simp
                with_reducible rfl
              rotate_left
              · simp only [Act.put, List.setIfInBounds_toArray, List.set_cons_zero, List.set_cons_succ, i64_w, i32_w]
                rfl
              refine pure_ (i := 2) (N := some 18) (v := ?_) (a' := ?_) #[true, true, true, false, false, false, false, false, false, false, false, false, false, false, false, false, false] rfl rfl (any_of HT_.out (by kernel_rfl)) (fun _ _ _ h => h) (Or.inl ⟨by rfl, ?_⟩) ?_ ?_
              rotate_left
              · intro w'
                go_simp
                with_reducible rfl
              rotate_left
              · simp only [Act.put, List.setIfInBounds_toArray, List.set_cons_zero, List.set_cons_succ, i64_w, i32_w]
                rfl
              refine pure_ (i := 4) (N := some 20) (v := ?_) (a' := ?_) #[true, true, true, false, true, false, false, false, false, false, false, false, false, false, false, false, false] rfl rfl (any_of HT_.out (by kernel_rfl)) (fun _ _ _ h => h) (Or.inl ⟨by rfl, ?_⟩) ?_ ?_
              rotate_left
              · intro w'
                go_simp
                with_reducible rfl
              rotate_left
              · simp only [Act.put, List.setIfInBounds_toArray, List.set_cons_zero, List.set_cons_succ, i64_w, i32_w]
                rfl
              refine take_ (i := 3) (N := some 19) (v := ?_) (a' := ?_) #[true, true, true, true, true, false, false, false, false, false, false, false, false, false, false, false, false] rfl rfl (take_ofW HT_.out HW_.out (by kernel_rfl)) (fun _ _ _ h => h) (Or.inl ⟨by rfl, ?_⟩) hHeld ?_ ?_
              rotate_left
              · rintro w' ⟨s0, s1, s2, s3⟩
                go_simp
                with_reducible rfl
              rotate_left
              · simp only [Act.put, List.setIfInBounds_toArray, List.set_cons_zero, List.set_cons_succ, i64_w, i32_w]
                rfl
              refine take_ (i := 5) (N := some 21) (v := ?_) (a' := ?_) #[true, true, true, true, true, true, false, false, false, false, false, false, false, false, false, false, false] rfl rfl (take_ofW HT_.out HW_.out (by kernel_rfl)) (fun _ _ _ h => h) (Or.inl ⟨by rfl, ?_⟩) hHeld ?_ ?_
              rotate_left
              · rintro w' ⟨s0, s1, s2, s3⟩
                go_simp
                with_reducible rfl
              rotate_left
              · simp only [Act.put, List.setIfInBounds_toArray, List.set_cons_zero, List.set_cons_succ, i64_w, i32_w]
                rfl
              refine pure_ (i := 6) (N := some 22) (v := ?_) (a' := ?_) #[true, true, true, true, true, true, true, false, false, false, false, false, false, false, false, false, false] rfl rfl (any_of HT_.out (by kernel_rfl)) (fun _ _ _ h => h) (Or.inl ⟨by rfl, ?_⟩) ?_ ?_
              rotate_left
              · intro w'
                go_simp
                with_reducible rfl
              rotate_left
              · simp only [Act.put, List.setIfInBounds_toArray, List.set_cons_zero, List.set_cons_succ, i64_w, i32_w]
                rfl
              refine pure_ (i := 7) (N := some 23) (v := ?_) (a' := ?_) #[true, true, true, true, true, true, true, true, false, false, false, false, false, false, false, false, false] rfl rfl (any_of HT_.out (by kernel_rfl)) (fun _ _ _ h => h) (Or.inl ⟨by rfl, ?_⟩) ?_ ?_
              rotate_left
              · intro w'
                go_simp
                with_reducible rfl
              rotate_left
              · simp only [Act.put, List.setIfInBounds_toArray, List.set_cons_zero, List.set_cons_succ, i64_w, i32_w]
                rfl
              refine pure_ (i := 8) (N := some 24) (v := ?_) (a' := ?_) #[true, true, true, true, true, true, true, true, true, false, false, false, false, false, false, false, false] rfl rfl (any_of HT_.out (by kernel_rfl)) (fun _ _ _ h => h) (Or.inl ⟨by rfl, ?_⟩) ?_ ?_
              rotate_left
              · intro w'
                go_simp
                with_reducible rfl
              rotate_left
              · simp only [Act.put, List.setIfInBounds_toArray, List.set_cons_zero, List.set_cons_succ, i64_w, i32_w]
                rfl
              refine pure_ (i := 9) (N := some 25) (v := undef) (a' := ?_) #[true, true, true, true, true, true, true, true, true, true, false, false, false, false, false, false, false] rfl rfl (any_of HT_.out (by kernel_rfl)) (fun _ _ _ h => h) (Or.inr ⟨by rfl, rfl⟩) ?_ ?_
              rotate_left
              · simp only [Act.put, List.setIfInBounds_toArray, List.set_cons_zero, List.set_cons_succ, i64_w, i32_w]
                rfl
              refine pure_ (i := 10) (N := some 26) (v := undef) (a' := ?_) #[true, true, true, true, true, true, true, true, true, true, true, false, false, false, false, false, false] rfl rfl (any_of HT_.out (by kernel_rfl)) (fun _ _ _ h => h) (Or.inr ⟨by rfl, rfl⟩) ?_ ?_
              rotate_left
              · simp only [Act.put, List.setIfInBounds_toArray, List.set_cons_zero, List.set_cons_succ, i64_w, i32_w]
                rfl
              refine pure_ (i := 11) (N := some 27) (v := undef) (a' := ?_) #[true, true, true, true, true, true, true, true, true, true, true, true, false, false, false, false, false] rfl rfl (any_of HT_.out (by kernel_rfl)) (fun _ _ _ h => h) (Or.inr ⟨by rfl, rfl⟩) ?_ ?_
              rotate_left
              · simp only [Act.put, List.setIfInBounds_toArray, List.set_cons_zero, List.set_cons_succ, i64_w, i32_w]
                rfl
              refine pure_ (i := 12) (N := some 28) (v := undef) (a' := ?_) #[true, true, true, true, true, true, true, true, true, true, true, true, true, false, false, false, false] rfl rfl (any_of HT_.out (by kernel_rfl)) (fun _ _ _ h => h) (Or.inr ⟨by rfl, rfl⟩) ?_ ?_
              rotate_left
              · simp only [Act.put, List.setIfInBounds_toArray, List.set_cons_zero, List.set_cons_succ, i64_w, i32_w]
                rfl
              refine pure_ (i := 13) (N := some 29) (v := undef) (a' := ?_) #[true, true, true, true, true, true, true, true, true, true, true, true, true, true, false, false, false] rfl rfl (any_of HT_.out (by kernel_rfl)) (fun _ _ _ h => h) (Or.inr ⟨by rfl, rfl⟩) ?_ ?_
              rotate_left
              · simp only [Act.put, List.setIfInBounds_toArray, List.set_cons_zero, List.set_cons_succ, i64_w, i32_w]
                rfl
              refine pure_ (i := 14) (N := some 30) (v := undef) (a' := ?_) #[true, true, true, true, true, true, true, true, true, true, true, true, true, true, true, false, false] rfl rfl (any_of HT_.out (by kernel_rfl)) (fun _ _ _ h => h) (Or.inr ⟨by rfl, rfl⟩) ?_ ?_
              rotate_left
              · simp only [Act.put, List.setIfInBounds_toArray, List.set_cons_zero, List.set_cons_succ, i64_w, i32_w]
                rfl
              refine pure_ (i := 15) (N := some 31) (v := undef) (a' := ?_) #[true, true, true, true, true, true, true, true, true, true, true, true, true, true, true, true, false] rfl rfl (any_of HT_.out (by kernel_rfl)) (fun _ _ _ h => h) (Or.inr ⟨by rfl, rfl⟩) ?_ ?_
              rotate_left
              · simp only [Act.put, List.setIfInBounds_toArray, List.set_cons_zero, List.set_cons_succ, i64_w, i32_w]
                rfl
              refine pure_ (i := 16) (N := some 32) (v := ?_) (a' := ?_) #[true, true, true, true, true, true, true, true, true, true, true, true, true, true, true, true, true] rfl rfl (any_of HT_.out (by kernel_rfl)) (fun _ _ _ h => h) (Or.inl ⟨by rfl, ?_⟩) ?_ ?_
              rotate_left
              · intro w'
                go_simp
                with_reducible rfl
              rotate_left
              · simp only [Act.put, List.setIfInBounds_toArray, List.set_cons_zero, List.set_cons_succ, i64_w, i32_w]
                rfl
              refine done_ (done_of HT_.out (by kernel_rfl)) ?_
              try go_wp2
              go_meet
              case rel => exact ⟨_, (true), (by first | rfl | (simp; done) | (simp [*]; done)), H', ⟨by have := HK1.out; first | omega | exact Nat.le_refl _⟩, ⟨by (with_reducible repeat (first | refine blk_drewN ?_ _ | refine blk_drew ?_ | refine blk_alloc ?_ _)); exact BK277.out⟩, ⟨by (with_reducible repeat (first | refine blk_drewN ?_ _ | refine blk_drew ?_ | refine blk_alloc ?_ _)); exact BK278.out⟩, ⟨by repeat (first | (with_reducible first | exact HB.out | apply below_alloc | apply pw_below_drewN | apply below_drew1 | refine below_set ?_ GE277.out | refine below_set ?_ GE278.out) | exact HB.out)⟩⟩
            · rw [if_neg c11] at H
              have c11b0 : decide ((rd l2 x8_1) < (wrap64 (-a0_2))) = false := decide_eq_false c11
              clear c11
              have H' := Aside0.mk H
              clear H
              try go_wp2
              have n0_ := Aside0.mk (blk_drew BK277.out)
              have n1_ := Aside0.mk (blk_drew BK278.out)
              have n2_ := Aside0.mk (below_drew1 HB.out)
              clear BK277
              clear BK278
              clear HB
              have BK277 := n0_
              have BK278 := n1_
              have HB := n2_
              clear n0_ n1_ n2_
              have p279 : 0 ≤ (x8_1 : Int) := of_decide_eq_true (by first | (with_reducible assumption) | assumption)
              have q279 : x8_1 < (l2.length : Int) := of_decide_eq_true (by first | (with_reducible assumption) | assumption)
              obtain ⟨ad279, e279, hx279_0⟩ := Kd.at_int HR2.out x8_1 p279 q279
              have hw279_0 := hx279_0
              cases e279
              replace hx279_0 := (HB.out.cell (World.block_lt_of_cell? w _ hx279_0)).trans hx279_0
              replace p279 := eq_true p279
              replace q279 := eq_true q279
              have p280 : 0 ≤ (x8_1 : Int) := of_decide_eq_true (by first | (with_reducible assumption) | assumption)
              have q280 : x8_1 < (l2.length : Int) := of_decide_eq_true (by first | (with_reducible assumption) | assumption)
              obtain ⟨ad280, e280, hx280_0⟩ := Kd.at_int HR2.out x8_1 p280 q280
              have hw280_0 := hx280_0
              obtain rfl : ad279 = ad280 := (by injection e280)
              replace hx280_0 := (HB.out.cell (World.block_lt_of_cell? w _ hx280_0)).trans hx280_0
              replace p280 := eq_true p280
              replace q280 := eq_true q280
              refine start_ (n := 17) (S := fun w' => w'.cell? ⟨gb277, 0, none⟩ = some (.int .i64 a0_0) ∧ w'.cell? ⟨gb277, 1, none⟩ = some (.int .i64 a0_1) ∧ w'.cell? ⟨gb277, 2, none⟩ = some (.int .i64 a0_2) ∧ w'.cell? (ad279.add (x8_1).toNat) = some (.int .i64 (rd l2 x8_1)) ∧ w'.cell? (ad279.add (x8_1).toNat) = some (.int .i64 (rd l2 x8_1))) (ds := []) #[false, false, false, false, false, false, false, false, false, false, false, false, false, false, false, false, false] (by kernel_rfl) rfl rfl ⟨(blk_cell BK277.out 0).trans rfl, (blk_cell BK277.out 1).trans rfl, (blk_cell BK277.out 2).trans rfl, ((HB.out.cell (World.block_lt_of_cell? w _ hw279_0)).trans hw279_0), ((HB.out.cell (World.block_lt_of_cell? w _ hw280_0)).trans hw280_0)⟩ (fun hHeld => ?_); refine with_tabW ambidexterref22_Leads.tab5 ambidexterref22_Leads.bits5 (fun HT_ HW_ => ?_)
              generalize wr.drew = w13 at BK277 BK278 HB hx279_0 hx280_0 hHeld ⊢
              refine pure_ (i := 0) (N := some 16) (v := ?_) (a' := ?_) #[true, false, false, false, false, false, false, false, false, false, false, false, false, false, false, false, false] rfl rfl (any_of HT_.out (by kernel_rfl)) (fun _ _ _ h => h) (Or.inl ⟨by rfl, ?_⟩) ?_ ?_
              rotate_left
              · intro w'
                go_simp
                with_reducible rfl
              rotate_left
              · simp only [Act.put, List.setIfInBounds_toArray, List.set_cons_zero, List.set_cons_succ, i64_w, i32_w]
                rfl
              refine pure_ (i := 1) (N := some 17) (v := ?_) (a' := ?_) #[true, true, false, false, false, false, false, false, false, false, false, false, false, false, false, false, false] rfl rfl (any_of HT_.out (by kernel_rfl)) (fun _ _ _ h => h) (Or.inl ⟨by rfl, ?_⟩) ?_ ?_
              rotate_left
              · intro w'
                go_simp
                with_reducible rfl
              rotate_left
              · simp only [Act.put, List.setIfInBounds_toArray, List.set_cons_zero, List.set_cons_succ, i64_w, i32_w]
                rfl
              refine pure_ (i := 2) (N := some 18) (v := ?_) (a' := ?_) #[true, true, true, false, false, false, false, false, false, false, false, false, false, false, false, false, false] rfl rfl (any_of HT_.out (by kernel_rfl)) (fun _ _ _ h => h) (Or.inl ⟨by rfl, ?_⟩) ?_ ?_
              rotate_left
              · intro w'
                go_simp
                with_reducible rfl
              rotate_left
              · simp only [Act.put, List.setIfInBounds_toArray, List.set_cons_zero, List.set_cons_succ, i64_w, i32_w]
                rfl
              refine pure_ (i := 4) (N := some 20) (v := ?_) (a' := ?_) #[true, true, true, false, true, false, false, false, false, false, false, false, false, false, false, false, false] rfl rfl (any_of HT_.out (by kernel_rfl)) (fun _ _ _ h => h) (Or.inl ⟨by rfl, ?_⟩) ?_ ?_
              rotate_left
              · intro w'
                go_simp
                with_reducible rfl
              rotate_left
              · simp only [Act.put, List.setIfInBounds_toArray, List.set_cons_zero, List.set_cons_succ, i64_w, i32_w]
                rfl
              refine take_ (i := 3) (N := some 19) (v := ?_) (a' := ?_) #[true, true, true, true, true, false, false, false, false, false, false, false, false, false, false, false, false] rfl rfl (take_ofW HT_.out HW_.out (by kernel_rfl)) (fun _ _ _ h => h) (Or.inl ⟨by rfl, ?_⟩) hHeld ?_ ?_
              rotate_left
              · rintro w' ⟨s0, s1, s2, s3, s4⟩
                go_simp
                with_reducible rfl
              rotate_left
              · simp only [Act.put, List.setIfInBounds_toArray, List.set_cons_zero, List.set_cons_succ, i64_w, i32_w]
                rfl
              refine take_ (i := 5) (N := some 21) (v := ?_) (a' := ?_) #[true, true, true, true, true, true, false, false, false, false, false, false, false, false, false, false, false] rfl rfl (take_ofW HT_.out HW_.out (by kernel_rfl)) (fun _ _ _ h => h) (Or.inl ⟨by rfl, ?_⟩) hHeld ?_ ?_
              rotate_left
              · rintro w' ⟨s0, s1, s2, s3, s4⟩
                go_simp
                with_reducible rfl
              rotate_left
              · simp only [Act.put, List.setIfInBounds_toArray, List.set_cons_zero, List.set_cons_succ, i64_w, i32_w]
                rfl
              refine pure_ (i := 6) (N := some 22) (v := ?_) (a' := ?_) #[true, true, true, true, true, true, true, false, false, false, false, false, false, false, false, false, false] rfl rfl (any_of HT_.out (by kernel_rfl)) (fun _ _ _ h => h) (Or.inl ⟨by rfl, ?_⟩) ?_ ?_
              rotate_left
              · intro w'
                go_simp
                with_reducible rfl
              rotate_left
              · simp only [Act.put, List.setIfInBounds_toArray, List.set_cons_zero, List.set_cons_succ, i64_w, i32_w]
                rfl
              refine pure_ (i := 7) (N := some 23) (v := ?_) (a' := ?_) #[true, true, true, true, true, true, true, true, false, false, false, false, false, false, false, false, false] rfl rfl (any_of HT_.out (by kernel_rfl)) (fun _ _ _ h => h) (Or.inl ⟨by rfl, ?_⟩) ?_ ?_
              rotate_left
              · intro w'
                go_simp
                with_reducible rfl
              rotate_left
              · simp only [Act.put, List.setIfInBounds_toArray, List.set_cons_zero, List.set_cons_succ, i64_w, i32_w]
                rfl
              refine pure_ (i := 8) (N := some 24) (v := ?_) (a' := ?_) #[true, true, true, true, true, true, true, true, true, false, false, false, false, false, false, false, false] rfl rfl (any_of HT_.out (by kernel_rfl)) (fun _ _ _ h => h) (Or.inl ⟨by rfl, ?_⟩) ?_ ?_
              rotate_left
              · intro w'
                go_simp
                with_reducible rfl
              rotate_left
              · simp only [Act.put, List.setIfInBounds_toArray, List.set_cons_zero, List.set_cons_succ, i64_w, i32_w]
                rfl
              refine pure_ (i := 9) (N := some 25) (v := ?_) (a' := ?_) #[true, true, true, true, true, true, true, true, true, true, false, false, false, false, false, false, false] rfl rfl (any_of HT_.out (by kernel_rfl)) (fun _ _ _ h => h) (Or.inl ⟨by rfl, ?_⟩) ?_ ?_
              rotate_left
              · intro w'
                go_simp
                with_reducible rfl
              rotate_left
              · simp only [Act.put, List.setIfInBounds_toArray, List.set_cons_zero, List.set_cons_succ, i64_w, i32_w]
                rfl
              refine pure_ (i := 10) (N := some 26) (v := ?_) (a' := ?_) #[true, true, true, true, true, true, true, true, true, true, true, false, false, false, false, false, false] rfl rfl (any_of HT_.out (by kernel_rfl)) (fun _ _ _ h => h) (Or.inl ⟨by rfl, ?_⟩) ?_ ?_
              rotate_left
              · intro w'
                go_simp
                with_reducible rfl
              rotate_left
              · simp only [Act.put, List.setIfInBounds_toArray, List.set_cons_zero, List.set_cons_succ, i64_w, i32_w]
                rfl
              refine pure_ (i := 11) (N := some 27) (v := ?_) (a' := ?_) #[true, true, true, true, true, true, true, true, true, true, true, true, false, false, false, false, false] rfl rfl (any_of HT_.out (by kernel_rfl)) (fun _ _ _ h => h) (Or.inl ⟨by rfl, ?_⟩) ?_ ?_
              rotate_left
              · intro w'
                go_simp
                with_reducible rfl
              rotate_left
              · simp only [Act.put, List.setIfInBounds_toArray, List.set_cons_zero, List.set_cons_succ, i64_w, i32_w]
                rfl
              refine pure_ (i := 13) (N := some 29) (v := ?_) (a' := ?_) #[true, true, true, true, true, true, true, true, true, true, true, true, false, true, false, false, false] rfl rfl (any_of HT_.out (by kernel_rfl)) (fun _ _ _ h => h) (Or.inl ⟨by rfl, ?_⟩) ?_ ?_
              rotate_left
              · intro w'
                go_simp
                with_reducible rfl
              rotate_left
              · simp only [Act.put, List.setIfInBounds_toArray, List.set_cons_zero, List.set_cons_succ, i64_w, i32_w]
                rfl
              refine take_ (i := 12) (N := some 28) (v := ?_) (a' := ?_) #[true, true, true, true, true, true, true, true, true, true, true, true, true, true, false, false, false] rfl rfl (take_ofW HT_.out HW_.out (by kernel_rfl)) (fun _ _ _ h => h) (Or.inl ⟨by rfl, ?_⟩) hHeld ?_ ?_
              rotate_left
              · rintro w' ⟨s0, s1, s2, s3, s4⟩
                go_simp
                with_reducible rfl
              rotate_left
              · simp only [Act.put, List.setIfInBounds_toArray, List.set_cons_zero, List.set_cons_succ, i64_w, i32_w]
                rfl
              refine take_ (i := 14) (N := some 30) (v := ?_) (a' := ?_) #[true, true, true, true, true, true, true, true, true, true, true, true, true, true, true, false, false] rfl rfl (take_ofW HT_.out HW_.out (by kernel_rfl)) (fun _ _ _ h => h) (Or.inl ⟨by rfl, ?_⟩) hHeld ?_ ?_
              rotate_left
              · rintro w' ⟨s0, s1, s2, s3, s4⟩
                go_simp
                with_reducible rfl
              rotate_left
              · simp only [Act.put, List.setIfInBounds_toArray, List.set_cons_zero, List.set_cons_succ, i64_w, i32_w]
                rfl
              refine pure_ (i := 15) (N := some 31) (v := ?_) (a' := ?_) #[true, true, true, true, true, true, true, true, true, true, true, true, true, true, true, true, false] rfl rfl (any_of HT_.out (by kernel_rfl)) (fun _ _ _ h => h) (Or.inl ⟨by rfl, ?_⟩) ?_ ?_
              rotate_left
              · intro w'
                go_simp
                with_reducible rfl
              rotate_left
              · simp only [Act.put, List.setIfInBounds_toArray, List.set_cons_zero, List.set_cons_succ, i64_w, i32_w]
                rfl
              refine pure_ (i := 16) (N := some 32) (v := ?_) (a' := ?_) #[true, true, true, true, true, true, true, true, true, true, true, true, true, true, true, true, true] rfl rfl (any_of HT_.out (by kernel_rfl)) (fun _ _ _ h => h) (Or.inl ⟨by rfl, ?_⟩) ?_ ?_
              rotate_left
              · intro w'
                go_simp
                with_reducible rfl
              rotate_left
              · simp only [Act.put, List.setIfInBounds_toArray, List.set_cons_zero, List.set_cons_succ, i64_w, i32_w]
                rfl
              refine done_ (done_of HT_.out (by kernel_rfl)) ?_
              try go_wp2
              go_meet
              case rel => exact ⟨_, (decide ((rd l2 x8_1) > a0_2)), (by first | rfl | (simp; done) | (simp [*]; done)), H', ⟨by have := HK1.out; first | omega | exact Nat.le_refl _⟩, ⟨by (with_reducible repeat (first | refine blk_drewN ?_ _ | refine blk_drew ?_ | refine blk_alloc ?_ _)); exact BK277.out⟩, ⟨by (with_reducible repeat (first | refine blk_drewN ?_ _ | refine blk_drew ?_ | refine blk_alloc ?_ _)); exact BK278.out⟩, ⟨by repeat (first | (with_reducible first | exact HB.out | apply below_alloc | apply pw_below_drewN | apply below_drew1 | refine below_set ?_ GE277.out | refine below_set ?_ GE278.out) | exact HB.out)⟩⟩
          · rw [if_neg c10] at H
            exact absurd H (by simp)
        case rest =>
          clear HC9
          try clear c1
          try clear c2
          try clear p2
          try clear q2
          try clear hx2
          try clear c6
          try clear p6
          try clear c8
          try clear c8b0
          try clear c10
          try clear c10b0
          try clear c11
          try clear c11b0
          try clear hcz7_0
          try clear hcz7_1
          try clear hcz7_2
          try clear hfz7_0
          try clear hfz7_1
          try clear hfz7_2
          try clear hx279_0
          try clear hx280_0
          try clear p2
          try clear p279
          try clear p280
          try clear q279
          try clear q280
          obtain ⟨kq, x32_8, rfl, HA, HJ8, BK277, BK278, HB⟩ := hcut
          cases kq with
          | zero => exact absurd HA.out (by simp [ambidexterref22_Leads.j1])
          | succ kj8 =>
            have H := HA.out
            clear HA
            simp only [ambidexterref22_Leads.j1] at H
            by_cases c14 : x32_8 = true
            · subst c14
              have H1 : (some false) = some r := by rw [if_pos rfl] at H; exact H
              clear H
              have H := H1
              clear H1
              obtain rfl := Option.some.inj H
              go_wp2
              go_ret
              exact ⟨by first | rfl | (simp [errW_none, errW_some] <;> rfl) | (simp [*, errW_none, errW_some] <;> rfl), by repeat (first | (with_reducible first | exact HB.out | apply below_alloc | apply pw_below_drewN | apply below_drew1 | refine below_set ?_ GE277.out | refine below_set ?_ GE278.out) | exact HB.out)⟩
            · replace c14 := Bool.eq_false_iff.mpr c14
              subst c14
              have H1 : (if 0 ≤ x8_1 then (if x8_1 < (l2.length : Int) then ((ambidexterref21_Tick.f x279000_1 x279001_1 x279002_1 (rd l2 x8_1)).bind fun bt282 => ((ambidexterref22_may.f a0_0 a0_1 a0_2 a1 bt282.1 bt282.2.1 bt282.2.2).bind fun t285 => (if t285 = true then (ambidexterref22_Leads.l0 kj8 a1 l2 (wrap64 (x8_1 + 1)) a0_0 a0_1 a0_2 bt282.1 bt282.2.1 bt282.2.2) else (some false)))) else (none)) else (none)) = some r := by rw [if_neg (show ¬ (false = true) by decide)] at H; exact H
              clear H
              have H := H1
              clear H1
              by_cases c15 : 0 ≤ x8_1
              · rw [if_pos c15] at H
                have c15b0 : decide (0 ≤ x8_1) = true := decide_eq_true c15
                clear c15
                by_cases c16 : x8_1 < (l2.length : Int)
                · rw [if_pos c16] at H
                  have c16b0 : decide (x8_1 < (l2.length : Int)) = true := decide_eq_true c16
                  clear c16
                  replace H := Option.bind_eq_some_iff.mp H
                  obtain ⟨⟨t282, t283, t284⟩, A170, H⟩ := H
                  replace H : ((ambidexterref22_may.f a0_0 a0_1 a0_2 a1 t282 t283 t284).bind fun t285 => (if t285 = true then (ambidexterref22_Leads.l0 kj8 a1 l2 (wrap64 (x8_1 + 1)) a0_0 a0_1 a0_2 t282 t283 t284) else (some false))) = some r := H
                  have A17 := Aside0.mk A170
                  clear A170
                  replace H := Option.bind_eq_some_iff.mp H
                  obtain ⟨t285, A180, H⟩ := H
                  replace H : (if t285 = true then (ambidexterref22_Leads.l0 kj8 a1 l2 (wrap64 (x8_1 + 1)) a0_0 a0_1 a0_2 t282 t283 t284) else (some false)) = some r := H
                  have A18 := Aside0.mk A180
                  clear A180
                  by_cases c19 : t285 = true
                  · subst c19
                    have H1 : (ambidexterref22_Leads.l0 kj8 a1 l2 (wrap64 (x8_1 + 1)) a0_0 a0_1 a0_2 t282 t283 t284) = some r := by rw [if_pos rfl] at H; exact H
                    clear H
                    have H := H1
                    clear H1
                    have H' := Aside0.mk H
                    clear H
                    try go_wp2
                    have n0_ := Aside0.mk (blk_drew BK277.out)
                    have n1_ := Aside0.mk (blk_drew BK278.out)
                    have n2_ := Aside0.mk (below_drew1 HB.out)
                    clear BK277
                    clear BK278
                    clear HB
                    have BK277 := n0_
                    have BK278 := n1_
                    have HB := n2_
                    clear n0_ n1_ n2_
                    have p281 : 0 ≤ (x8_1 : Int) := of_decide_eq_true (by first | (with_reducible assumption) | assumption)
                    have q281 : x8_1 < (l2.length : Int) := of_decide_eq_true (by first | (with_reducible assumption) | assumption)
                    obtain ⟨ad281, e281, hx281_0⟩ := Kd.at_int HR2.out x8_1 p281 q281
                    have hw281_0 := hx281_0
                    cases e281
                    replace hx281_0 := (HB.out.cell (World.block_lt_of_cell? w _ hx281_0)).trans hx281_0
                    replace p281 := eq_true p281
                    replace q281 := eq_true q281
                    refine start_ (n := 7) (S := fun w' => w'.cell? ⟨gb278, 0, none⟩ = some (.int .i64 x279000_1) ∧ w'.cell? ⟨gb278, 1, none⟩ = some (.int .i64 x279001_1) ∧ w'.cell? ⟨gb278, 2, none⟩ = some (.int .i64 x279002_1) ∧ w'.cell? (ad281.add (x8_1).toNat) = some (.int .i64 (rd l2 x8_1))) (ds := [6]) #[false, false, false, false, false, false, false] (by kernel_rfl) rfl rfl ⟨(blk_cell BK278.out 0).trans rfl, (blk_cell BK278.out 1).trans rfl, (blk_cell BK278.out 2).trans rfl, ((HB.out.cell (World.block_lt_of_cell? w _ hw281_0)).trans hw281_0)⟩ (fun hHeld => ?_)
                    generalize wc.drew = w20 at BK277 BK278 HB hx281_0 hHeld ⊢
                    refine pure_ (i := 1) (N := some 34) (v := ?_) (a' := ?_) #[false, true, false, false, false, false, false] rfl rfl (by kernel_rfl) (fun _ _ _ h => h) (Or.inl ⟨by rfl, ?_⟩) ?_ ?_
                    rotate_left
                    · intro w'
                      go_simp
                      with_reducible rfl
                    rotate_left
                    · simp only [Act.put, List.setIfInBounds_toArray, List.set_cons_zero, List.set_cons_succ, i64_w, i32_w]
                      rfl
                    refine pure_ (i := 2) (N := some 35) (v := ?_) (a' := ?_) #[false, true, true, false, false, false, false] rfl rfl (by kernel_rfl) (fun _ _ _ h => h) (Or.inl ⟨by rfl, ?_⟩) ?_ ?_
                    rotate_left
                    · intro w'
                      go_simp
                      with_reducible rfl
                    rotate_left
                    · simp only [Act.put, List.setIfInBounds_toArray, List.set_cons_zero, List.set_cons_succ, i64_w, i32_w]
                      rfl
                    refine pure_ (i := 3) (N := some 36) (v := ?_) (a' := ?_) #[false, true, true, true, false, false, false] rfl rfl (by kernel_rfl) (fun _ _ _ h => h) (Or.inl ⟨by rfl, ?_⟩) ?_ ?_
                    rotate_left
                    · intro w'
                      go_simp
                      with_reducible rfl
                    rotate_left
                    · simp only [Act.put, List.setIfInBounds_toArray, List.set_cons_zero, List.set_cons_succ, i64_w, i32_w]
                      rfl
                    refine take_ (i := 0) (N := some 33) (v := ?_) (a' := ?_) #[true, true, true, true, false, false, false] rfl rfl (by kernel_rfl) (fun _ _ _ h => h) (Or.inl ⟨by rfl, ?_⟩) hHeld ?_ ?_
                    rotate_left
                    · rintro w' ⟨s0, s1, s2, s3⟩
                      go_simp
                      with_reducible rfl
                    rotate_left
                    · simp only [Act.put, List.setIfInBounds_toArray, List.set_cons_zero, List.set_cons_succ, i64_w, i32_w]
                      rfl
                    refine take_ (i := 4) (N := some 37) (v := ?_) (a' := ?_) #[true, true, true, true, true, false, false] rfl rfl (by kernel_rfl) (fun _ _ _ h => h) (Or.inl ⟨by rfl, ?_⟩) hHeld ?_ ?_
                    rotate_left
                    · rintro w' ⟨s0, s1, s2, s3⟩
                      go_simp
                      with_reducible rfl
                    rotate_left
                    · simp only [Act.put, List.setIfInBounds_toArray, List.set_cons_zero, List.set_cons_succ, i64_w, i32_w]
                      rfl
                    refine one_ (i := 5) (N := some 38) #[true, true, true, true, true, true, false] rfl rfl (by kernel_rfl) (by decide) (fun K hK => ?_)
                    refine goes_ Try.func44 (by kernel_rfl) rfl #[.agg #[.int .i64 x279000_1, .int .i64 x279001_1, .int .i64 x279002_1], .int .i64 (rd l2 x8_1)] (by rfl) rfl rfl (by (try simp only [List.map_toArray, List.map_cons, List.map_nil]); first | done | rfl | (simp only [List.length_drop, List.length_take]; rfl)) ?_
                    with_reducible refine (ambidexterref21_Tick.calls x279000_1 x279001_1 x279002_1 (rd l2 x8_1) t282 t283 t284 _ A17.out).mono ?_
                    rintro e w21 ⟨rfl, hb⟩
                    refine ⟨_, rfl, ?_⟩
                    have n0_ := Aside0.mk (blk_below (g := gb277) (o := .cells #[.int .i64 a0_0, .int .i64 a0_1, .int .i64 a0_2] 23 (0, 0)) (by (with_reducible repeat (first | refine blk_drewN ?_ _ | refine blk_drew ?_ | refine blk_alloc ?_ _)); exact BK277.out) hb)
                    have n1_ := Aside0.mk (blk_below (g := gb278) (o := .cells #[.int .i64 x279000_1, .int .i64 x279001_1, .int .i64 x279002_1] 37 (0, 0)) (by (with_reducible repeat (first | refine blk_drewN ?_ _ | refine blk_drew ?_ | refine blk_alloc ?_ _)); exact BK278.out) hb)
                    have n2_ := Aside0.mk (below_step (by repeat (first | (with_reducible first | exact HB.out | apply below_alloc | apply pw_below_drewN | apply below_drew1 | refine below_set ?_ GE277.out | refine below_set ?_ GE278.out) | exact HB.out)) hb)
                    clear BK277
                    clear BK278
                    clear HB
                    have BK277 := n0_
                    have BK278 := n1_
                    have HB := n2_
                    clear n0_ n1_ n2_
                    (try clear hb)
                    (try clear hb2)
                    (try clear hk)
                    (try clear hi)
                    refine hK.out _ _ ⟨(blk_cell BK278.out 0).trans rfl, (blk_cell BK278.out 1).trans rfl, (blk_cell BK278.out 2).trans rfl, ((HB.out.cell (World.block_lt_of_cell? w _ hw281_0)).trans hw281_0)⟩ (fun hHeld => ?_)
                    clear hK K
                    refine norm_ (a' := ?_) ?_ ?_
                    rotate_left
                    · show Act.put _ (some 38) _ = _
                      simp only [Act.put, List.setIfInBounds_toArray, List.set_cons_zero, List.set_cons_succ, i64_w, i32_w]
                      rfl
                    refine last_ (i := 6) (N := none) #[true, true, true, true, true, true, true] rfl rfl (by kernel_rfl) (by decide) (fun K hK => ?_)
                    have hs22 : w21.cell? ⟨gb278, 0, none⟩ = some (.int .i64 x279000_1) := (blk_cell BK278.out 0).trans rfl
                    have hfs22 := blk_frozen BK278.out 0
                    have hns22_0 := NB277_278.out
                    have hms22_0 := NB278_277.out
                    have hs23 : w21.cell? ⟨gb278, 1, none⟩ = some (.int .i64 x279001_1) := (blk_cell BK278.out 1).trans rfl
                    have hfs23 := blk_frozen BK278.out 1
                    have hns23_0 := NB277_278.out
                    have hms23_0 := NB278_277.out
                    have hs24 : w21.cell? ⟨gb278, 2, none⟩ = some (.int .i64 x279002_1) := (blk_cell BK278.out 2).trans rfl
                    have hfs24 := blk_frozen BK278.out 2
                    have hns24_0 := NB277_278.out
                    have hms24_0 := NB278_277.out
                    refine skip_ (w1 := ?_) (by rfl) rfl ?_ ?_
                    rotate_left
                    · go_simp
                      rfl
                    refine hK.out _ _ ?_
                    clear hK K
                    refine done_ (by kernel_rfl) ?_
                    have hnb25 := NB277_278.out
                    have hnc25 := NB278_277.out
                    have hcz26_0 : w21.cell? ⟨gb277, 0, none⟩ = some (.int .i64 a0_0) := (blk_cell BK277.out 0).trans rfl
                    have hcz26_1 : w21.cell? ⟨gb277, 1, none⟩ = some (.int .i64 a0_1) := (blk_cell BK277.out 1).trans rfl
                    have hcz26_2 : w21.cell? ⟨gb277, 2, none⟩ = some (.int .i64 a0_2) := (blk_cell BK277.out 2).trans rfl
                    have hfz26_0 := blk_frozen BK277.out 0
                    have hfz26_1 := blk_frozen BK277.out 1
                    have hfz26_2 := blk_frozen BK277.out 2
                    have hcz27_0 : w21.cell? ⟨gb278, 0, none⟩ = some (.int .i64 x279000_1) := (blk_cell BK278.out 0).trans rfl
                    have hcz27_1 : w21.cell? ⟨gb278, 1, none⟩ = some (.int .i64 x279001_1) := (blk_cell BK278.out 1).trans rfl
                    have hcz27_2 : w21.cell? ⟨gb278, 2, none⟩ = some (.int .i64 x279002_1) := (blk_cell BK278.out 2).trans rfl
                    have hfz27_0 := blk_frozen BK278.out 0
                    have hfz27_1 := blk_frozen BK278.out 1
                    have hfz27_2 := blk_frozen BK278.out 2
                    try go_wp2_with (first | ((with_reducible refine gate_callee (f := 45) rfl ?_); refine goesL_ (some 42) rfl rfl Try.func45 (by kernel_rfl) rfl #[.agg #[.int .i64 a0_0, .int .i64 a0_1, .int .i64 a0_2], .int .i64 a1, .agg #[.int .i64 t282, .int .i64 t283, .int .i64 t284]] rfl (by (try simp only [List.map_toArray, List.map_cons, List.map_nil]); first | done | rfl | (simp only [List.length_drop, List.length_take]; rfl)) ?_; (with_reducible refine (ambidexterref22_may.calls a0_0 a0_1 a0_2 a1 t282 t283 t284 true _ A18.out).mono ?_); rintro e w28 ⟨rfl, hb⟩; refine ⟨_, rfl, ?_⟩; have n0_ := Aside0.mk (blk_below (g := gb277) (o := .cells #[.int .i64 a0_0, .int .i64 a0_1, .int .i64 a0_2] 23 (0, 0)) (by (with_reducible repeat (first | refine blk_drewN ?_ _ | refine blk_drew ?_ | refine blk_alloc ?_ _)); refine blk_far ?_ NB277_278.out _; (with_reducible repeat (first | refine blk_drewN ?_ _ | refine blk_drew ?_ | refine blk_alloc ?_ _)); refine blk_far ?_ NB277_278.out _; (with_reducible repeat (first | refine blk_drewN ?_ _ | refine blk_drew ?_ | refine blk_alloc ?_ _)); refine blk_far ?_ NB277_278.out _; (with_reducible repeat (first | refine blk_drewN ?_ _ | refine blk_drew ?_ | refine blk_alloc ?_ _)); exact BK277.out) hb); have n1_ := Aside0.mk (blk_below (g := gb278) (o := .cells #[.int .i64 t282, .int .i64 t283, .int .i64 t284] 37 (0, 0)) (by (with_reducible repeat (first | refine blk_drewN ?_ _ | refine blk_drew ?_ | refine blk_alloc ?_ _)); refine blk_put (cs := #[.int .i64 t282, .int .i64 t283, .int .i64 x279002_1]) ?_ 2 _ rfl; (with_reducible repeat (first | refine blk_drewN ?_ _ | refine blk_drew ?_ | refine blk_alloc ?_ _)); refine blk_put (cs := #[.int .i64 t282, .int .i64 x279001_1, .int .i64 x279002_1]) ?_ 1 _ rfl; (with_reducible repeat (first | refine blk_drewN ?_ _ | refine blk_drew ?_ | refine blk_alloc ?_ _)); refine blk_put (cs := #[.int .i64 x279000_1, .int .i64 x279001_1, .int .i64 x279002_1]) ?_ 0 _ rfl; (with_reducible repeat (first | refine blk_drewN ?_ _ | refine blk_drew ?_ | refine blk_alloc ?_ _)); exact BK278.out) hb); have n2_ := Aside0.mk (below_step (by repeat (first | (with_reducible first | exact HB.out | apply below_alloc | apply pw_below_drewN | apply below_drew1 | refine below_set ?_ GE277.out | refine below_set ?_ GE278.out) | exact HB.out)) hb); clear BK277; clear BK278; clear HB; have BK277 := n0_; have BK278 := n1_; have HB := n2_; clear n0_ n1_ n2_; (try clear hb); (try clear hb2); (try clear hk); (try clear hi)))
                    go_roundg kj8
                    case measure => have := HK1.out; have := HJ8.out; omega
                    case rel => exact ⟨(wrap64 (x8_1 + 1)), (t282), (t283), (t284), (by first | rfl | (simp; done) | (simp [*]; done)), H', ⟨by have := HK1.out; have := HJ8.out; omega⟩, ⟨by (with_reducible repeat (first | refine blk_drewN ?_ _ | refine blk_drew ?_ | refine blk_alloc ?_ _)); exact BK277.out⟩, ⟨by (with_reducible repeat (first | refine blk_drewN ?_ _ | refine blk_drew ?_ | refine blk_alloc ?_ _)); exact BK278.out⟩, ⟨by repeat (first | (with_reducible first | exact HB.out | apply below_alloc | apply pw_below_drewN | apply below_drew1 | refine below_set ?_ GE277.out | refine below_set ?_ GE278.out) | exact HB.out)⟩⟩
                  · replace c19 := Bool.eq_false_iff.mpr c19
                    subst c19
                    have H1 : (some false) = some r := by rw [if_neg (show ¬ (false = true) by decide)] at H; exact H
                    clear H
                    have H := H1
                    clear H1
                    obtain rfl := Option.some.inj H
                    try go_wp2
                    have n0_ := Aside0.mk (blk_drew BK277.out)
                    have n1_ := Aside0.mk (blk_drew BK278.out)
                    have n2_ := Aside0.mk (below_drew1 HB.out)
                    clear BK277
                    clear BK278
                    clear HB
                    have BK277 := n0_
                    have BK278 := n1_
                    have HB := n2_
                    clear n0_ n1_ n2_
                    have p281 : 0 ≤ (x8_1 : Int) := of_decide_eq_true (by first | (with_reducible assumption) | assumption)
                    have q281 : x8_1 < (l2.length : Int) := of_decide_eq_true (by first | (with_reducible assumption) | assumption)
                    obtain ⟨ad281, e281, hx281_0⟩ := Kd.at_int HR2.out x8_1 p281 q281
                    have hw281_0 := hx281_0
                    cases e281
                    replace hx281_0 := (HB.out.cell (World.block_lt_of_cell? w _ hx281_0)).trans hx281_0
                    replace p281 := eq_true p281
                    replace q281 := eq_true q281
                    refine start_ (n := 7) (S := fun w' => w'.cell? ⟨gb278, 0, none⟩ = some (.int .i64 x279000_1) ∧ w'.cell? ⟨gb278, 1, none⟩ = some (.int .i64 x279001_1) ∧ w'.cell? ⟨gb278, 2, none⟩ = some (.int .i64 x279002_1) ∧ w'.cell? (ad281.add (x8_1).toNat) = some (.int .i64 (rd l2 x8_1))) (ds := [6]) #[false, false, false, false, false, false, false] (by kernel_rfl) rfl rfl ⟨(blk_cell BK278.out 0).trans rfl, (blk_cell BK278.out 1).trans rfl, (blk_cell BK278.out 2).trans rfl, ((HB.out.cell (World.block_lt_of_cell? w _ hw281_0)).trans hw281_0)⟩ (fun hHeld => ?_)
                    generalize wc.drew = w29 at BK277 BK278 HB hx281_0 hHeld ⊢
                    refine pure_ (i := 1) (N := some 34) (v := ?_) (a' := ?_) #[false, true, false, false, false, false, false] rfl rfl (by kernel_rfl) (fun _ _ _ h => h) (Or.inl ⟨by rfl, ?_⟩) ?_ ?_
                    rotate_left
                    · intro w'
                      go_simp
                      with_reducible rfl
                    rotate_left
                    · simp only [Act.put, List.setIfInBounds_toArray, List.set_cons_zero, List.set_cons_succ, i64_w, i32_w]
                      rfl
                    refine pure_ (i := 2) (N := some 35) (v := ?_) (a' := ?_) #[false, true, true, false, false, false, false] rfl rfl (by kernel_rfl) (fun _ _ _ h => h) (Or.inl ⟨by rfl, ?_⟩) ?_ ?_
                    rotate_left
                    · intro w'
                      go_simp
                      with_reducible rfl
                    rotate_left
                    · simp only [Act.put, List.setIfInBounds_toArray, List.set_cons_zero, List.set_cons_succ, i64_w, i32_w]
                      rfl
                    refine pure_ (i := 3) (N := some 36) (v := ?_) (a' := ?_) #[false, true, true, true, false, false, false] rfl rfl (by kernel_rfl) (fun _ _ _ h => h) (Or.inl ⟨by rfl, ?_⟩) ?_ ?_
                    rotate_left
                    · intro w'
                      go_simp
                      with_reducible rfl
                    rotate_left
                    · simp only [Act.put, List.setIfInBounds_toArray, List.set_cons_zero, List.set_cons_succ, i64_w, i32_w]
                      rfl
                    refine take_ (i := 0) (N := some 33) (v := ?_) (a' := ?_) #[true, true, true, true, false, false, false] rfl rfl (by kernel_rfl) (fun _ _ _ h => h) (Or.inl ⟨by rfl, ?_⟩) hHeld ?_ ?_
                    rotate_left
                    · rintro w' ⟨s0, s1, s2, s3⟩
                      go_simp
                      with_reducible rfl
                    rotate_left
                    · simp only [Act.put, List.setIfInBounds_toArray, List.set_cons_zero, List.set_cons_succ, i64_w, i32_w]
                      rfl
                    refine take_ (i := 4) (N := some 37) (v := ?_) (a' := ?_) #[true, true, true, true, true, false, false] rfl rfl (by kernel_rfl) (fun _ _ _ h => h) (Or.inl ⟨by rfl, ?_⟩) hHeld ?_ ?_
                    rotate_left
                    · rintro w' ⟨s0, s1, s2, s3⟩
                      go_simp
                      with_reducible rfl
                    rotate_left
                    · simp only [Act.put, List.setIfInBounds_toArray, List.set_cons_zero, List.set_cons_succ, i64_w, i32_w]
                      rfl
                    refine one_ (i := 5) (N := some 38) #[true, true, true, true, true, true, false] rfl rfl (by kernel_rfl) (by decide) (fun K hK => ?_)
                    refine goes_ Try.func44 (by kernel_rfl) rfl #[.agg #[.int .i64 x279000_1, .int .i64 x279001_1, .int .i64 x279002_1], .int .i64 (rd l2 x8_1)] (by rfl) rfl rfl (by (try simp only [List.map_toArray, List.map_cons, List.map_nil]); first | done | rfl | (simp only [List.length_drop, List.length_take]; rfl)) ?_
                    with_reducible refine (ambidexterref21_Tick.calls x279000_1 x279001_1 x279002_1 (rd l2 x8_1) t282 t283 t284 _ A17.out).mono ?_
                    rintro e w30 ⟨rfl, hb⟩
                    refine ⟨_, rfl, ?_⟩
                    have n0_ := Aside0.mk (blk_below (g := gb277) (o := .cells #[.int .i64 a0_0, .int .i64 a0_1, .int .i64 a0_2] 23 (0, 0)) (by (with_reducible repeat (first | refine blk_drewN ?_ _ | refine blk_drew ?_ | refine blk_alloc ?_ _)); exact BK277.out) hb)
                    have n1_ := Aside0.mk (blk_below (g := gb278) (o := .cells #[.int .i64 x279000_1, .int .i64 x279001_1, .int .i64 x279002_1] 37 (0, 0)) (by (with_reducible repeat (first | refine blk_drewN ?_ _ | refine blk_drew ?_ | refine blk_alloc ?_ _)); exact BK278.out) hb)
                    have n2_ := Aside0.mk (below_step (by repeat (first | (with_reducible first | exact HB.out | apply below_alloc | apply pw_below_drewN | apply below_drew1 | refine below_set ?_ GE277.out | refine below_set ?_ GE278.out) | exact HB.out)) hb)
                    clear BK277
                    clear BK278
                    clear HB
                    have BK277 := n0_
                    have BK278 := n1_
                    have HB := n2_
                    clear n0_ n1_ n2_
                    (try clear hb)
                    (try clear hb2)
                    (try clear hk)
                    (try clear hi)
                    refine hK.out _ _ ⟨(blk_cell BK278.out 0).trans rfl, (blk_cell BK278.out 1).trans rfl, (blk_cell BK278.out 2).trans rfl, ((HB.out.cell (World.block_lt_of_cell? w _ hw281_0)).trans hw281_0)⟩ (fun hHeld => ?_)
                    clear hK K
                    refine norm_ (a' := ?_) ?_ ?_
                    rotate_left
                    · show Act.put _ (some 38) _ = _
                      simp only [Act.put, List.setIfInBounds_toArray, List.set_cons_zero, List.set_cons_succ, i64_w, i32_w]
                      rfl
                    refine last_ (i := 6) (N := none) #[true, true, true, true, true, true, true] rfl rfl (by kernel_rfl) (by decide) (fun K hK => ?_)
                    have hs31 : w30.cell? ⟨gb278, 0, none⟩ = some (.int .i64 x279000_1) := (blk_cell BK278.out 0).trans rfl
                    have hfs31 := blk_frozen BK278.out 0
                    have hns31_0 := NB277_278.out
                    have hms31_0 := NB278_277.out
                    have hs32 : w30.cell? ⟨gb278, 1, none⟩ = some (.int .i64 x279001_1) := (blk_cell BK278.out 1).trans rfl
                    have hfs32 := blk_frozen BK278.out 1
                    have hns32_0 := NB277_278.out
                    have hms32_0 := NB278_277.out
                    have hs33 : w30.cell? ⟨gb278, 2, none⟩ = some (.int .i64 x279002_1) := (blk_cell BK278.out 2).trans rfl
                    have hfs33 := blk_frozen BK278.out 2
                    have hns33_0 := NB277_278.out
                    have hms33_0 := NB278_277.out
                    refine skip_ (w1 := ?_) (by rfl) rfl ?_ ?_
                    rotate_left
                    · go_simp
                      rfl
                    refine hK.out _ _ ?_
                    clear hK K
                    refine done_ (by kernel_rfl) ?_
                    have hnb34 := NB277_278.out
                    have hnc34 := NB278_277.out
                    have hcz35_0 : w30.cell? ⟨gb277, 0, none⟩ = some (.int .i64 a0_0) := (blk_cell BK277.out 0).trans rfl
                    have hcz35_1 : w30.cell? ⟨gb277, 1, none⟩ = some (.int .i64 a0_1) := (blk_cell BK277.out 1).trans rfl
                    have hcz35_2 : w30.cell? ⟨gb277, 2, none⟩ = some (.int .i64 a0_2) := (blk_cell BK277.out 2).trans rfl
                    have hfz35_0 := blk_frozen BK277.out 0
                    have hfz35_1 := blk_frozen BK277.out 1
                    have hfz35_2 := blk_frozen BK277.out 2
                    have hcz36_0 : w30.cell? ⟨gb278, 0, none⟩ = some (.int .i64 x279000_1) := (blk_cell BK278.out 0).trans rfl
                    have hcz36_1 : w30.cell? ⟨gb278, 1, none⟩ = some (.int .i64 x279001_1) := (blk_cell BK278.out 1).trans rfl
                    have hcz36_2 : w30.cell? ⟨gb278, 2, none⟩ = some (.int .i64 x279002_1) := (blk_cell BK278.out 2).trans rfl
                    have hfz36_0 := blk_frozen BK278.out 0
                    have hfz36_1 := blk_frozen BK278.out 1
                    have hfz36_2 := blk_frozen BK278.out 2
                    try go_wp2_with (first | ((with_reducible refine gate_callee (f := 45) rfl ?_); refine goesL_ (some 42) rfl rfl Try.func45 (by kernel_rfl) rfl #[.agg #[.int .i64 a0_0, .int .i64 a0_1, .int .i64 a0_2], .int .i64 a1, .agg #[.int .i64 t282, .int .i64 t283, .int .i64 t284]] rfl (by (try simp only [List.map_toArray, List.map_cons, List.map_nil]); first | done | rfl | (simp only [List.length_drop, List.length_take]; rfl)) ?_; (with_reducible refine (ambidexterref22_may.calls a0_0 a0_1 a0_2 a1 t282 t283 t284 false _ A18.out).mono ?_); rintro e w37 ⟨rfl, hb⟩; refine ⟨_, rfl, ?_⟩; have n0_ := Aside0.mk (blk_below (g := gb277) (o := .cells #[.int .i64 a0_0, .int .i64 a0_1, .int .i64 a0_2] 23 (0, 0)) (by (with_reducible repeat (first | refine blk_drewN ?_ _ | refine blk_drew ?_ | refine blk_alloc ?_ _)); refine blk_far ?_ NB277_278.out _; (with_reducible repeat (first | refine blk_drewN ?_ _ | refine blk_drew ?_ | refine blk_alloc ?_ _)); refine blk_far ?_ NB277_278.out _; (with_reducible repeat (first | refine blk_drewN ?_ _ | refine blk_drew ?_ | refine blk_alloc ?_ _)); refine blk_far ?_ NB277_278.out _; (with_reducible repeat (first | refine blk_drewN ?_ _ | refine blk_drew ?_ | refine blk_alloc ?_ _)); exact BK277.out) hb); have n1_ := Aside0.mk (blk_below (g := gb278) (o := .cells #[.int .i64 t282, .int .i64 t283, .int .i64 t284] 37 (0, 0)) (by (with_reducible repeat (first | refine blk_drewN ?_ _ | refine blk_drew ?_ | refine blk_alloc ?_ _)); refine blk_put (cs := #[.int .i64 t282, .int .i64 t283, .int .i64 x279002_1]) ?_ 2 _ rfl; (with_reducible repeat (first | refine blk_drewN ?_ _ | refine blk_drew ?_ | refine blk_alloc ?_ _)); refine blk_put (cs := #[.int .i64 t282, .int .i64 x279001_1, .int .i64 x279002_1]) ?_ 1 _ rfl; (with_reducible repeat (first | refine blk_drewN ?_ _ | refine blk_drew ?_ | refine blk_alloc ?_ _)); refine blk_put (cs := #[.int .i64 x279000_1, .int .i64 x279001_1, .int .i64 x279002_1]) ?_ 0 _ rfl; (with_reducible repeat (first | refine blk_drewN ?_ _ | refine blk_drew ?_ | refine blk_alloc ?_ _)); exact BK278.out) hb); have n2_ := Aside0.mk (below_step (by repeat (first | (with_reducible first | exact HB.out | apply below_alloc | apply pw_below_drewN | apply below_drew1 | refine below_set ?_ GE277.out | refine below_set ?_ GE278.out) | exact HB.out)) hb); clear BK277; clear BK278; clear HB; have BK277 := n0_; have BK278 := n1_; have HB := n2_; clear n0_ n1_ n2_; (try clear hb); (try clear hb2); (try clear hk); (try clear hi)))
                    go_ret
                    exact ⟨by first | rfl | (simp [errW_none, errW_some] <;> rfl) | (simp [*, errW_none, errW_some] <;> rfl), by repeat (first | (with_reducible first | exact HB.out | apply below_alloc | apply pw_below_drewN | apply below_drew1 | refine below_set ?_ GE277.out | refine below_set ?_ GE278.out) | exact HB.out)⟩
                · rw [if_neg c16] at H
                  exact absurd H (by simp)
              · rw [if_neg c15] at H
                exact absurd H (by simp)
      · rw [if_neg c8] at H
        have c8b0 : decide (x8_1 < (l2.length : Int)) = false := decide_eq_false c8
        clear c8
        obtain rfl := Option.some.inj H
        have hnb38 := NB278_277.out
        have hnc38 := NB277_278.out
        have hcz39_0 : wr.cell? ⟨gb278, 0, none⟩ = some (.int .i64 x279000_1) := (blk_cell BK278.out 0).trans rfl
        have hcz39_1 : wr.cell? ⟨gb278, 1, none⟩ = some (.int .i64 x279001_1) := (blk_cell BK278.out 1).trans rfl
        have hcz39_2 : wr.cell? ⟨gb278, 2, none⟩ = some (.int .i64 x279002_1) := (blk_cell BK278.out 2).trans rfl
        have hfz39_0 := blk_frozen BK278.out 0
        have hfz39_1 := blk_frozen BK278.out 1
        have hfz39_2 := blk_frozen BK278.out 2
        go_wp2
        go_ret
        exact ⟨by first | rfl | (simp [errW_none, errW_some] <;> rfl) | (simp [*, errW_none, errW_some] <;> rfl), by repeat (first | (with_reducible first | exact HB.out | apply below_alloc | apply pw_below_drewN | apply below_drew1 | refine below_set ?_ GE277.out | refine below_set ?_ GE278.out) | exact HB.out)⟩

/-! ### ambidexterlaw22_MintimeReversed: function 7 -/
def ambidexterlaw22_MintimeReversed.l0 : Nat → Bool → Int → List Int → List Int → Int → Int → Int → Int → Option (Bool)
  | 0, _, _, _, _, _, _, _, _ => none
  | k + 1, x5, x7, x8, x10, x11, x292000, x292001, x292002 => if x11 ≥ 0 then (if 0 ≤ x11 then (if x11 < (x8.length : Int) then (if x10.length < 17592186044416 then (ambidexterlaw22_MintimeReversed.l0 k x5 x7 x8 (x10 ++ [rd x8 x11]) (wrap64 (x11 - 1)) x292000 x292001 x292002) else (none)) else (none)) else (none)) else (if x5 = true then ((ambidexterref22_Leads.f k x292000 x292001 x292002 x7 x10).bind fun t303 => (some t303)) else (some false))
def ambidexterlaw22_MintimeReversed.f (k : Nat) (a0_0 : Int) (a0_1 : Int) (a0_2 : Int) (a1 : Int) : Option (Bool) := (ambidexterlaw22_head.f k).bind fun t287 => ((ambidexterlaw22_Limits.f a0_0 a0_1 a0_2).bind fun bt288 => ((mintime_Profile.f k bt288.1 bt288.2.1 bt288.2.2 (Int.tmod (wrap64 (a1)) 421)).bind fun bt292 => (if bt292.2 = true then (ambidexterlaw22_MintimeReversed.l0 k t287 (Int.tmod (wrap64 (a1)) 421) bt292.1 (([] : List Int)) (wrap64 ((bt292.1.length : Int) - 1)) bt288.1 bt288.2.1 bt288.2.2) else (if t287 = true then (some ((Int.tmod (wrap64 (a1)) 421) == 1)) else (some false)))))
theorem ambidexterlaw22_MintimeReversed.mono_l : ∀ k, (∀ y0 y1 y2 y3 y4 y5 y6 y7, LeO (ambidexterlaw22_MintimeReversed.l0 k y0 y1 y2 y3 y4 y5 y6 y7) (ambidexterlaw22_MintimeReversed.l0 (k + 1) y0 y1 y2 y3 y4 y5 y6 y7))
  | 0 => fun _ _ _ _ _ _ _ _ r h => by simp [ambidexterlaw22_MintimeReversed.l0] at h
  | k + 1 => by
    have ih0 := ambidexterlaw22_MintimeReversed.mono_l k
    · intro y0 y1 y2 y3 y4 y5 y6 y7
      unfold ambidexterlaw22_MintimeReversed.l0
      repeat' first
      | (with_reducible exact ih0 _ _ _ _ _ _ _ _)
      | (with_reducible exact ambidexterlaw22_head.mono _)
      | (with_reducible exact ambidexterref22_Leads.mono _ _ _ _ _ _)
      | (with_reducible exact mintime_Profile.mono _ _ _ _ _)
      | (with_reducible exact LeO.refl _)
      | (with_reducible exact LeO.none _)
      | (with_reducible refine LeO.ite ?_ ?_)
      | (with_reducible refine LeO.bind ?_ (fun _ => ?_))
      | exact ih0 _ _ _ _ _ _ _ _
      | exact ambidexterlaw22_head.mono _
      | exact ambidexterref22_Leads.mono _ _ _ _ _ _
      | exact mintime_Profile.mono _ _ _ _ _
      | exact LeO.none _
      | refine LeO.ite ?_ ?_
      | refine LeO.bind ?_ (fun _ => ?_)
theorem ambidexterlaw22_MintimeReversed.mono : ∀ a0 a1 a2 a3 k, LeO (ambidexterlaw22_MintimeReversed.f k a0 a1 a2 a3) (ambidexterlaw22_MintimeReversed.f (k + 1) a0 a1 a2 a3) := by
  intro a0 a1 a2 a3 k
  have ih0 := ambidexterlaw22_MintimeReversed.mono_l k
  unfold ambidexterlaw22_MintimeReversed.f
  repeat' first
      | (with_reducible exact ih0 _ _ _ _ _ _ _ _)
      | (with_reducible exact ambidexterlaw22_head.mono _)
      | (with_reducible exact ambidexterref22_Leads.mono _ _ _ _ _ _)
      | (with_reducible exact mintime_Profile.mono _ _ _ _ _)
      | (with_reducible exact LeO.refl _)
      | (with_reducible exact LeO.none _)
      | (with_reducible refine LeO.ite ?_ ?_)
      | (with_reducible refine LeO.bind ?_ (fun _ => ?_))
      | exact ih0 _ _ _ _ _ _ _ _
      | exact ambidexterlaw22_head.mono _
      | exact ambidexterref22_Leads.mono _ _ _ _ _ _
      | exact mintime_Profile.mono _ _ _ _ _
      | exact LeO.none _
      | refine LeO.ite ?_ ?_
      | refine LeO.bind ?_ (fun _ => ?_)
set_option maxHeartbeats 8000000 in
set_option maxRecDepth 100000 in
theorem ambidexterlaw22_MintimeReversed.calls0 (k : Nat) (a0_0 : Int) (a0_1 : Int) (a0_2 : Int) (a1 : Int) (r : Bool) (w : World) (h : ambidexterlaw22_MintimeReversed.f k a0_0 a0_1 a0_2 a1 = some r) (hT : r = true) :
    Calls Try.prog 7 #[.agg #[.int .u8 a0_0, .int .u8 a0_1, .int .u8 a0_2], .int .u16 a1] w fun e w' => e = .returned (.bool r) ∧ Below w.heap.size w w' := by
  have hu32 := Try.underlying32
  have hu23 := Try.underlying23
  have HB := Aside0.mk (Below.refl w.heap.size w)
  have H : ((ambidexterlaw22_head.f k).bind fun t287 => ((ambidexterlaw22_Limits.f a0_0 a0_1 a0_2).bind fun bt288 => ((mintime_Profile.f k bt288.1 bt288.2.1 bt288.2.2 (Int.tmod (wrap64 (a1)) 421)).bind fun bt292 => (if bt292.2 = true then (ambidexterlaw22_MintimeReversed.l0 k t287 (Int.tmod (wrap64 (a1)) 421) bt292.1 (([] : List Int)) (wrap64 ((bt292.1.length : Int) - 1)) bt288.1 bt288.2.1 bt288.2.2) else (if t287 = true then (some ((Int.tmod (wrap64 (a1)) 421) == 1)) else (some false)))))) = some r := h
  clear h
  have HT := Aside0.mk hT
  clear hT
  replace H := Option.bind_eq_some_iff.mp H
  obtain ⟨t287, A30, H⟩ := H
  obtain rfl := ambidexterlaw22_head.is_true k A30
  replace H : ((ambidexterlaw22_Limits.f a0_0 a0_1 a0_2).bind fun bt288 => ((mintime_Profile.f k bt288.1 bt288.2.1 bt288.2.2 (Int.tmod (wrap64 (a1)) 421)).bind fun bt292 => (if bt292.2 = true then (ambidexterlaw22_MintimeReversed.l0 k true (Int.tmod (wrap64 (a1)) 421) bt292.1 (([] : List Int)) (wrap64 ((bt292.1.length : Int) - 1)) bt288.1 bt288.2.1 bt288.2.2) else (if true = true then (some ((Int.tmod (wrap64 (a1)) 421) == 1)) else (some false))))) = some r := H
  have A3 := Aside0.mk A30
  clear A30
  replace H := Option.bind_eq_some_iff.mp H
  obtain ⟨⟨t288, t289, t290⟩, A40, H⟩ := H
  replace H : ((mintime_Profile.f k t288 t289 t290 (Int.tmod (wrap64 (a1)) 421)).bind fun bt292 => (if bt292.2 = true then (ambidexterlaw22_MintimeReversed.l0 k true (Int.tmod (wrap64 (a1)) 421) bt292.1 (([] : List Int)) (wrap64 ((bt292.1.length : Int) - 1)) t288 t289 t290) else (if true = true then (some ((Int.tmod (wrap64 (a1)) 421) == 1)) else (some false)))) = some r := H
  have A4 := Aside0.mk A40
  clear A40
  replace H := Option.bind_eq_some_iff.mp H
  obtain ⟨⟨t292, t295⟩, A50, H⟩ := H
  replace H : (if t295 = true then (ambidexterlaw22_MintimeReversed.l0 k true (Int.tmod (wrap64 (a1)) 421) t292 (([] : List Int)) (wrap64 ((t292.length : Int) - 1)) t288 t289 t290) else (if true = true then (some ((Int.tmod (wrap64 (a1)) 421) == 1)) else (some false))) = some r := H
  have A5 := Aside0.mk A50
  clear A50
  by_cases c6 : t295 = true
  · subst c6
    have H1 : (ambidexterlaw22_MintimeReversed.l0 k true (Int.tmod (wrap64 (a1)) 421) t292 (([] : List Int)) (wrap64 ((t292.length : Int) - 1)) t288 t289 t290) = some r := by rw [if_pos rfl] at H; exact H
    clear H
    have H := H1
    clear H1
    obtain ⟨y296, hy296⟩ : ∃ y_ : List Int, y_ = (([] : List Int)) := ⟨_, rfl⟩
    replace H : (ambidexterlaw22_MintimeReversed.l0 k true (Int.tmod (wrap64 (a1)) 421) t292 y296 (wrap64 ((t292.length : Int) - 1)) t288 t289 t290) = some r := by first | (rw [hy296]; with_reducible exact H) | (have H2_ := (Option.bind_some _ _).symm.trans H; rw [hy296]; with_reducible exact H2_) | (have H2_ := (Option.bind_some _ _).symm.trans H; with_reducible exact H2_) | with_reducible exact H | (rw [hy296]; exact H) | exact H
    have Ny296 := Aside0.mk hy296
    clear hy296
    have H' := Aside0.mk H
    clear H
    go_enter Try.func7, Try.ntmps7
    go_wp2_with (first | ((with_reducible refine gate_dst (N := 2) rfl ?_); refine box_event ?hg (N := 2) ?hd (cs := #[.int .u8 a0_0, .int .u8 a0_1, .int .u8 a0_2]) (t := 32) ?hr ?_; (case hd => rfl); (case hg => rfl); (case hr => first | (go_simp; done) | (go_simp; rfl)); intro gb286 hg w7 hbox hb; have n0_ := Aside0.mk (below_step (by repeat (first | (with_reducible first | exact HB.out | apply below_alloc | apply pw_below_drewN | apply below_drew1) | exact HB.out)) hb); have n1_ := Aside0.mk (hbox); have n2_ := Aside0.mk ((by rw [hg]; exact (below_size (by repeat (first | (with_reducible first | exact HB.out | apply below_alloc | apply pw_below_drewN | apply below_drew1) | exact HB.out))) : w.heap.size ≤ gb286)); have n3_ := Aside0.mk ((by rw [hg]; exact (below_size (by repeat (first | (with_reducible first | exact HB.out | apply below_alloc | apply pw_below_drewN | apply below_drew1) | exact HB.out))) : w.heap.size ≤ gb286)); clear HB; have HB := n0_; have BK286 := n1_; have GW286 := n2_; have GE286 := n3_; clear n0_ n1_ n2_ n3_; clear hb hbox hg) | ((with_reducible refine gate_callee (f := 15) rfl ?_); refine goesL_ (some 12) rfl rfl Try.func15 (by kernel_rfl) rfl #[] rfl (by (try simp only [List.map_toArray, List.map_cons, List.map_nil]); first | done | rfl | (simp only [List.length_drop, List.length_take]; rfl)) ?_; (with_reducible refine (ambidexterlaw22_head.calls k  true _ A3.out).mono ?_); rintro e w8 ⟨rfl, hb⟩; refine ⟨_, rfl, ?_⟩; have n0_ := Aside0.mk (blk_below (g := gb286) (o := .cells #[.int .u8 a0_0, .int .u8 a0_1, .int .u8 a0_2] 32 (0, 0)) (by (with_reducible repeat (first | refine blk_drewN ?_ _ | refine blk_drew ?_ | refine blk_alloc ?_ _)); exact BK286.out) hb); have n1_ := Aside0.mk (below_step (by repeat (first | (with_reducible first | exact HB.out | apply below_alloc | apply pw_below_drewN | apply below_drew1 | refine below_set ?_ GE286.out) | exact HB.out)) hb); clear BK286; clear HB; have BK286 := n0_; have HB := n1_; clear n0_ n1_; (try clear hb); (try clear hb2); (try clear hk); (try clear hi); have hcz9_0 : w8.cell? ⟨gb286, 0, none⟩ = some (.int .u8 a0_0) := (blk_cell BK286.out 0).trans rfl; have hcz9_1 : w8.cell? ⟨gb286, 1, none⟩ = some (.int .u8 a0_1) := (blk_cell BK286.out 1).trans rfl; have hcz9_2 : w8.cell? ⟨gb286, 2, none⟩ = some (.int .u8 a0_2) := (blk_cell BK286.out 2).trans rfl; have hfz9_0 := blk_frozen BK286.out 0; have hfz9_1 := blk_frozen BK286.out 1; have hfz9_2 := blk_frozen BK286.out 2) | ((with_reducible refine gate_callee (f := 20) rfl ?_); refine goesL_ (some 19) rfl rfl Try.func20 (by kernel_rfl) rfl #[.int .u8 a0_0, .int .u8 a0_1, .int .u8 a0_2] rfl (by (try simp only [List.map_toArray, List.map_cons, List.map_nil]); first | done | rfl | (simp only [List.length_drop, List.length_take]; rfl)) ?_; (with_reducible refine (ambidexterlaw22_Limits.calls a0_0 a0_1 a0_2 t288 t289 t290 _ A4.out).mono ?_); rintro e w10 ⟨rfl, hb⟩; refine ⟨_, rfl, ?_⟩; have n0_ := Aside0.mk (blk_below (g := gb286) (o := .cells #[.int .u8 a0_0, .int .u8 a0_1, .int .u8 a0_2] 32 (0, 0)) (by (with_reducible repeat (first | refine blk_drewN ?_ _ | refine blk_drew ?_ | refine blk_alloc ?_ _)); exact BK286.out) hb); have n1_ := Aside0.mk (below_step (by repeat (first | (with_reducible first | exact HB.out | apply below_alloc | apply pw_below_drewN | apply below_drew1 | refine below_set ?_ GE286.out) | exact HB.out)) hb); clear BK286; clear HB; have BK286 := n0_; have HB := n1_; clear n0_ n1_; (try clear hb); (try clear hb2); (try clear hk); (try clear hi)) | ((with_reducible refine gate_dst (N := 6) rfl ?_); refine box_event ?hg (N := 6) ?hd (cs := #[.int .i64 0, .int .i64 0, .int .i64 0]) (t := 23) ?hr ?_; (case hd => rfl); (case hg => rfl); (case hr => first | (go_simp; done) | (go_simp; rfl)); intro gb291 hg w11 hbox hb; have n0_ := Aside0.mk (blk_below (g := gb286) (o := .cells #[.int .u8 a0_0, .int .u8 a0_1, .int .u8 a0_2] 32 (0, 0)) (by (with_reducible repeat (first | refine blk_drewN ?_ _ | refine blk_drew ?_ | refine blk_alloc ?_ _)); exact BK286.out) hb); have n1_ := Aside0.mk (below_step (by repeat (first | (with_reducible first | exact HB.out | apply below_alloc | apply pw_below_drewN | apply below_drew1 | refine below_set ?_ GE286.out) | exact HB.out)) hb); have n2_ := Aside0.mk (hbox); have n3_ := Aside0.mk ((by rw [hg]; exact (below_size (by repeat (first | (with_reducible first | exact HB.out | apply below_alloc | apply pw_below_drewN | apply below_drew1 | refine below_set ?_ GE286.out) | exact HB.out))) : w.heap.size ≤ gb291)); have n4_ := Aside0.mk ((by rw [hg]; exact (below_size (by repeat (first | (with_reducible first | exact HB.out | apply below_alloc | apply pw_below_drewN | apply below_drew1 | refine below_set ?_ GE286.out) | exact HB.out))) : w.heap.size ≤ gb291)); have n5_ := Aside0.mk ((by rw [hg]; exact Nat.ne_of_lt (blk_lt (g := gb286) (o := .cells #[.int .u8 a0_0, .int .u8 a0_1, .int .u8 a0_2] 32 (0, 0)) (by (with_reducible repeat (first | refine blk_drewN ?_ _ | refine blk_drew ?_ | refine blk_alloc ?_ _)); exact BK286.out)) : gb286 ≠ gb291)); have n6_ := Aside0.mk ((by rw [hg]; exact Nat.ne_of_gt (blk_lt (g := gb286) (o := .cells #[.int .u8 a0_0, .int .u8 a0_1, .int .u8 a0_2] 32 (0, 0)) (by (with_reducible repeat (first | refine blk_drewN ?_ _ | refine blk_drew ?_ | refine blk_alloc ?_ _)); exact BK286.out)) : gb291 ≠ gb286)); clear BK286; clear HB; have BK286 := n0_; have HB := n1_; have BK291 := n2_; have GW291 := n3_; have GE291 := n4_; have NB286_291 := n5_; have NB291_286 := n6_; clear n0_ n1_ n2_ n3_ n4_ n5_ n6_; clear hb hbox hg; have hnb12 := NB291_286.out; have hnc12 := NB286_291.out; have hcz13_0 : w11.cell? ⟨gb291, 0, none⟩ = some (.int .i64 0) := (blk_cell BK291.out 0).trans rfl; have hcz13_1 : w11.cell? ⟨gb291, 1, none⟩ = some (.int .i64 0) := (blk_cell BK291.out 1).trans rfl; have hcz13_2 : w11.cell? ⟨gb291, 2, none⟩ = some (.int .i64 0) := (blk_cell BK291.out 2).trans rfl; have hfz13_0 := blk_frozen BK291.out 0; have hfz13_1 := blk_frozen BK291.out 1; have hfz13_2 := blk_frozen BK291.out 2) | ((with_reducible refine gate_callee (f := 16) rfl ?_); refine goesL_ (some 26) rfl rfl Try.func16 (by kernel_rfl) rfl #[.agg #[.int .i64 t288, .int .i64 t289, .int .i64 t290], .int .i64 (Int.tmod (wrap64 (a1)) 421)] rfl (by (try simp only [List.map_toArray, List.map_cons, List.map_nil]); first | done | rfl | (simp only [List.length_drop, List.length_take]; rfl)) ?_; (with_reducible refine (mintime_Profile.calls k t288 t289 t290 (Int.tmod (wrap64 (a1)) 421) t292 true _ A5.out).mono ?_); rintro e w14 ⟨v293, rfl, ho0, hb⟩; refine ⟨_, rfl, ?_⟩; have n0_ := Aside0.mk (Kd.R_lower ho0 (below_size (by repeat (first | (with_reducible first | exact HB.out | apply below_alloc | apply pw_below_drewN | apply below_drew1 | refine below_set ?_ GE286.out | refine below_set ?_ GE291.out) | exact HB.out)))); have n1_ := Aside0.mk (blk_below (g := gb286) (o := .cells #[.int .u8 a0_0, .int .u8 a0_1, .int .u8 a0_2] 32 (0, 0)) (by (with_reducible repeat (first | refine blk_drewN ?_ _ | refine blk_drew ?_ | refine blk_alloc ?_ _)); refine blk_far ?_ NB286_291.out _; (with_reducible repeat (first | refine blk_drewN ?_ _ | refine blk_drew ?_ | refine blk_alloc ?_ _)); refine blk_far ?_ NB286_291.out _; (with_reducible repeat (first | refine blk_drewN ?_ _ | refine blk_drew ?_ | refine blk_alloc ?_ _)); refine blk_far ?_ NB286_291.out _; (with_reducible repeat (first | refine blk_drewN ?_ _ | refine blk_drew ?_ | refine blk_alloc ?_ _)); exact BK286.out) hb); have n2_ := Aside0.mk (blk_below (g := gb291) (o := .cells #[.int .i64 t288, .int .i64 t289, .int .i64 t290] 23 (0, 0)) (by (with_reducible repeat (first | refine blk_drewN ?_ _ | refine blk_drew ?_ | refine blk_alloc ?_ _)); refine blk_put (cs := #[.int .i64 t288, .int .i64 t289, .int .i64 0]) ?_ 2 _ rfl; (with_reducible repeat (first | refine blk_drewN ?_ _ | refine blk_drew ?_ | refine blk_alloc ?_ _)); refine blk_put (cs := #[.int .i64 t288, .int .i64 0, .int .i64 0]) ?_ 1 _ rfl; (with_reducible repeat (first | refine blk_drewN ?_ _ | refine blk_drew ?_ | refine blk_alloc ?_ _)); refine blk_put (cs := #[.int .i64 0, .int .i64 0, .int .i64 0]) ?_ 0 _ rfl; (with_reducible repeat (first | refine blk_drewN ?_ _ | refine blk_drew ?_ | refine blk_alloc ?_ _)); exact BK291.out) hb); have n3_ := Aside0.mk (below_step (by repeat (first | (with_reducible first | exact HB.out | apply below_alloc | apply pw_below_drewN | apply below_drew1 | refine below_set ?_ GE286.out | refine below_set ?_ GE291.out) | exact HB.out)) hb); clear BK286; clear BK291; clear HB; have HO294 := n0_; have BK286 := n1_; have BK291 := n2_; have HB := n3_; clear n0_ n1_ n2_ n3_; (try clear hb); (try clear hb2); (try clear hk); (try clear hi); (try clear ho0)) | ((with_reducible refine gate_dst (N := 36) rfl ?_); refine Kd.R_lit (Kd.int .i64) _ 3 ?hg (N := 36) ?hd (xs := ([] : List Int)) (inner := []) (ok := fun _ => True) (okp := fun _ => True) ?hr ?hp (fun _ hk => hk) trivial (Below.refl _ _) (Nat.le_refl _) (by simp) ?_; (case hd => rfl); (case hg => rfl); (case hr => first | (go_simp; done) | (go_simp; rfl)); (case hp => exact (Reps.none _ _)); intro v297 w15 ho16 hb hg_ hnew_; clear hg_ hnew_; (first | rw [← Ny296.out] at ho16 | (simp only [Int.reduceToNat] at ho16; rw [← Ny296.out] at ho16)); have n0_ := Aside0.mk (Kd.R_elder' (by (with_reducible repeat (first | apply Kd.R_alloc | apply Kd.R_drewN | apply Kd.R_drew)); exact HO294.out) (Kd.R_base ho16) hb); have n1_ := Aside0.mk (Kd.R_lower (Kd.R_new' ho16 (Kd.R_lt (by (with_reducible repeat (first | apply Kd.R_alloc | apply Kd.R_drewN | apply Kd.R_drew)); exact HO294.out))) (below_size (by repeat (first | (with_reducible first | exact HB.out | apply below_alloc | apply pw_below_drewN | apply below_drew1 | refine below_set ?_ GE286.out | refine below_set ?_ GE291.out) | exact HB.out)))); have n2_ := Aside0.mk (blk_below (g := gb286) (o := .cells #[.int .u8 a0_0, .int .u8 a0_1, .int .u8 a0_2] 32 (0, 0)) (by (with_reducible repeat (first | refine blk_drewN ?_ _ | refine blk_drew ?_ | refine blk_alloc ?_ _)); exact BK286.out) hb); have n3_ := Aside0.mk (blk_below (g := gb291) (o := .cells #[.int .i64 t288, .int .i64 t289, .int .i64 t290] 23 (0, 0)) (by (with_reducible repeat (first | refine blk_drewN ?_ _ | refine blk_drew ?_ | refine blk_alloc ?_ _)); exact BK291.out) hb); have n4_ := Aside0.mk (below_step (by repeat (first | (with_reducible first | exact HB.out | apply below_alloc | apply pw_below_drewN | apply below_drew1 | refine below_set ?_ GE286.out | refine below_set ?_ GE291.out) | exact HB.out)) hb); clear HO294; clear BK286; clear BK291; clear HB; have HO294 := n0_; have HO298 := n1_; have BK286 := n2_; have BK291 := n3_; have HB := n4_; clear n0_ n1_ n2_ n3_ n4_; clear hb ho16; obtain ⟨Ao17, co17, eo17⟩ := Kd.R_slice HO294.out; subst eo17))
    go_loopg [10, 11] k (fun kq v10 v11 w' => ∃ (x10_1 : List Int) (x11_1 : Int), v11 = .int .i64 x11_1 ∧ Aside0 (ambidexterlaw22_MintimeReversed.l0 kq true (Int.tmod (wrap64 (a1)) 421) t292 x10_1 x11_1 t288 t289 t290 = some r) ∧ Aside0 (kq ≤ k) ∧ Aside0 (Kd.R (Kd.int .i64) 3 w' w.heap.size (fun k_ => some k_ ≠ (v10 : Value).ownBlock) (.slice Ao17 t292.length co17) t292) ∧ Aside0 (Kd.R (Kd.int .i64) 3 w' w.heap.size (fun k_ => some k_ ≠ ((.slice Ao17 t292.length co17) : Value).ownBlock) v10 x10_1) ∧ Aside0 (w'.heap[gb286]? = some (.cells #[.int .u8 a0_0, .int .u8 a0_1, .int .u8 a0_2] 32 (0, 0))) ∧ Aside0 (w'.heap[gb291]? = some (.cells #[.int .i64 t288, .int .i64 t289, .int .i64 t290] 23 (0, 0))) ∧ Aside0 (Below w.heap.size w w'))
    case atStart => exact ⟨(y296), (wrap64 ((t292.length : Int) - 1)), (by first | rfl | (simp; done) | (simp [*]; done)), H', ⟨Nat.le_refl _⟩, ⟨by (with_reducible repeat (first | apply Kd.R_alloc | apply Kd.R_drewN | apply Kd.R_drew)); exact Kd.R_mono HO294.out (fun _ hk => hk.2)⟩, ⟨by (with_reducible repeat (first | apply Kd.R_alloc | apply Kd.R_drewN | apply Kd.R_drew)); exact Kd.R_mono HO298.out (fun _ hk => hk.2)⟩, ⟨by (with_reducible repeat (first | refine blk_drewN ?_ _ | refine blk_drew ?_ | refine blk_alloc ?_ _)); exact BK286.out⟩, ⟨by (with_reducible repeat (first | refine blk_drewN ?_ _ | refine blk_drew ?_ | refine blk_alloc ?_ _)); exact BK291.out⟩, ⟨by repeat (first | (with_reducible first | exact HB.out | apply below_alloc | apply pw_below_drewN | apply below_drew1 | refine below_set ?_ GE286.out | refine below_set ?_ GE291.out) | exact HB.out)⟩⟩
    case round =>
      clear H'
      try clear c1
      try clear c2
      try clear p2
      try clear c6
      try clear p6
      try clear c7
      try clear c12
      try clear c15
      try clear c16
      try clear hcz13_0
      try clear hcz13_1
      try clear hcz13_2
      try clear hcz9_0
      try clear hcz9_1
      try clear hcz9_2
      try clear hfz13_0
      try clear hfz13_1
      try clear hfz13_2
      try clear hfz9_0
      try clear hfz9_1
      try clear hfz9_2
      obtain ⟨x10_1, x11_1, rfl, HA, HK1, HO_8, HO_10, BK286, BK291, HB⟩ := hrel
      cases gk with
      | zero => exact absurd HA.out (by simp [ambidexterlaw22_MintimeReversed.l0])
      | succ k1 =>
        have H := HA.out
        clear HA
        simp only [ambidexterlaw22_MintimeReversed.l0] at H
        by_cases c18 : x11_1 ≥ 0
        · rw [if_pos c18] at H
          have c18b0 : decide (0 ≤ x11_1) = true := decide_eq_true c18
          clear c18
          by_cases c19 : 0 ≤ x11_1
          · rw [if_pos c19] at H
            have c19b0 : decide (0 ≤ x11_1) = true := decide_eq_true c19
            clear c19
            by_cases c20 : x11_1 < (t292.length : Int)
            · rw [if_pos c20] at H
              have c20b0 : decide (x11_1 < (t292.length : Int)) = true := decide_eq_true c20
              clear c20
              by_cases c21 : x10_1.length < 17592186044416
              · rw [if_pos c21] at H
                have LMc21 := Aside0.mk c21
                clear c21
                obtain ⟨y300, hy300⟩ : ∃ y_ : List Int, y_ = (x10_1 ++ [rd t292 x11_1]) := ⟨_, rfl⟩
                replace H : (ambidexterlaw22_MintimeReversed.l0 k1 true (Int.tmod (wrap64 (a1)) 421) t292 y300 (wrap64 (x11_1 - 1)) t288 t289 t290) = some r := by first | (rw [hy300]; with_reducible exact H) | (have H2_ := (Option.bind_some _ _).symm.trans H; rw [hy300]; with_reducible exact H2_) | (have H2_ := (Option.bind_some _ _).symm.trans H; with_reducible exact H2_) | with_reducible exact H | (rw [hy300]; exact H) | exact H
                have Ny300 := Aside0.mk hy300
                clear hy300
                have H' := Aside0.mk H
                clear H
                have p299 : 0 ≤ (x11_1 : Int) := of_decide_eq_true (by first | (with_reducible assumption) | assumption)
                have q299 : x11_1 < (t292.length : Int) := of_decide_eq_true (by first | (with_reducible assumption) | assumption)
                obtain ⟨ad299, e299, hx299_0⟩ := Kd.at_int (Kd.R_reads' HO_8.out).2.2 x11_1 p299 q299
                cases e299
                replace p299 := eq_true p299
                replace q299 := eq_true q299
                go_wp2_with (first | ((with_reducible refine gate_builtin (b := .append) (xs := #[.tmp 44, .tmp 49]) rfl ?_); at_builtin; refine Kd.R_append (Kd.int .i64) (w0 := w) w.heap.size rfl (.tmp 44) (.tmp 49) 25 3 (.int .i64 0) 8 rfl Try.underlying25 info3 rfl (by decide) (by omega) u10 x10_1 (rd t292 x11_1) [.int .i64 (rd t292 x11_1)] (fun k_ => some k_ ≠ (.slice (some ad299) t292.length co17 : Value).ownBlock) (fun _ => False) rfl rfl ?aP (fun _ hk => hk.elim) ?aF ?aO ?aB ?aS ?aL ?_; (case aP => exact rfl); (case aB => exact (by repeat (first | (with_reducible first | exact HB.out | apply below_alloc | apply pw_below_drewN | apply below_drew1 | refine below_set ?_ GE286.out | refine below_set ?_ GE291.out) | exact HB.out))); (case aF => exact (fun k_ hk => Kd.fresh' (Kd.R_lt (by (with_reducible repeat (first | apply Kd.R_alloc | apply Kd.R_drewN | apply Kd.R_drew)); exact HO_8.out)) k_ hk)); (case aO => exact (by (with_reducible repeat (first | apply Kd.R_alloc | apply Kd.R_drewN | apply Kd.R_drew)); exact HO_10.out)); (case aS => exact (below_size (by repeat (first | (with_reducible first | exact HB.out | apply below_alloc | apply pw_below_drewN | apply below_drew1 | refine below_set ?_ GE286.out | refine below_set ?_ GE291.out) | exact HB.out)))); (case aL => have := LMc21.out; omega); intro v301 w22 ho hb hg hat; rw [← Ny300.out] at ho; have n0_ := Aside0.mk (Kd.R_after (ok := (fun _ => True)) (by (with_reducible repeat (first | apply Kd.R_alloc | apply Kd.R_drewN | apply Kd.R_drew)); exact Kd.R_mono HO_8.out (fun _ hk => ⟨trivial, hk⟩)) hg hat); have n1_ := Aside0.mk (blk_grown (g := gb286) (o := .cells #[.int .u8 a0_0, .int .u8 a0_1, .int .u8 a0_2] 32 (0, 0)) (by (with_reducible repeat (first | refine blk_drewN ?_ _ | refine blk_drew ?_ | refine blk_alloc ?_ _)); exact BK286.out) hg (Kd.R_ne HO_10.out BK286.out (by decide))); have n2_ := Aside0.mk (blk_grown (g := gb291) (o := .cells #[.int .i64 t288, .int .i64 t289, .int .i64 t290] 23 (0, 0)) (by (with_reducible repeat (first | refine blk_drewN ?_ _ | refine blk_drew ?_ | refine blk_alloc ?_ _)); exact BK291.out) hg (Kd.R_ne HO_10.out BK291.out (by decide))); have n3_ := Aside0.mk (hb); have n4_ := Aside0.mk (ho); clear HO_8; clear BK286; clear BK291; clear HB; clear HO_10; have HO_8 := n0_; have BK286 := n1_; have BK291 := n2_; have HB := n3_; have HO302 := n4_; clear n0_ n1_ n2_ n3_ n4_; clear ho hb hg hat))
                go_roundg k1
                case measure => have := HK1.out; omega
                case rel => exact ⟨(y300), (wrap64 (x11_1 - 1)), (by first | rfl | (simp; done) | (simp [*]; done)), H', ⟨by have := HK1.out; omega⟩, ⟨by (with_reducible repeat (first | apply Kd.R_alloc | apply Kd.R_drewN | apply Kd.R_drew)); exact Kd.R_mono HO_8.out (fun _ hk => hk.2)⟩, ⟨by (with_reducible repeat (first | apply Kd.R_alloc | apply Kd.R_drewN | apply Kd.R_drew)); exact HO302.out⟩, ⟨by (with_reducible repeat (first | refine blk_drewN ?_ _ | refine blk_drew ?_ | refine blk_alloc ?_ _)); exact BK286.out⟩, ⟨by (with_reducible repeat (first | refine blk_drewN ?_ _ | refine blk_drew ?_ | refine blk_alloc ?_ _)); exact BK291.out⟩, ⟨by repeat (first | (with_reducible first | exact HB.out | apply below_alloc | apply pw_below_drewN | apply below_drew1 | refine below_set ?_ GE286.out | refine below_set ?_ GE291.out) | exact HB.out)⟩⟩
              · rw [if_neg c21] at H
                exact absurd H (by simp)
            · rw [if_neg c20] at H
              exact absurd H (by simp)
          · rw [if_neg c19] at H
            exact absurd H (by simp)
        · rw [if_neg c18] at H
          have c18b0 : decide (0 ≤ x11_1) = false := decide_eq_false c18
          clear c18
          have H1 : ((ambidexterref22_Leads.f k1 t288 t289 t290 (Int.tmod (wrap64 (a1)) 421) x10_1).bind fun t303 => (some t303)) = some r := by first | (rw [if_pos rfl] at H; exact H) | (rw [if_pos True.intro] at H; exact H)
          clear H
          have H := H1
          clear H1
          replace H := Option.bind_eq_some_iff.mp H
          obtain ⟨t303, A230, H⟩ := H
          replace H : (some t303) = some r := H
          have A23 := Aside0.mk A230
          clear A230
          obtain rfl := Option.some.inj H
          have hnb24 := NB291_286.out
          have hnc24 := NB286_291.out
          have hcz25_0 : wr.cell? ⟨gb291, 0, none⟩ = some (.int .i64 t288) := (blk_cell BK291.out 0).trans rfl
          have hcz25_1 : wr.cell? ⟨gb291, 1, none⟩ = some (.int .i64 t289) := (blk_cell BK291.out 1).trans rfl
          have hcz25_2 : wr.cell? ⟨gb291, 2, none⟩ = some (.int .i64 t290) := (blk_cell BK291.out 2).trans rfl
          have hfz25_0 := blk_frozen BK291.out 0
          have hfz25_1 := blk_frozen BK291.out 1
          have hfz25_2 := blk_frozen BK291.out 2
          obtain ⟨Ao26, co26, eo26⟩ := Kd.R_slice HO_10.out
          subst eo26
          go_wp2_with (first | (go_at_call 23; (with_reducible refine (ambidexterref22_Leads.calls k1 t288 t289 t290 (Int.tmod (wrap64 (a1)) 421) _ _ x10_1 t303 _ ?side1 ?side2 A23.out).mono ?_); (case side1 => repeat (first | exact (Kd.R_reads' HO_10.out).2.2 | (with_reducible refine Kd.C_alloc ?_ _) | (with_reducible refine Kd.C_drewN ?_ _) | (with_reducible refine Kd.C_drew ?_))); (case side2 => exact (Kd.R_reads' HO_10.out).2.1); rintro e w27 ⟨rfl, hb⟩; have n0_ := Aside0.mk (Kd.R_below (by (with_reducible repeat (first | apply Kd.R_alloc | apply Kd.R_drewN | apply Kd.R_drew)); exact HO_8.out) hb); have n1_ := Aside0.mk (Kd.R_below (by (with_reducible repeat (first | apply Kd.R_alloc | apply Kd.R_drewN | apply Kd.R_drew)); exact HO_10.out) hb); have n2_ := Aside0.mk (blk_below (g := gb286) (o := .cells #[.int .u8 a0_0, .int .u8 a0_1, .int .u8 a0_2] 32 (0, 0)) (by (with_reducible repeat (first | refine blk_drewN ?_ _ | refine blk_drew ?_ | refine blk_alloc ?_ _)); exact BK286.out) hb); have n3_ := Aside0.mk (blk_below (g := gb291) (o := .cells #[.int .i64 t288, .int .i64 t289, .int .i64 t290] 23 (0, 0)) (by (with_reducible repeat (first | refine blk_drewN ?_ _ | refine blk_drew ?_ | refine blk_alloc ?_ _)); exact BK291.out) hb); have n4_ := Aside0.mk (below_step (by repeat (first | (with_reducible first | exact HB.out | apply below_alloc | apply pw_below_drewN | apply below_drew1 | refine below_set ?_ GE286.out | refine below_set ?_ GE291.out) | exact HB.out)) hb); clear HO_8; clear HO_10; clear BK286; clear BK291; clear HB; have HO_8 := n0_; have HO_10 := n1_; have BK286 := n2_; have BK291 := n3_; have HB := n4_; clear n0_ n1_ n2_ n3_ n4_; (try clear hb); (try clear hb2); (try clear hk); (try clear hi)))
          go_ret
          exact ⟨by first | rfl | (simp [errW_none, errW_some] <;> rfl) | (simp [*, errW_none, errW_some] <;> rfl), by repeat (first | (with_reducible first | exact HB.out | apply below_alloc | apply pw_below_drewN | apply below_drew1 | refine below_set ?_ GE286.out | refine below_set ?_ GE291.out) | exact HB.out)⟩
  · replace c6 := Bool.eq_false_iff.mpr c6
    subst c6
    have H1 : (if true = true then (some ((Int.tmod (wrap64 (a1)) 421) == 1)) else (some false)) = some r := by rw [if_neg (show ¬ (false = true) by decide)] at H; exact H
    clear H
    have H := H1
    clear H1
    have H1 : (some ((Int.tmod (wrap64 (a1)) 421) == 1)) = some r := by first | (rw [if_pos rfl] at H; exact H) | (rw [if_pos True.intro] at H; exact H)
    clear H
    have H := H1
    clear H1
    obtain rfl := Option.some.inj H
    go_enter Try.func7, Try.ntmps7
    go_wp2_with (first | ((with_reducible refine gate_dst (N := 2) rfl ?_); refine box_event ?hg (N := 2) ?hd (cs := #[.int .u8 a0_0, .int .u8 a0_1, .int .u8 a0_2]) (t := 32) ?hr ?_; (case hd => rfl); (case hg => rfl); (case hr => first | (go_simp; done) | (go_simp; rfl)); intro gb286 hg w28 hbox hb; have n0_ := Aside0.mk (below_step (by repeat (first | (with_reducible first | exact HB.out | apply below_alloc | apply pw_below_drewN | apply below_drew1) | exact HB.out)) hb); have n1_ := Aside0.mk (hbox); have n2_ := Aside0.mk ((by rw [hg]; exact (below_size (by repeat (first | (with_reducible first | exact HB.out | apply below_alloc | apply pw_below_drewN | apply below_drew1) | exact HB.out))) : w.heap.size ≤ gb286)); have n3_ := Aside0.mk ((by rw [hg]; exact (below_size (by repeat (first | (with_reducible first | exact HB.out | apply below_alloc | apply pw_below_drewN | apply below_drew1) | exact HB.out))) : w.heap.size ≤ gb286)); clear HB; have HB := n0_; have BK286 := n1_; have GW286 := n2_; have GE286 := n3_; clear n0_ n1_ n2_ n3_; clear hb hbox hg) | ((with_reducible refine gate_callee (f := 15) rfl ?_); refine goesL_ (some 12) rfl rfl Try.func15 (by kernel_rfl) rfl #[] rfl (by (try simp only [List.map_toArray, List.map_cons, List.map_nil]); first | done | rfl | (simp only [List.length_drop, List.length_take]; rfl)) ?_; (with_reducible refine (ambidexterlaw22_head.calls k  true _ A3.out).mono ?_); rintro e w29 ⟨rfl, hb⟩; refine ⟨_, rfl, ?_⟩; have n0_ := Aside0.mk (blk_below (g := gb286) (o := .cells #[.int .u8 a0_0, .int .u8 a0_1, .int .u8 a0_2] 32 (0, 0)) (by (with_reducible repeat (first | refine blk_drewN ?_ _ | refine blk_drew ?_ | refine blk_alloc ?_ _)); exact BK286.out) hb); have n1_ := Aside0.mk (below_step (by repeat (first | (with_reducible first | exact HB.out | apply below_alloc | apply pw_below_drewN | apply below_drew1 | refine below_set ?_ GE286.out) | exact HB.out)) hb); clear BK286; clear HB; have BK286 := n0_; have HB := n1_; clear n0_ n1_; (try clear hb); (try clear hb2); (try clear hk); (try clear hi); have hcz30_0 : w29.cell? ⟨gb286, 0, none⟩ = some (.int .u8 a0_0) := (blk_cell BK286.out 0).trans rfl; have hcz30_1 : w29.cell? ⟨gb286, 1, none⟩ = some (.int .u8 a0_1) := (blk_cell BK286.out 1).trans rfl; have hcz30_2 : w29.cell? ⟨gb286, 2, none⟩ = some (.int .u8 a0_2) := (blk_cell BK286.out 2).trans rfl; have hfz30_0 := blk_frozen BK286.out 0; have hfz30_1 := blk_frozen BK286.out 1; have hfz30_2 := blk_frozen BK286.out 2) | ((with_reducible refine gate_callee (f := 20) rfl ?_); refine goesL_ (some 19) rfl rfl Try.func20 (by kernel_rfl) rfl #[.int .u8 a0_0, .int .u8 a0_1, .int .u8 a0_2] rfl (by (try simp only [List.map_toArray, List.map_cons, List.map_nil]); first | done | rfl | (simp only [List.length_drop, List.length_take]; rfl)) ?_; (with_reducible refine (ambidexterlaw22_Limits.calls a0_0 a0_1 a0_2 t288 t289 t290 _ A4.out).mono ?_); rintro e w31 ⟨rfl, hb⟩; refine ⟨_, rfl, ?_⟩; have n0_ := Aside0.mk (blk_below (g := gb286) (o := .cells #[.int .u8 a0_0, .int .u8 a0_1, .int .u8 a0_2] 32 (0, 0)) (by (with_reducible repeat (first | refine blk_drewN ?_ _ | refine blk_drew ?_ | refine blk_alloc ?_ _)); exact BK286.out) hb); have n1_ := Aside0.mk (below_step (by repeat (first | (with_reducible first | exact HB.out | apply below_alloc | apply pw_below_drewN | apply below_drew1 | refine below_set ?_ GE286.out) | exact HB.out)) hb); clear BK286; clear HB; have BK286 := n0_; have HB := n1_; clear n0_ n1_; (try clear hb); (try clear hb2); (try clear hk); (try clear hi)) | ((with_reducible refine gate_dst (N := 6) rfl ?_); refine box_event ?hg (N := 6) ?hd (cs := #[.int .i64 0, .int .i64 0, .int .i64 0]) (t := 23) ?hr ?_; (case hd => rfl); (case hg => rfl); (case hr => first | (go_simp; done) | (go_simp; rfl)); intro gb291 hg w32 hbox hb; have n0_ := Aside0.mk (blk_below (g := gb286) (o := .cells #[.int .u8 a0_0, .int .u8 a0_1, .int .u8 a0_2] 32 (0, 0)) (by (with_reducible repeat (first | refine blk_drewN ?_ _ | refine blk_drew ?_ | refine blk_alloc ?_ _)); exact BK286.out) hb); have n1_ := Aside0.mk (below_step (by repeat (first | (with_reducible first | exact HB.out | apply below_alloc | apply pw_below_drewN | apply below_drew1 | refine below_set ?_ GE286.out) | exact HB.out)) hb); have n2_ := Aside0.mk (hbox); have n3_ := Aside0.mk ((by rw [hg]; exact (below_size (by repeat (first | (with_reducible first | exact HB.out | apply below_alloc | apply pw_below_drewN | apply below_drew1 | refine below_set ?_ GE286.out) | exact HB.out))) : w.heap.size ≤ gb291)); have n4_ := Aside0.mk ((by rw [hg]; exact (below_size (by repeat (first | (with_reducible first | exact HB.out | apply below_alloc | apply pw_below_drewN | apply below_drew1 | refine below_set ?_ GE286.out) | exact HB.out))) : w.heap.size ≤ gb291)); have n5_ := Aside0.mk ((by rw [hg]; exact Nat.ne_of_lt (blk_lt (g := gb286) (o := .cells #[.int .u8 a0_0, .int .u8 a0_1, .int .u8 a0_2] 32 (0, 0)) (by (with_reducible repeat (first | refine blk_drewN ?_ _ | refine blk_drew ?_ | refine blk_alloc ?_ _)); exact BK286.out)) : gb286 ≠ gb291)); have n6_ := Aside0.mk ((by rw [hg]; exact Nat.ne_of_gt (blk_lt (g := gb286) (o := .cells #[.int .u8 a0_0, .int .u8 a0_1, .int .u8 a0_2] 32 (0, 0)) (by (with_reducible repeat (first | refine blk_drewN ?_ _ | refine blk_drew ?_ | refine blk_alloc ?_ _)); exact BK286.out)) : gb291 ≠ gb286)); clear BK286; clear HB; have BK286 := n0_; have HB := n1_; have BK291 := n2_; have GW291 := n3_; have GE291 := n4_; have NB286_291 := n5_; have NB291_286 := n6_; clear n0_ n1_ n2_ n3_ n4_ n5_ n6_; clear hb hbox hg; have hnb33 := NB291_286.out; have hnc33 := NB286_291.out; have hcz34_0 : w32.cell? ⟨gb291, 0, none⟩ = some (.int .i64 0) := (blk_cell BK291.out 0).trans rfl; have hcz34_1 : w32.cell? ⟨gb291, 1, none⟩ = some (.int .i64 0) := (blk_cell BK291.out 1).trans rfl; have hcz34_2 : w32.cell? ⟨gb291, 2, none⟩ = some (.int .i64 0) := (blk_cell BK291.out 2).trans rfl; have hfz34_0 := blk_frozen BK291.out 0; have hfz34_1 := blk_frozen BK291.out 1; have hfz34_2 := blk_frozen BK291.out 2) | ((with_reducible refine gate_callee (f := 16) rfl ?_); refine goesL_ (some 26) rfl rfl Try.func16 (by kernel_rfl) rfl #[.agg #[.int .i64 t288, .int .i64 t289, .int .i64 t290], .int .i64 (Int.tmod (wrap64 (a1)) 421)] rfl (by (try simp only [List.map_toArray, List.map_cons, List.map_nil]); first | done | rfl | (simp only [List.length_drop, List.length_take]; rfl)) ?_; (with_reducible refine (mintime_Profile.calls k t288 t289 t290 (Int.tmod (wrap64 (a1)) 421) t292 false _ A5.out).mono ?_); rintro e w35 ⟨v293, rfl, ho0, hb⟩; refine ⟨_, rfl, ?_⟩; have n0_ := Aside0.mk (Kd.R_lower ho0 (below_size (by repeat (first | (with_reducible first | exact HB.out | apply below_alloc | apply pw_below_drewN | apply below_drew1 | refine below_set ?_ GE286.out | refine below_set ?_ GE291.out) | exact HB.out)))); have n1_ := Aside0.mk (blk_below (g := gb286) (o := .cells #[.int .u8 a0_0, .int .u8 a0_1, .int .u8 a0_2] 32 (0, 0)) (by (with_reducible repeat (first | refine blk_drewN ?_ _ | refine blk_drew ?_ | refine blk_alloc ?_ _)); refine blk_far ?_ NB286_291.out _; (with_reducible repeat (first | refine blk_drewN ?_ _ | refine blk_drew ?_ | refine blk_alloc ?_ _)); refine blk_far ?_ NB286_291.out _; (with_reducible repeat (first | refine blk_drewN ?_ _ | refine blk_drew ?_ | refine blk_alloc ?_ _)); refine blk_far ?_ NB286_291.out _; (with_reducible repeat (first | refine blk_drewN ?_ _ | refine blk_drew ?_ | refine blk_alloc ?_ _)); exact BK286.out) hb); have n2_ := Aside0.mk (blk_below (g := gb291) (o := .cells #[.int .i64 t288, .int .i64 t289, .int .i64 t290] 23 (0, 0)) (by (with_reducible repeat (first | refine blk_drewN ?_ _ | refine blk_drew ?_ | refine blk_alloc ?_ _)); refine blk_put (cs := #[.int .i64 t288, .int .i64 t289, .int .i64 0]) ?_ 2 _ rfl; (with_reducible repeat (first | refine blk_drewN ?_ _ | refine blk_drew ?_ | refine blk_alloc ?_ _)); refine blk_put (cs := #[.int .i64 t288, .int .i64 0, .int .i64 0]) ?_ 1 _ rfl; (with_reducible repeat (first | refine blk_drewN ?_ _ | refine blk_drew ?_ | refine blk_alloc ?_ _)); refine blk_put (cs := #[.int .i64 0, .int .i64 0, .int .i64 0]) ?_ 0 _ rfl; (with_reducible repeat (first | refine blk_drewN ?_ _ | refine blk_drew ?_ | refine blk_alloc ?_ _)); exact BK291.out) hb); have n3_ := Aside0.mk (below_step (by repeat (first | (with_reducible first | exact HB.out | apply below_alloc | apply pw_below_drewN | apply below_drew1 | refine below_set ?_ GE286.out | refine below_set ?_ GE291.out) | exact HB.out)) hb); clear BK286; clear BK291; clear HB; have HO294 := n0_; have BK286 := n1_; have BK291 := n2_; have HB := n3_; clear n0_ n1_ n2_ n3_; (try clear hb); (try clear hb2); (try clear hk); (try clear hi); (try clear ho0)))
    go_ret
    exact ⟨by first | rfl | (simp [errW_none, errW_some] <;> rfl) | (simp [*, errW_none, errW_some] <;> rfl), by repeat (first | (with_reducible first | exact HB.out | apply below_alloc | apply pw_below_drewN | apply below_drew1 | refine below_set ?_ GE286.out | refine below_set ?_ GE291.out) | exact HB.out)⟩

end Go.Proofs.Ytjcefdockfbnaaa.P
