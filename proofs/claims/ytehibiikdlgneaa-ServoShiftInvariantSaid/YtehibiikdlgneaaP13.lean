-- Written by this session's own program, for this seat. Lean checks it.
import Derived.Test.YtehibiikdlgneaaP0
import Derived.Test.YtehibiikdlgneaaP12
namespace Go.Proofs.Ytehibiikdlgneaa.P
open Go.RowKit Go.Proofs.YtehibiikdlgneaaW.PrintWords Go.Proofs.YtehibiikdlgneaaW.PrintLast Go.Proofs.YtehibiikdlgneaaW.PrintMore
attribute [local go_sem] max2_int min2_int max_two min_two max_three min_three max_four min_four   -- for this text's walks alone
set_option linter.unusedVariables false
set_option linter.unusedSimpArgs false

/-! ### ambidexterref25_Tick: function 33 -/
mutual
def ambidexterref25_Tick.j0 : Nat → Int → Int → Int → Int → Int → Bool → Option (Int × Int × Int × Int × Bool × Int)
  | 0, _, _, _, _, _, _ => none
  | k + 1, x3, x441000, x441001, x441002, x441003, x441004 => (ambidexterref25_Error.f x441000 x441001 x441002 x441003 x441004 x3).bind fun t445 => (if t445 > 128 then (ambidexterref25_Tick.j1 k 128 x441000 x441001 x441002 x441003 x441004) else (ambidexterref25_Tick.j1 k t445 x441000 x441001 x441002 x441003 x441004))
def ambidexterref25_Tick.j1 : Nat → Int → Int → Int → Int → Int → Bool → Option (Int × Int × Int × Int × Bool × Int)
  | 0, _, _, _, _, _, _ => none
  | k + 1, x10, x441000, x441001, x441002, x441003, x441004 => if x10 < (-128) then (if x441004 = true then ((ambidexterref24_Tell.f x441000 x441001 x441002 0).bind fun bt446 => (some (bt446.1, bt446.2.1, bt446.2.2, 0, x441004, 0))) else ((ambidexterref24_Tell.f x441000 x441001 x441002 (-128)).bind fun bt449 => (some (bt449.1, bt449.2.1, bt449.2.2, (-128), x441004, (-128))))) else (if x441004 = true then ((ambidexterref24_Tell.f x441000 x441001 x441002 0).bind fun bt452 => (some (bt452.1, bt452.2.1, bt452.2.2, 0, x441004, 0))) else ((ambidexterref24_Tell.f x441000 x441001 x441002 x10).bind fun bt455 => (some (bt455.1, bt455.2.1, bt455.2.2, x10, x441004, x10))))
end
def ambidexterref25_Tick.f (k : Nat) (a0_0 : Int) (a0_1 : Int) (a0_2 : Int) (a0_3 : Int) (a0_4 : Bool) (a1 : Int) (a2 : Int) (a3 : Int) : Option (Int × Int × Int × Int × Bool × Int) := (ambidexterref24_Hear.f a0_0 a0_1 a0_2 a1 a2).bind fun bt442 => (if a0_4 = true then (ambidexterref25_Tick.j0 k a3 bt442.1 bt442.2.1 bt442.2.2 a0_3 true) else (ambidexterref25_Tick.j0 k a3 bt442.1 bt442.2.1 bt442.2.2 a0_3 (decide (bt442.2.2 > 6))))
theorem ambidexterref25_Tick.mono_l : ∀ k, (∀ y0 y1 y2 y3 y4 y5, LeO (ambidexterref25_Tick.j0 k y0 y1 y2 y3 y4 y5) (ambidexterref25_Tick.j0 (k + 1) y0 y1 y2 y3 y4 y5)) ∧ (∀ y0 y1 y2 y3 y4 y5, LeO (ambidexterref25_Tick.j1 k y0 y1 y2 y3 y4 y5) (ambidexterref25_Tick.j1 (k + 1) y0 y1 y2 y3 y4 y5))
  | 0 => ⟨fun _ _ _ _ _ _ r h => by simp [ambidexterref25_Tick.j0] at h, fun _ _ _ _ _ _ r h => by simp [ambidexterref25_Tick.j1] at h⟩
  | k + 1 => by
    obtain ⟨ih0, ih1⟩ := ambidexterref25_Tick.mono_l k
    refine ⟨?_, ?_⟩
    · intro y0 y1 y2 y3 y4 y5
      unfold ambidexterref25_Tick.j0
      repeat' first
      | (with_reducible exact ih0 _ _ _ _ _ _)
      | (with_reducible exact ih1 _ _ _ _ _ _)
      | (with_reducible exact LeO.refl _)
      | (with_reducible exact LeO.none _)
      | (with_reducible refine LeO.ite ?_ ?_)
      | (with_reducible refine LeO.bind ?_ (fun _ => ?_))
      | exact ih0 _ _ _ _ _ _
      | exact ih1 _ _ _ _ _ _
      | exact LeO.none _
      | refine LeO.ite ?_ ?_
      | refine LeO.bind ?_ (fun _ => ?_)
    · intro y0 y1 y2 y3 y4 y5
      unfold ambidexterref25_Tick.j1
      repeat' first
      | (with_reducible exact ih0 _ _ _ _ _ _)
      | (with_reducible exact ih1 _ _ _ _ _ _)
      | (with_reducible exact LeO.refl _)
      | (with_reducible exact LeO.none _)
      | (with_reducible refine LeO.ite ?_ ?_)
      | (with_reducible refine LeO.bind ?_ (fun _ => ?_))
      | exact ih0 _ _ _ _ _ _
      | exact ih1 _ _ _ _ _ _
      | exact LeO.none _
      | refine LeO.ite ?_ ?_
      | refine LeO.bind ?_ (fun _ => ?_)
theorem ambidexterref25_Tick.mono : ∀ a0 a1 a2 a3 a4 a5 a6 a7 k, LeO (ambidexterref25_Tick.f k a0 a1 a2 a3 a4 a5 a6 a7) (ambidexterref25_Tick.f (k + 1) a0 a1 a2 a3 a4 a5 a6 a7) := by
  intro a0 a1 a2 a3 a4 a5 a6 a7 k
  obtain ⟨ih0, ih1⟩ := ambidexterref25_Tick.mono_l k
  unfold ambidexterref25_Tick.f
  repeat' first
      | (with_reducible exact ih0 _ _ _ _ _ _)
      | (with_reducible exact ih1 _ _ _ _ _ _)
      | (with_reducible exact LeO.refl _)
      | (with_reducible exact LeO.none _)
      | (with_reducible refine LeO.ite ?_ ?_)
      | (with_reducible refine LeO.bind ?_ (fun _ => ?_))
      | exact ih0 _ _ _ _ _ _
      | exact ih1 _ _ _ _ _ _
      | exact LeO.none _
      | refine LeO.ite ?_ ?_
      | refine LeO.bind ?_ (fun _ => ?_)
set_option maxHeartbeats 8000000 in
set_option maxRecDepth 100000 in
theorem ambidexterref25_Tick.calls (k : Nat) (a0_0 : Int) (a0_1 : Int) (a0_2 : Int) (a0_3 : Int) (a0_4 : Bool) (a1 : Int) (a2 : Int) (a3 : Int) (r1 : Int) (r2 : Int) (r3 : Int) (r4 : Int) (r5 : Bool) (r6 : Int) (w : World) (h : ambidexterref25_Tick.f k a0_0 a0_1 a0_2 a0_3 a0_4 a1 a2 a3 = some (r1, r2, r3, r4, r5, r6)) :
    Calls Try.prog 33 #[.agg #[.int .i64 a0_0, .int .i64 a0_1, .int .i64 a0_2, .int .i64 a0_3, .bool a0_4], .int .i64 a1, .int .i64 a2, .int .i64 a3] w fun e w' => e = .returned (.tuple #[.agg #[.int .i64 r1, .int .i64 r2, .int .i64 r3, .int .i64 r4, .bool r5], .int .i64 r6]) ∧ Below w.heap.size w w' := by
  have hu49 := Try.underlying49
  have hu47 := Try.underlying47
  have HB := Aside0.mk (Below.refl w.heap.size w)
  have H : ((ambidexterref24_Hear.f a0_0 a0_1 a0_2 a1 a2).bind fun bt442 => (if a0_4 = true then (ambidexterref25_Tick.j0 k a3 bt442.1 bt442.2.1 bt442.2.2 a0_3 true) else (ambidexterref25_Tick.j0 k a3 bt442.1 bt442.2.1 bt442.2.2 a0_3 (decide (bt442.2.2 > 6))))) = some (r1, r2, r3, r4, r5, r6) := h
  clear h
  replace H := Option.bind_eq_some_iff.mp H
  obtain ⟨⟨t442, t443, t444⟩, A50, H⟩ := H
  replace H : (if a0_4 = true then (ambidexterref25_Tick.j0 k a3 t442 t443 t444 a0_3 true) else (ambidexterref25_Tick.j0 k a3 t442 t443 t444 a0_3 (decide (t444 > 6)))) = some (r1, r2, r3, r4, r5, r6) := H
  have A5 := Aside0.mk A50
  clear A50
  have HC6 := Aside0.mk H
  clear H
  go_enter Try.func33, Try.ntmps33
  go_upto_region 2 with (first | ((with_reducible refine gate_dst (N := 4) rfl ?_); refine box_event ?hg (N := 4) ?hd (cs := #[.int .i64 a0_0, .int .i64 a0_1, .int .i64 a0_2, .int .i64 a0_3, .bool a0_4]) (t := 49) ?hr ?_; (case hd => rfl); (case hg => rfl); (case hr => first | (go_simp; done) | (go_simp; rfl)); intro gb440 hg w7 hbox hb; have n0_ := Aside0.mk (below_step (by repeat (first | (with_reducible first | exact HB.out | apply below_alloc | apply pw_below_drewN | apply below_drew1) | exact HB.out)) hb); have n1_ := Aside0.mk (hbox); have n2_ := Aside0.mk ((by rw [hg]; exact (below_size (by repeat (first | (with_reducible first | exact HB.out | apply below_alloc | apply pw_below_drewN | apply below_drew1) | exact HB.out))) : w.heap.size ≤ gb440)); have n3_ := Aside0.mk ((by rw [hg]; exact (below_size (by repeat (first | (with_reducible first | exact HB.out | apply below_alloc | apply pw_below_drewN | apply below_drew1) | exact HB.out))) : w.heap.size ≤ gb440)); clear HB; have HB := n0_; have BK440 := n1_; have GW440 := n2_; have GE440 := n3_; clear n0_ n1_ n2_ n3_; clear hb hbox hg) | ((with_reducible refine gate_dst (N := 8) rfl ?_); refine box_event ?hg (N := 8) ?hd (cs := #[.int .i64 0, .int .i64 0, .int .i64 0, .int .i64 0, .bool false]) (t := 49) ?hr ?_; (case hd => rfl); (case hg => rfl); (case hr => first | (go_simp; done) | (go_simp; rfl)); intro gb441 hg w8 hbox hb; have n0_ := Aside0.mk (blk_below (g := gb440) (o := .cells #[.int .i64 a0_0, .int .i64 a0_1, .int .i64 a0_2, .int .i64 a0_3, .bool a0_4] 49 (0, 0)) (by (with_reducible repeat (first | refine blk_drewN ?_ _ | refine blk_drew ?_ | refine blk_alloc ?_ _)); exact BK440.out) hb); have n1_ := Aside0.mk (below_step (by repeat (first | (with_reducible first | exact HB.out | apply below_alloc | apply pw_below_drewN | apply below_drew1 | refine below_set ?_ GE440.out) | exact HB.out)) hb); have n2_ := Aside0.mk (hbox); have n3_ := Aside0.mk ((by rw [hg]; exact (below_size (by repeat (first | (with_reducible first | exact HB.out | apply below_alloc | apply pw_below_drewN | apply below_drew1 | refine below_set ?_ GE440.out) | exact HB.out))) : w.heap.size ≤ gb441)); have n4_ := Aside0.mk ((by rw [hg]; exact (below_size (by repeat (first | (with_reducible first | exact HB.out | apply below_alloc | apply pw_below_drewN | apply below_drew1 | refine below_set ?_ GE440.out) | exact HB.out))) : w.heap.size ≤ gb441)); have n5_ := Aside0.mk ((by rw [hg]; exact Nat.ne_of_lt (blk_lt (g := gb440) (o := .cells #[.int .i64 a0_0, .int .i64 a0_1, .int .i64 a0_2, .int .i64 a0_3, .bool a0_4] 49 (0, 0)) (by (with_reducible repeat (first | refine blk_drewN ?_ _ | refine blk_drew ?_ | refine blk_alloc ?_ _)); exact BK440.out)) : gb440 ≠ gb441)); have n6_ := Aside0.mk ((by rw [hg]; exact Nat.ne_of_gt (blk_lt (g := gb440) (o := .cells #[.int .i64 a0_0, .int .i64 a0_1, .int .i64 a0_2, .int .i64 a0_3, .bool a0_4] 49 (0, 0)) (by (with_reducible repeat (first | refine blk_drewN ?_ _ | refine blk_drew ?_ | refine blk_alloc ?_ _)); exact BK440.out)) : gb441 ≠ gb440)); clear BK440; clear HB; have BK440 := n0_; have HB := n1_; have BK441 := n2_; have GW441 := n3_; have GE441 := n4_; have NB440_441 := n5_; have NB441_440 := n6_; clear n0_ n1_ n2_ n3_ n4_ n5_ n6_; clear hb hbox hg; have hnb9 := NB440_441.out; have hnc9 := NB441_440.out; have hcz10_0 : w8.cell? ⟨gb440, 0, none⟩ = some (.int .i64 a0_0) := (blk_cell BK440.out 0).trans rfl; have hcz10_1 : w8.cell? ⟨gb440, 1, none⟩ = some (.int .i64 a0_1) := (blk_cell BK440.out 1).trans rfl; have hcz10_2 : w8.cell? ⟨gb440, 2, none⟩ = some (.int .i64 a0_2) := (blk_cell BK440.out 2).trans rfl; have hcz10_3 : w8.cell? ⟨gb440, 3, none⟩ = some (.int .i64 a0_3) := (blk_cell BK440.out 3).trans rfl; have hcz10_4 : w8.cell? ⟨gb440, 4, none⟩ = some (.bool a0_4) := (blk_cell BK440.out 4).trans rfl; have hfz10_0 := blk_frozen BK440.out 0; have hfz10_1 := blk_frozen BK440.out 1; have hfz10_2 := blk_frozen BK440.out 2; have hfz10_3 := blk_frozen BK440.out 3; have hfz10_4 := blk_frozen BK440.out 4) | ((with_reducible refine gate_callee (f := 48) rfl ?_); refine goesL_ (some 15) rfl rfl Try.func48 (by kernel_rfl) rfl #[.agg #[.int .i64 a0_0, .int .i64 a0_1, .int .i64 a0_2], .int .i64 a1, .int .i64 a2] rfl (by (try simp only [List.map_toArray, List.map_cons, List.map_nil]); first | done | rfl | (simp only [List.length_drop, List.length_take]; rfl)) ?_; (with_reducible refine (ambidexterref24_Hear.calls a0_0 a0_1 a0_2 a1 a2 t442 t443 t444 _ A5.out).mono ?_); rintro e w11 ⟨rfl, hb⟩; refine ⟨_, rfl, ?_⟩; have n0_ := Aside0.mk (blk_below (g := gb440) (o := .cells #[.int .i64 a0_0, .int .i64 a0_1, .int .i64 a0_2, .int .i64 a0_3, .bool a0_4] 49 (0, 0)) (by (with_reducible repeat (first | refine blk_drewN ?_ _ | refine blk_drew ?_ | refine blk_alloc ?_ _)); exact BK440.out) hb); have n1_ := Aside0.mk (blk_below (g := gb441) (o := .cells #[.int .i64 0, .int .i64 0, .int .i64 0, .int .i64 0, .bool false] 49 (0, 0)) (by (with_reducible repeat (first | refine blk_drewN ?_ _ | refine blk_drew ?_ | refine blk_alloc ?_ _)); exact BK441.out) hb); have n2_ := Aside0.mk (below_step (by repeat (first | (with_reducible first | exact HB.out | apply below_alloc | apply pw_below_drewN | apply below_drew1 | refine below_set ?_ GE440.out | refine below_set ?_ GE441.out) | exact HB.out)) hb); clear BK440; clear BK441; clear HB; have BK440 := n0_; have BK441 := n1_; have HB := n2_; clear n0_ n1_ n2_; (try clear hb); (try clear hb2); (try clear hk); (try clear hi); have hcz12_0 : w11.cell? ⟨gb440, 0, none⟩ = some (.int .i64 a0_0) := (blk_cell BK440.out 0).trans rfl; have hcz12_1 : w11.cell? ⟨gb440, 1, none⟩ = some (.int .i64 a0_1) := (blk_cell BK440.out 1).trans rfl; have hcz12_2 : w11.cell? ⟨gb440, 2, none⟩ = some (.int .i64 a0_2) := (blk_cell BK440.out 2).trans rfl; have hcz12_3 : w11.cell? ⟨gb440, 3, none⟩ = some (.int .i64 a0_3) := (blk_cell BK440.out 3).trans rfl; have hcz12_4 : w11.cell? ⟨gb440, 4, none⟩ = some (.bool a0_4) := (blk_cell BK440.out 4).trans rfl; have hfz12_0 := blk_frozen BK440.out 0; have hfz12_1 := blk_frozen BK440.out 1; have hfz12_2 := blk_frozen BK440.out 2; have hfz12_3 := blk_frozen BK440.out 3; have hfz12_4 := blk_frozen BK440.out 4))
  (try simp only [Act.put, List.setIfInBounds_toArray, List.set_cons_zero, List.set_cons_succ])
  go_cut [] (fun wc => ∃ (kq : Nat) (x441004_5 : Bool), Aside0 (ambidexterref25_Tick.j0 kq a3 t442 t443 t444 a0_3 x441004_5 = some (r1, r2, r3, r4, r5, r6)) ∧ Aside0 (kq ≤ k) ∧ Aside0 (wc.heap[gb440]? = some (.cells #[.int .i64 t442, .int .i64 t443, .int .i64 t444, .int .i64 a0_3, .bool x441004_5] 49 (0, 0))) ∧ Aside0 (wc.heap[gb441]? = some (.cells #[.int .i64 0, .int .i64 0, .int .i64 0, .int .i64 0, .bool false] 49 (0, 0))) ∧ Aside0 (Below w.heap.size w wc))
  case first =>
    have H := HC6.out
    clear HC6
    by_cases c13 : a0_4 = true
    · subst c13
      have H1 : (ambidexterref25_Tick.j0 k a3 t442 t443 t444 a0_3 true) = some (r1, r2, r3, r4, r5, r6) := by rw [if_pos rfl] at H; exact H
      clear H
      have H := H1
      clear H1
      have H' := Aside0.mk H
      clear H
      have hnb14 := NB440_441.out
      have hnc14 := NB441_440.out
      have hcz15_0 : w11.cell? ⟨gb440, 0, none⟩ = some (.int .i64 a0_0) := (blk_cell BK440.out 0).trans rfl
      have hcz15_1 : w11.cell? ⟨gb440, 1, none⟩ = some (.int .i64 a0_1) := (blk_cell BK440.out 1).trans rfl
      have hcz15_2 : w11.cell? ⟨gb440, 2, none⟩ = some (.int .i64 a0_2) := (blk_cell BK440.out 2).trans rfl
      have hcz15_3 : w11.cell? ⟨gb440, 3, none⟩ = some (.int .i64 a0_3) := (blk_cell BK440.out 3).trans rfl
      have hcz15_4 : w11.cell? ⟨gb440, 4, none⟩ = some (.bool true) := (blk_cell BK440.out 4).trans rfl
      have hfz15_0 := blk_frozen BK440.out 0
      have hfz15_1 := blk_frozen BK440.out 1
      have hfz15_2 := blk_frozen BK440.out 2
      have hfz15_3 := blk_frozen BK440.out 3
      have hfz15_4 := blk_frozen BK440.out 4
      go_wp2
      go_meet
      case rel => exact ⟨_, (true), H', ⟨by first | omega | exact Nat.le_refl _⟩, ⟨by (with_reducible repeat (first | refine blk_drewN ?_ _ | refine blk_drew ?_ | refine blk_alloc ?_ _)); refine blk_put (cs := #[.int .i64 t442, .int .i64 t443, .int .i64 t444, .int .i64 a0_3, .bool true]) ?_ 4 _ rfl; (with_reducible repeat (first | refine blk_drewN ?_ _ | refine blk_drew ?_ | refine blk_alloc ?_ _)); refine blk_put (cs := #[.int .i64 t442, .int .i64 t443, .int .i64 a0_2, .int .i64 a0_3, .bool true]) ?_ 2 _ rfl; (with_reducible repeat (first | refine blk_drewN ?_ _ | refine blk_drew ?_ | refine blk_alloc ?_ _)); refine blk_put (cs := #[.int .i64 t442, .int .i64 a0_1, .int .i64 a0_2, .int .i64 a0_3, .bool true]) ?_ 1 _ rfl; (with_reducible repeat (first | refine blk_drewN ?_ _ | refine blk_drew ?_ | refine blk_alloc ?_ _)); refine blk_put (cs := #[.int .i64 a0_0, .int .i64 a0_1, .int .i64 a0_2, .int .i64 a0_3, .bool true]) ?_ 0 _ rfl; (with_reducible repeat (first | refine blk_drewN ?_ _ | refine blk_drew ?_ | refine blk_alloc ?_ _)); exact BK440.out⟩, ⟨by (with_reducible repeat (first | refine blk_drewN ?_ _ | refine blk_drew ?_ | refine blk_alloc ?_ _)); refine blk_far ?_ NB441_440.out _; (with_reducible repeat (first | refine blk_drewN ?_ _ | refine blk_drew ?_ | refine blk_alloc ?_ _)); refine blk_far ?_ NB441_440.out _; (with_reducible repeat (first | refine blk_drewN ?_ _ | refine blk_drew ?_ | refine blk_alloc ?_ _)); refine blk_far ?_ NB441_440.out _; (with_reducible repeat (first | refine blk_drewN ?_ _ | refine blk_drew ?_ | refine blk_alloc ?_ _)); refine blk_far ?_ NB441_440.out _; (with_reducible repeat (first | refine blk_drewN ?_ _ | refine blk_drew ?_ | refine blk_alloc ?_ _)); exact BK441.out⟩, ⟨by repeat (first | (with_reducible first | exact HB.out | apply below_alloc | apply pw_below_drewN | apply below_drew1 | refine below_set ?_ GE440.out | refine below_set ?_ GE441.out) | exact HB.out)⟩⟩
    · replace c13 := Bool.eq_false_iff.mpr c13
      subst c13
      have H1 : (ambidexterref25_Tick.j0 k a3 t442 t443 t444 a0_3 (decide (t444 > 6))) = some (r1, r2, r3, r4, r5, r6) := by rw [if_neg (show ¬ (false = true) by decide)] at H; exact H
      clear H
      have H := H1
      clear H1
      have H' := Aside0.mk H
      clear H
      have hnb16 := NB440_441.out
      have hnc16 := NB441_440.out
      have hcz17_0 : w11.cell? ⟨gb440, 0, none⟩ = some (.int .i64 a0_0) := (blk_cell BK440.out 0).trans rfl
      have hcz17_1 : w11.cell? ⟨gb440, 1, none⟩ = some (.int .i64 a0_1) := (blk_cell BK440.out 1).trans rfl
      have hcz17_2 : w11.cell? ⟨gb440, 2, none⟩ = some (.int .i64 a0_2) := (blk_cell BK440.out 2).trans rfl
      have hcz17_3 : w11.cell? ⟨gb440, 3, none⟩ = some (.int .i64 a0_3) := (blk_cell BK440.out 3).trans rfl
      have hcz17_4 : w11.cell? ⟨gb440, 4, none⟩ = some (.bool false) := (blk_cell BK440.out 4).trans rfl
      have hfz17_0 := blk_frozen BK440.out 0
      have hfz17_1 := blk_frozen BK440.out 1
      have hfz17_2 := blk_frozen BK440.out 2
      have hfz17_3 := blk_frozen BK440.out 3
      have hfz17_4 := blk_frozen BK440.out 4
      go_wp2
      go_meet
      case rel => exact ⟨_, (decide (t444 > 6)), H', ⟨by first | omega | exact Nat.le_refl _⟩, ⟨by (with_reducible repeat (first | refine blk_drewN ?_ _ | refine blk_drew ?_ | refine blk_alloc ?_ _)); refine blk_put (cs := #[.int .i64 t442, .int .i64 t443, .int .i64 t444, .int .i64 a0_3, .bool false]) ?_ 4 _ rfl; (with_reducible repeat (first | refine blk_drewN ?_ _ | refine blk_drew ?_ | refine blk_alloc ?_ _)); refine blk_put (cs := #[.int .i64 t442, .int .i64 t443, .int .i64 a0_2, .int .i64 a0_3, .bool false]) ?_ 2 _ rfl; (with_reducible repeat (first | refine blk_drewN ?_ _ | refine blk_drew ?_ | refine blk_alloc ?_ _)); refine blk_put (cs := #[.int .i64 t442, .int .i64 a0_1, .int .i64 a0_2, .int .i64 a0_3, .bool false]) ?_ 1 _ rfl; (with_reducible repeat (first | refine blk_drewN ?_ _ | refine blk_drew ?_ | refine blk_alloc ?_ _)); refine blk_put (cs := #[.int .i64 a0_0, .int .i64 a0_1, .int .i64 a0_2, .int .i64 a0_3, .bool false]) ?_ 0 _ rfl; (with_reducible repeat (first | refine blk_drewN ?_ _ | refine blk_drew ?_ | refine blk_alloc ?_ _)); exact BK440.out⟩, ⟨by (with_reducible repeat (first | refine blk_drewN ?_ _ | refine blk_drew ?_ | refine blk_alloc ?_ _)); refine blk_far ?_ NB441_440.out _; (with_reducible repeat (first | refine blk_drewN ?_ _ | refine blk_drew ?_ | refine blk_alloc ?_ _)); refine blk_far ?_ NB441_440.out _; (with_reducible repeat (first | refine blk_drewN ?_ _ | refine blk_drew ?_ | refine blk_alloc ?_ _)); refine blk_far ?_ NB441_440.out _; (with_reducible repeat (first | refine blk_drewN ?_ _ | refine blk_drew ?_ | refine blk_alloc ?_ _)); refine blk_far ?_ NB441_440.out _; (with_reducible repeat (first | refine blk_drewN ?_ _ | refine blk_drew ?_ | refine blk_alloc ?_ _)); exact BK441.out⟩, ⟨by repeat (first | (with_reducible first | exact HB.out | apply below_alloc | apply pw_below_drewN | apply below_drew1 | refine below_set ?_ GE440.out | refine below_set ?_ GE441.out) | exact HB.out)⟩⟩
  case rest =>
    clear HC6
    try clear c1
    try clear p2
    try clear c3
    try clear c4
    try clear c9
    try clear c13
    try clear c14
    try clear c16
    try clear hcz10_0
    try clear hcz10_1
    try clear hcz10_2
    try clear hcz10_3
    try clear hcz10_4
    try clear hcz12_0
    try clear hcz12_1
    try clear hcz12_2
    try clear hcz12_3
    try clear hcz12_4
    try clear hcz15_0
    try clear hcz15_1
    try clear hcz15_2
    try clear hcz15_3
    try clear hcz15_4
    try clear hcz17_0
    try clear hcz17_1
    try clear hcz17_2
    try clear hcz17_3
    try clear hcz17_4
    try clear hfz10_0
    try clear hfz10_1
    try clear hfz10_2
    try clear hfz10_3
    try clear hfz10_4
    try clear hfz12_0
    try clear hfz12_1
    try clear hfz12_2
    try clear hfz12_3
    try clear hfz12_4
    try clear hfz15_0
    try clear hfz15_1
    try clear hfz15_2
    try clear hfz15_3
    try clear hfz15_4
    try clear hfz17_0
    try clear hfz17_1
    try clear hfz17_2
    try clear hfz17_3
    try clear hfz17_4
    obtain ⟨kq, x441004_5, HA, HJ5, BK440, BK441, HB⟩ := hcut
    cases kq with
    | zero => exact absurd HA.out (by simp [ambidexterref25_Tick.j0])
    | succ kj5 =>
      have H := HA.out
      clear HA
      simp only [ambidexterref25_Tick.j0] at H
      replace H := Option.bind_eq_some_iff.mp H
      obtain ⟨t445, A180, H⟩ := H
      replace H : (if t445 > 128 then (ambidexterref25_Tick.j1 kj5 128 t442 t443 t444 a0_3 x441004_5) else (ambidexterref25_Tick.j1 kj5 t445 t442 t443 t444 a0_3 x441004_5)) = some (r1, r2, r3, r4, r5, r6) := H
      have A18 := Aside0.mk A180
      clear A180
      have HC19 := Aside0.mk H
      clear H
      have hnb20 := NB440_441.out
      have hnc20 := NB441_440.out
      have hcz21_0 : wc.cell? ⟨gb440, 0, none⟩ = some (.int .i64 t442) := (blk_cell BK440.out 0).trans rfl
      have hcz21_1 : wc.cell? ⟨gb440, 1, none⟩ = some (.int .i64 t443) := (blk_cell BK440.out 1).trans rfl
      have hcz21_2 : wc.cell? ⟨gb440, 2, none⟩ = some (.int .i64 t444) := (blk_cell BK440.out 2).trans rfl
      have hcz21_3 : wc.cell? ⟨gb440, 3, none⟩ = some (.int .i64 a0_3) := (blk_cell BK440.out 3).trans rfl
      have hcz21_4 : wc.cell? ⟨gb440, 4, none⟩ = some (.bool x441004_5) := (blk_cell BK440.out 4).trans rfl
      have hfz21_0 := blk_frozen BK440.out 0
      have hfz21_1 := blk_frozen BK440.out 1
      have hfz21_2 := blk_frozen BK440.out 2
      have hfz21_3 := blk_frozen BK440.out 3
      have hfz21_4 := blk_frozen BK440.out 4
      go_upto_if 30 with (first | ((with_reducible refine gate_callee (f := 35) rfl ?_); refine goesL_ (some 28) rfl rfl Try.func35 (by kernel_rfl) rfl #[.agg #[.int .i64 t442, .int .i64 t443, .int .i64 t444, .int .i64 a0_3, .bool x441004_5], .int .i64 a3] rfl (by (try simp only [List.map_toArray, List.map_cons, List.map_nil]); first | done | rfl | (simp only [List.length_drop, List.length_take]; rfl)) ?_; (with_reducible refine (ambidexterref25_Error.calls t442 t443 t444 a0_3 x441004_5 a3 t445 _ A18.out).mono ?_); rintro e w22 ⟨rfl, hb⟩; refine ⟨_, rfl, ?_⟩; have n0_ := Aside0.mk (blk_below (g := gb440) (o := .cells #[.int .i64 t442, .int .i64 t443, .int .i64 t444, .int .i64 a0_3, .bool x441004_5] 49 (0, 0)) (by (with_reducible repeat (first | refine blk_drewN ?_ _ | refine blk_drew ?_ | refine blk_alloc ?_ _)); exact BK440.out) hb); have n1_ := Aside0.mk (blk_below (g := gb441) (o := .cells #[.int .i64 0, .int .i64 0, .int .i64 0, .int .i64 0, .bool false] 49 (0, 0)) (by (with_reducible repeat (first | refine blk_drewN ?_ _ | refine blk_drew ?_ | refine blk_alloc ?_ _)); exact BK441.out) hb); have n2_ := Aside0.mk (below_step (by repeat (first | (with_reducible first | exact HB.out | apply below_alloc | apply pw_below_drewN | apply below_drew1 | refine below_set ?_ GE440.out | refine below_set ?_ GE441.out) | exact HB.out)) hb); clear BK440; clear BK441; clear HB; have BK440 := n0_; have BK441 := n1_; have HB := n2_; clear n0_ n1_ n2_; (try clear hb); (try clear hb2); (try clear hk); (try clear hi)))
      (try simp only [Act.put, List.setIfInBounds_toArray, List.set_cons_zero, List.set_cons_succ])
      go_cut [10] (fun v10 wc => ∃ (kq : Nat) (x10_18 : Int), v10 = .int .i64 x10_18 ∧ Aside0 (ambidexterref25_Tick.j1 kq x10_18 t442 t443 t444 a0_3 x441004_5 = some (r1, r2, r3, r4, r5, r6)) ∧ Aside0 (kq ≤ kj5) ∧ Aside0 (wc.heap[gb440]? = some (.cells #[.int .i64 t442, .int .i64 t443, .int .i64 t444, .int .i64 a0_3, .bool x441004_5] 49 (0, 0))) ∧ Aside0 (wc.heap[gb441]? = some (.cells #[.int .i64 0, .int .i64 0, .int .i64 0, .int .i64 0, .bool false] 49 (0, 0))) ∧ Aside0 (Below w.heap.size w wc))
      case first =>
        have H := HC19.out
        clear HC19
        by_cases c23 : t445 > 128
        · rw [if_pos c23] at H
          have c23b0 : decide (128 < t445) = true := decide_eq_true c23
          clear c23
          (first | rw [c23b0] | (simp only [i64_w, i32_w]; rw [c23b0]) | skip)
          have H' := Aside0.mk H
          clear H
          go_wp2
          go_meet
          case rel => exact ⟨_, (128), (by first | rfl | (simp; done) | (simp [*]; done)), H', ⟨by have := HJ5.out; first | omega | exact Nat.le_refl _⟩, ⟨by (with_reducible repeat (first | refine blk_drewN ?_ _ | refine blk_drew ?_ | refine blk_alloc ?_ _)); exact BK440.out⟩, ⟨by (with_reducible repeat (first | refine blk_drewN ?_ _ | refine blk_drew ?_ | refine blk_alloc ?_ _)); exact BK441.out⟩, ⟨by repeat (first | (with_reducible first | exact HB.out | apply below_alloc | apply pw_below_drewN | apply below_drew1 | refine below_set ?_ GE440.out | refine below_set ?_ GE441.out) | exact HB.out)⟩⟩
        · rw [if_neg c23] at H
          have c23b0 : decide (128 < t445) = false := decide_eq_false c23
          clear c23
          (first | rw [c23b0] | (simp only [i64_w, i32_w]; rw [c23b0]) | skip)
          have H' := Aside0.mk H
          clear H
          go_wp2
          go_meet
          case rel => exact ⟨_, (t445), (by first | rfl | (simp; done) | (simp [*]; done)), H', ⟨by have := HJ5.out; first | omega | exact Nat.le_refl _⟩, ⟨by (with_reducible repeat (first | refine blk_drewN ?_ _ | refine blk_drew ?_ | refine blk_alloc ?_ _)); exact BK440.out⟩, ⟨by (with_reducible repeat (first | refine blk_drewN ?_ _ | refine blk_drew ?_ | refine blk_alloc ?_ _)); exact BK441.out⟩, ⟨by repeat (first | (with_reducible first | exact HB.out | apply below_alloc | apply pw_below_drewN | apply below_drew1 | refine below_set ?_ GE440.out | refine below_set ?_ GE441.out) | exact HB.out)⟩⟩
      case rest =>
        clear HC19
        try clear c1
        try clear c2
        try clear p2
        try clear c3
        try clear c4
        try clear c9
        try clear c13
        try clear c14
        try clear c16
        try clear c20
        try clear c23
        try clear c23b0
        try clear hcz10_0
        try clear hcz10_1
        try clear hcz10_2
        try clear hcz10_3
        try clear hcz10_4
        try clear hcz12_0
        try clear hcz12_1
        try clear hcz12_2
        try clear hcz12_3
        try clear hcz12_4
        try clear hcz15_0
        try clear hcz15_1
        try clear hcz15_2
        try clear hcz15_3
        try clear hcz15_4
        try clear hcz17_0
        try clear hcz17_1
        try clear hcz17_2
        try clear hcz17_3
        try clear hcz17_4
        try clear hcz21_0
        try clear hcz21_1
        try clear hcz21_2
        try clear hcz21_3
        try clear hcz21_4
        try clear hfz10_0
        try clear hfz10_1
        try clear hfz10_2
        try clear hfz10_3
        try clear hfz10_4
        try clear hfz12_0
        try clear hfz12_1
        try clear hfz12_2
        try clear hfz12_3
        try clear hfz12_4
        try clear hfz15_0
        try clear hfz15_1
        try clear hfz15_2
        try clear hfz15_3
        try clear hfz15_4
        try clear hfz17_0
        try clear hfz17_1
        try clear hfz17_2
        try clear hfz17_3
        try clear hfz17_4
        try clear hfz21_0
        try clear hfz21_1
        try clear hfz21_2
        try clear hfz21_3
        try clear hfz21_4
        try clear p2
        obtain ⟨kq, x10_18, rfl, HA, HJ18, BK440, BK441, HB⟩ := hcut
        cases kq with
        | zero => exact absurd HA.out (by simp [ambidexterref25_Tick.j1])
        | succ kj18 =>
          have H := HA.out
          clear HA
          simp only [ambidexterref25_Tick.j1] at H
          by_cases c24 : x10_18 < (-128)
          · rw [if_pos c24] at H
            have c24b0 : decide (x10_18 < (-128)) = true := decide_eq_true c24
            clear c24
            by_cases c25 : x441004_5 = true
            · subst c25
              have H1 : ((ambidexterref24_Tell.f t442 t443 t444 0).bind fun bt446 => (some (bt446.1, bt446.2.1, bt446.2.2, 0, true, 0))) = some (r1, r2, r3, r4, r5, r6) := by rw [if_pos rfl] at H; exact H
              clear H
              have H := H1
              clear H1
              replace H := Option.bind_eq_some_iff.mp H
              obtain ⟨⟨t446, t447, t448⟩, A260, H⟩ := H
              replace H : (some (t446, t447, t448, 0, true, 0)) = some (r1, r2, r3, r4, r5, r6) := H
              have A26 := Aside0.mk A260
              clear A260
              simp only [Option.some.injEq, Prod.mk.injEq] at H
              obtain ⟨rfl, rfl, rfl, rfl, rfl, rfl⟩ := H
              have hnb27 := NB440_441.out
              have hnc27 := NB441_440.out
              have hcz28_0 : wc.cell? ⟨gb440, 0, none⟩ = some (.int .i64 t442) := (blk_cell BK440.out 0).trans rfl
              have hcz28_1 : wc.cell? ⟨gb440, 1, none⟩ = some (.int .i64 t443) := (blk_cell BK440.out 1).trans rfl
              have hcz28_2 : wc.cell? ⟨gb440, 2, none⟩ = some (.int .i64 t444) := (blk_cell BK440.out 2).trans rfl
              have hcz28_3 : wc.cell? ⟨gb440, 3, none⟩ = some (.int .i64 a0_3) := (blk_cell BK440.out 3).trans rfl
              have hcz28_4 : wc.cell? ⟨gb440, 4, none⟩ = some (.bool true) := (blk_cell BK440.out 4).trans rfl
              have hfz28_0 := blk_frozen BK440.out 0
              have hfz28_1 := blk_frozen BK440.out 1
              have hfz28_2 := blk_frozen BK440.out 2
              have hfz28_3 := blk_frozen BK440.out 3
              have hfz28_4 := blk_frozen BK440.out 4
              go_wp2_with (first | ((with_reducible refine gate_callee (f := 49) rfl ?_); refine goesL_ (some 38) rfl rfl Try.func49 (by kernel_rfl) rfl #[.agg #[.int .i64 t442, .int .i64 t443, .int .i64 t444], .int .i64 0] rfl (by (try simp only [List.map_toArray, List.map_cons, List.map_nil]); first | done | rfl | (simp only [List.length_drop, List.length_take]; rfl)) ?_; (with_reducible refine (ambidexterref24_Tell.calls t442 t443 t444 0 t446 t447 t448 _ A26.out).mono ?_); rintro e w29 ⟨rfl, hb⟩; refine ⟨_, rfl, ?_⟩; have n0_ := Aside0.mk (blk_below (g := gb440) (o := .cells #[.int .i64 t442, .int .i64 t443, .int .i64 t444, .int .i64 a0_3, .bool true] 49 (0, 0)) (by (with_reducible repeat (first | refine blk_drewN ?_ _ | refine blk_drew ?_ | refine blk_alloc ?_ _)); exact BK440.out) hb); have n1_ := Aside0.mk (blk_below (g := gb441) (o := .cells #[.int .i64 0, .int .i64 0, .int .i64 0, .int .i64 0, .bool false] 49 (0, 0)) (by (with_reducible repeat (first | refine blk_drewN ?_ _ | refine blk_drew ?_ | refine blk_alloc ?_ _)); exact BK441.out) hb); have n2_ := Aside0.mk (below_step (by repeat (first | (with_reducible first | exact HB.out | apply below_alloc | apply pw_below_drewN | apply below_drew1 | refine below_set ?_ GE440.out | refine below_set ?_ GE441.out) | exact HB.out)) hb); clear BK440; clear BK441; clear HB; have BK440 := n0_; have BK441 := n1_; have HB := n2_; clear n0_ n1_ n2_; (try clear hb); (try clear hb2); (try clear hk); (try clear hi); have hcz30_0 : w29.cell? ⟨gb440, 0, none⟩ = some (.int .i64 t442) := (blk_cell BK440.out 0).trans rfl; have hcz30_1 : w29.cell? ⟨gb440, 1, none⟩ = some (.int .i64 t443) := (blk_cell BK440.out 1).trans rfl; have hcz30_2 : w29.cell? ⟨gb440, 2, none⟩ = some (.int .i64 t444) := (blk_cell BK440.out 2).trans rfl; have hcz30_3 : w29.cell? ⟨gb440, 3, none⟩ = some (.int .i64 a0_3) := (blk_cell BK440.out 3).trans rfl; have hcz30_4 : w29.cell? ⟨gb440, 4, none⟩ = some (.bool true) := (blk_cell BK440.out 4).trans rfl; have hfz30_0 := blk_frozen BK440.out 0; have hfz30_1 := blk_frozen BK440.out 1; have hfz30_2 := blk_frozen BK440.out 2; have hfz30_3 := blk_frozen BK440.out 3; have hfz30_4 := blk_frozen BK440.out 4; have hcz31_0 : w29.cell? ⟨gb441, 0, none⟩ = some (.int .i64 0) := (blk_cell BK441.out 0).trans rfl; have hcz31_1 : w29.cell? ⟨gb441, 1, none⟩ = some (.int .i64 0) := (blk_cell BK441.out 1).trans rfl; have hcz31_2 : w29.cell? ⟨gb441, 2, none⟩ = some (.int .i64 0) := (blk_cell BK441.out 2).trans rfl; have hcz31_3 : w29.cell? ⟨gb441, 3, none⟩ = some (.int .i64 0) := (blk_cell BK441.out 3).trans rfl; have hcz31_4 : w29.cell? ⟨gb441, 4, none⟩ = some (.bool false) := (blk_cell BK441.out 4).trans rfl; have hfz31_0 := blk_frozen BK441.out 0; have hfz31_1 := blk_frozen BK441.out 1; have hfz31_2 := blk_frozen BK441.out 2; have hfz31_3 := blk_frozen BK441.out 3; have hfz31_4 := blk_frozen BK441.out 4))
              refine bodyPost_ret (results_ct rfl _ _ gb441 49 #[.int .i64 t446, .int .i64 t447, .int .i64 t448, .int .i64 0, .bool true] (0, 0) _ rfl (by (with_reducible repeat (first | refine blk_drewN ?_ _ | refine blk_drew ?_ | refine blk_alloc ?_ _)); refine blk_put (cs := #[.int .i64 t446, .int .i64 t447, .int .i64 t448, .int .i64 0, .bool false]) ?_ 4 _ rfl; (with_reducible repeat (first | refine blk_drewN ?_ _ | refine blk_drew ?_ | refine blk_alloc ?_ _)); refine blk_put (cs := #[.int .i64 t446, .int .i64 t447, .int .i64 t448, .int .i64 0, .bool false]) ?_ 3 _ rfl; (with_reducible repeat (first | refine blk_drewN ?_ _ | refine blk_drew ?_ | refine blk_alloc ?_ _)); refine blk_put (cs := #[.int .i64 t446, .int .i64 t447, .int .i64 0, .int .i64 0, .bool false]) ?_ 2 _ rfl; (with_reducible repeat (first | refine blk_drewN ?_ _ | refine blk_drew ?_ | refine blk_alloc ?_ _)); refine blk_put (cs := #[.int .i64 t446, .int .i64 0, .int .i64 0, .int .i64 0, .bool false]) ?_ 1 _ rfl; (with_reducible repeat (first | refine blk_drewN ?_ _ | refine blk_drew ?_ | refine blk_alloc ?_ _)); refine blk_put (cs := #[.int .i64 0, .int .i64 0, .int .i64 0, .int .i64 0, .bool false]) ?_ 0 _ rfl; (with_reducible repeat (first | refine blk_drewN ?_ _ | refine blk_drew ?_ | refine blk_alloc ?_ _)); refine blk_far ?_ NB441_440.out _; (with_reducible repeat (first | refine blk_drewN ?_ _ | refine blk_drew ?_ | refine blk_alloc ?_ _)); refine blk_far ?_ NB441_440.out _; (with_reducible repeat (first | refine blk_drewN ?_ _ | refine blk_drew ?_ | refine blk_alloc ?_ _)); refine blk_far ?_ NB441_440.out _; (with_reducible repeat (first | refine blk_drewN ?_ _ | refine blk_drew ?_ | refine blk_alloc ?_ _)); refine blk_far ?_ NB441_440.out _; (with_reducible repeat (first | refine blk_drewN ?_ _ | refine blk_drew ?_ | refine blk_alloc ?_ _)); exact BK441.out) Try.underlying49 rfl (by kernel_rfl)) rfl ?_
              exact ⟨by first | rfl | (simp [errW_none, errW_some] <;> rfl) | (simp [*, errW_none, errW_some] <;> rfl), by repeat (first | (with_reducible first | exact HB.out | apply below_alloc | apply pw_below_drewN | apply below_drew1 | refine below_set ?_ GE440.out | refine below_set ?_ GE441.out) | exact HB.out)⟩
            · replace c25 := Bool.eq_false_iff.mpr c25
              subst c25
              have H1 : ((ambidexterref24_Tell.f t442 t443 t444 (-128)).bind fun bt449 => (some (bt449.1, bt449.2.1, bt449.2.2, (-128), false, (-128)))) = some (r1, r2, r3, r4, r5, r6) := by rw [if_neg (show ¬ (false = true) by decide)] at H; exact H
              clear H
              have H := H1
              clear H1
              replace H := Option.bind_eq_some_iff.mp H
              obtain ⟨⟨t449, t450, t451⟩, A320, H⟩ := H
              replace H : (some (t449, t450, t451, (-128), false, (-128))) = some (r1, r2, r3, r4, r5, r6) := H
              have A32 := Aside0.mk A320
              clear A320
              simp only [Option.some.injEq, Prod.mk.injEq] at H
              obtain ⟨rfl, rfl, rfl, rfl, rfl, rfl⟩ := H
              have hnb33 := NB440_441.out
              have hnc33 := NB441_440.out
              have hcz34_0 : wc.cell? ⟨gb440, 0, none⟩ = some (.int .i64 t442) := (blk_cell BK440.out 0).trans rfl
              have hcz34_1 : wc.cell? ⟨gb440, 1, none⟩ = some (.int .i64 t443) := (blk_cell BK440.out 1).trans rfl
              have hcz34_2 : wc.cell? ⟨gb440, 2, none⟩ = some (.int .i64 t444) := (blk_cell BK440.out 2).trans rfl
              have hcz34_3 : wc.cell? ⟨gb440, 3, none⟩ = some (.int .i64 a0_3) := (blk_cell BK440.out 3).trans rfl
              have hcz34_4 : wc.cell? ⟨gb440, 4, none⟩ = some (.bool false) := (blk_cell BK440.out 4).trans rfl
              have hfz34_0 := blk_frozen BK440.out 0
              have hfz34_1 := blk_frozen BK440.out 1
              have hfz34_2 := blk_frozen BK440.out 2
              have hfz34_3 := blk_frozen BK440.out 3
              have hfz34_4 := blk_frozen BK440.out 4
              go_wp2_with (first | ((with_reducible refine gate_callee (f := 49) rfl ?_); refine goesL_ (some 38) rfl rfl Try.func49 (by kernel_rfl) rfl #[.agg #[.int .i64 t442, .int .i64 t443, .int .i64 t444], .int .i64 (-128)] rfl (by (try simp only [List.map_toArray, List.map_cons, List.map_nil]); first | done | rfl | (simp only [List.length_drop, List.length_take]; rfl)) ?_; (with_reducible refine (ambidexterref24_Tell.calls t442 t443 t444 (-128) t449 t450 t451 _ A32.out).mono ?_); rintro e w35 ⟨rfl, hb⟩; refine ⟨_, rfl, ?_⟩; have n0_ := Aside0.mk (blk_below (g := gb440) (o := .cells #[.int .i64 t442, .int .i64 t443, .int .i64 t444, .int .i64 a0_3, .bool false] 49 (0, 0)) (by (with_reducible repeat (first | refine blk_drewN ?_ _ | refine blk_drew ?_ | refine blk_alloc ?_ _)); exact BK440.out) hb); have n1_ := Aside0.mk (blk_below (g := gb441) (o := .cells #[.int .i64 0, .int .i64 0, .int .i64 0, .int .i64 0, .bool false] 49 (0, 0)) (by (with_reducible repeat (first | refine blk_drewN ?_ _ | refine blk_drew ?_ | refine blk_alloc ?_ _)); exact BK441.out) hb); have n2_ := Aside0.mk (below_step (by repeat (first | (with_reducible first | exact HB.out | apply below_alloc | apply pw_below_drewN | apply below_drew1 | refine below_set ?_ GE440.out | refine below_set ?_ GE441.out) | exact HB.out)) hb); clear BK440; clear BK441; clear HB; have BK440 := n0_; have BK441 := n1_; have HB := n2_; clear n0_ n1_ n2_; (try clear hb); (try clear hb2); (try clear hk); (try clear hi); have hcz36_0 : w35.cell? ⟨gb440, 0, none⟩ = some (.int .i64 t442) := (blk_cell BK440.out 0).trans rfl; have hcz36_1 : w35.cell? ⟨gb440, 1, none⟩ = some (.int .i64 t443) := (blk_cell BK440.out 1).trans rfl; have hcz36_2 : w35.cell? ⟨gb440, 2, none⟩ = some (.int .i64 t444) := (blk_cell BK440.out 2).trans rfl; have hcz36_3 : w35.cell? ⟨gb440, 3, none⟩ = some (.int .i64 a0_3) := (blk_cell BK440.out 3).trans rfl; have hcz36_4 : w35.cell? ⟨gb440, 4, none⟩ = some (.bool false) := (blk_cell BK440.out 4).trans rfl; have hfz36_0 := blk_frozen BK440.out 0; have hfz36_1 := blk_frozen BK440.out 1; have hfz36_2 := blk_frozen BK440.out 2; have hfz36_3 := blk_frozen BK440.out 3; have hfz36_4 := blk_frozen BK440.out 4; have hcz37_0 : w35.cell? ⟨gb441, 0, none⟩ = some (.int .i64 0) := (blk_cell BK441.out 0).trans rfl; have hcz37_1 : w35.cell? ⟨gb441, 1, none⟩ = some (.int .i64 0) := (blk_cell BK441.out 1).trans rfl; have hcz37_2 : w35.cell? ⟨gb441, 2, none⟩ = some (.int .i64 0) := (blk_cell BK441.out 2).trans rfl; have hcz37_3 : w35.cell? ⟨gb441, 3, none⟩ = some (.int .i64 0) := (blk_cell BK441.out 3).trans rfl; have hcz37_4 : w35.cell? ⟨gb441, 4, none⟩ = some (.bool false) := (blk_cell BK441.out 4).trans rfl; have hfz37_0 := blk_frozen BK441.out 0; have hfz37_1 := blk_frozen BK441.out 1; have hfz37_2 := blk_frozen BK441.out 2; have hfz37_3 := blk_frozen BK441.out 3; have hfz37_4 := blk_frozen BK441.out 4))
              refine bodyPost_ret (results_ct rfl _ _ gb441 49 #[.int .i64 t449, .int .i64 t450, .int .i64 t451, .int .i64 (-128), .bool false] (0, 0) _ rfl (by (with_reducible repeat (first | refine blk_drewN ?_ _ | refine blk_drew ?_ | refine blk_alloc ?_ _)); refine blk_put (cs := #[.int .i64 t449, .int .i64 t450, .int .i64 t451, .int .i64 (-128), .bool false]) ?_ 4 _ rfl; (with_reducible repeat (first | refine blk_drewN ?_ _ | refine blk_drew ?_ | refine blk_alloc ?_ _)); refine blk_put (cs := #[.int .i64 t449, .int .i64 t450, .int .i64 t451, .int .i64 0, .bool false]) ?_ 3 _ rfl; (with_reducible repeat (first | refine blk_drewN ?_ _ | refine blk_drew ?_ | refine blk_alloc ?_ _)); refine blk_put (cs := #[.int .i64 t449, .int .i64 t450, .int .i64 0, .int .i64 0, .bool false]) ?_ 2 _ rfl; (with_reducible repeat (first | refine blk_drewN ?_ _ | refine blk_drew ?_ | refine blk_alloc ?_ _)); refine blk_put (cs := #[.int .i64 t449, .int .i64 0, .int .i64 0, .int .i64 0, .bool false]) ?_ 1 _ rfl; (with_reducible repeat (first | refine blk_drewN ?_ _ | refine blk_drew ?_ | refine blk_alloc ?_ _)); refine blk_put (cs := #[.int .i64 0, .int .i64 0, .int .i64 0, .int .i64 0, .bool false]) ?_ 0 _ rfl; (with_reducible repeat (first | refine blk_drewN ?_ _ | refine blk_drew ?_ | refine blk_alloc ?_ _)); refine blk_far ?_ NB441_440.out _; (with_reducible repeat (first | refine blk_drewN ?_ _ | refine blk_drew ?_ | refine blk_alloc ?_ _)); refine blk_far ?_ NB441_440.out _; (with_reducible repeat (first | refine blk_drewN ?_ _ | refine blk_drew ?_ | refine blk_alloc ?_ _)); refine blk_far ?_ NB441_440.out _; (with_reducible repeat (first | refine blk_drewN ?_ _ | refine blk_drew ?_ | refine blk_alloc ?_ _)); refine blk_far ?_ NB441_440.out _; (with_reducible repeat (first | refine blk_drewN ?_ _ | refine blk_drew ?_ | refine blk_alloc ?_ _)); exact BK441.out) Try.underlying49 rfl (by kernel_rfl)) rfl ?_
              exact ⟨by first | rfl | (simp [errW_none, errW_some] <;> rfl) | (simp [*, errW_none, errW_some] <;> rfl), by repeat (first | (with_reducible first | exact HB.out | apply below_alloc | apply pw_below_drewN | apply below_drew1 | refine below_set ?_ GE440.out | refine below_set ?_ GE441.out) | exact HB.out)⟩
          · rw [if_neg c24] at H
            have c24b0 : decide (x10_18 < (-128)) = false := decide_eq_false c24
            clear c24
            by_cases c38 : x441004_5 = true
            · subst c38
              have H1 : ((ambidexterref24_Tell.f t442 t443 t444 0).bind fun bt452 => (some (bt452.1, bt452.2.1, bt452.2.2, 0, true, 0))) = some (r1, r2, r3, r4, r5, r6) := by rw [if_pos rfl] at H; exact H
              clear H
              have H := H1
              clear H1
              replace H := Option.bind_eq_some_iff.mp H
              obtain ⟨⟨t452, t453, t454⟩, A390, H⟩ := H
              replace H : (some (t452, t453, t454, 0, true, 0)) = some (r1, r2, r3, r4, r5, r6) := H
              have A39 := Aside0.mk A390
              clear A390
              simp only [Option.some.injEq, Prod.mk.injEq] at H
              obtain ⟨rfl, rfl, rfl, rfl, rfl, rfl⟩ := H
              have hnb40 := NB440_441.out
              have hnc40 := NB441_440.out
              have hcz41_0 : wc.cell? ⟨gb440, 0, none⟩ = some (.int .i64 t442) := (blk_cell BK440.out 0).trans rfl
              have hcz41_1 : wc.cell? ⟨gb440, 1, none⟩ = some (.int .i64 t443) := (blk_cell BK440.out 1).trans rfl
              have hcz41_2 : wc.cell? ⟨gb440, 2, none⟩ = some (.int .i64 t444) := (blk_cell BK440.out 2).trans rfl
              have hcz41_3 : wc.cell? ⟨gb440, 3, none⟩ = some (.int .i64 a0_3) := (blk_cell BK440.out 3).trans rfl
              have hcz41_4 : wc.cell? ⟨gb440, 4, none⟩ = some (.bool true) := (blk_cell BK440.out 4).trans rfl
              have hfz41_0 := blk_frozen BK440.out 0
              have hfz41_1 := blk_frozen BK440.out 1
              have hfz41_2 := blk_frozen BK440.out 2
              have hfz41_3 := blk_frozen BK440.out 3
              have hfz41_4 := blk_frozen BK440.out 4
              go_wp2_with (first | ((with_reducible refine gate_callee (f := 49) rfl ?_); refine goesL_ (some 38) rfl rfl Try.func49 (by kernel_rfl) rfl #[.agg #[.int .i64 t442, .int .i64 t443, .int .i64 t444], .int .i64 0] rfl (by (try simp only [List.map_toArray, List.map_cons, List.map_nil]); first | done | rfl | (simp only [List.length_drop, List.length_take]; rfl)) ?_; (with_reducible refine (ambidexterref24_Tell.calls t442 t443 t444 0 t452 t453 t454 _ A39.out).mono ?_); rintro e w42 ⟨rfl, hb⟩; refine ⟨_, rfl, ?_⟩; have n0_ := Aside0.mk (blk_below (g := gb440) (o := .cells #[.int .i64 t442, .int .i64 t443, .int .i64 t444, .int .i64 a0_3, .bool true] 49 (0, 0)) (by (with_reducible repeat (first | refine blk_drewN ?_ _ | refine blk_drew ?_ | refine blk_alloc ?_ _)); exact BK440.out) hb); have n1_ := Aside0.mk (blk_below (g := gb441) (o := .cells #[.int .i64 0, .int .i64 0, .int .i64 0, .int .i64 0, .bool false] 49 (0, 0)) (by (with_reducible repeat (first | refine blk_drewN ?_ _ | refine blk_drew ?_ | refine blk_alloc ?_ _)); exact BK441.out) hb); have n2_ := Aside0.mk (below_step (by repeat (first | (with_reducible first | exact HB.out | apply below_alloc | apply pw_below_drewN | apply below_drew1 | refine below_set ?_ GE440.out | refine below_set ?_ GE441.out) | exact HB.out)) hb); clear BK440; clear BK441; clear HB; have BK440 := n0_; have BK441 := n1_; have HB := n2_; clear n0_ n1_ n2_; (try clear hb); (try clear hb2); (try clear hk); (try clear hi); have hcz43_0 : w42.cell? ⟨gb440, 0, none⟩ = some (.int .i64 t442) := (blk_cell BK440.out 0).trans rfl; have hcz43_1 : w42.cell? ⟨gb440, 1, none⟩ = some (.int .i64 t443) := (blk_cell BK440.out 1).trans rfl; have hcz43_2 : w42.cell? ⟨gb440, 2, none⟩ = some (.int .i64 t444) := (blk_cell BK440.out 2).trans rfl; have hcz43_3 : w42.cell? ⟨gb440, 3, none⟩ = some (.int .i64 a0_3) := (blk_cell BK440.out 3).trans rfl; have hcz43_4 : w42.cell? ⟨gb440, 4, none⟩ = some (.bool true) := (blk_cell BK440.out 4).trans rfl; have hfz43_0 := blk_frozen BK440.out 0; have hfz43_1 := blk_frozen BK440.out 1; have hfz43_2 := blk_frozen BK440.out 2; have hfz43_3 := blk_frozen BK440.out 3; have hfz43_4 := blk_frozen BK440.out 4; have hcz44_0 : w42.cell? ⟨gb441, 0, none⟩ = some (.int .i64 0) := (blk_cell BK441.out 0).trans rfl; have hcz44_1 : w42.cell? ⟨gb441, 1, none⟩ = some (.int .i64 0) := (blk_cell BK441.out 1).trans rfl; have hcz44_2 : w42.cell? ⟨gb441, 2, none⟩ = some (.int .i64 0) := (blk_cell BK441.out 2).trans rfl; have hcz44_3 : w42.cell? ⟨gb441, 3, none⟩ = some (.int .i64 0) := (blk_cell BK441.out 3).trans rfl; have hcz44_4 : w42.cell? ⟨gb441, 4, none⟩ = some (.bool false) := (blk_cell BK441.out 4).trans rfl; have hfz44_0 := blk_frozen BK441.out 0; have hfz44_1 := blk_frozen BK441.out 1; have hfz44_2 := blk_frozen BK441.out 2; have hfz44_3 := blk_frozen BK441.out 3; have hfz44_4 := blk_frozen BK441.out 4))
              refine bodyPost_ret (results_ct rfl _ _ gb441 49 #[.int .i64 t452, .int .i64 t453, .int .i64 t454, .int .i64 0, .bool true] (0, 0) _ rfl (by (with_reducible repeat (first | refine blk_drewN ?_ _ | refine blk_drew ?_ | refine blk_alloc ?_ _)); refine blk_put (cs := #[.int .i64 t452, .int .i64 t453, .int .i64 t454, .int .i64 0, .bool false]) ?_ 4 _ rfl; (with_reducible repeat (first | refine blk_drewN ?_ _ | refine blk_drew ?_ | refine blk_alloc ?_ _)); refine blk_put (cs := #[.int .i64 t452, .int .i64 t453, .int .i64 t454, .int .i64 0, .bool false]) ?_ 3 _ rfl; (with_reducible repeat (first | refine blk_drewN ?_ _ | refine blk_drew ?_ | refine blk_alloc ?_ _)); refine blk_put (cs := #[.int .i64 t452, .int .i64 t453, .int .i64 0, .int .i64 0, .bool false]) ?_ 2 _ rfl; (with_reducible repeat (first | refine blk_drewN ?_ _ | refine blk_drew ?_ | refine blk_alloc ?_ _)); refine blk_put (cs := #[.int .i64 t452, .int .i64 0, .int .i64 0, .int .i64 0, .bool false]) ?_ 1 _ rfl; (with_reducible repeat (first | refine blk_drewN ?_ _ | refine blk_drew ?_ | refine blk_alloc ?_ _)); refine blk_put (cs := #[.int .i64 0, .int .i64 0, .int .i64 0, .int .i64 0, .bool false]) ?_ 0 _ rfl; (with_reducible repeat (first | refine blk_drewN ?_ _ | refine blk_drew ?_ | refine blk_alloc ?_ _)); refine blk_far ?_ NB441_440.out _; (with_reducible repeat (first | refine blk_drewN ?_ _ | refine blk_drew ?_ | refine blk_alloc ?_ _)); refine blk_far ?_ NB441_440.out _; (with_reducible repeat (first | refine blk_drewN ?_ _ | refine blk_drew ?_ | refine blk_alloc ?_ _)); refine blk_far ?_ NB441_440.out _; (with_reducible repeat (first | refine blk_drewN ?_ _ | refine blk_drew ?_ | refine blk_alloc ?_ _)); refine blk_far ?_ NB441_440.out _; (with_reducible repeat (first | refine blk_drewN ?_ _ | refine blk_drew ?_ | refine blk_alloc ?_ _)); exact BK441.out) Try.underlying49 rfl (by kernel_rfl)) rfl ?_
              exact ⟨by first | rfl | (simp [errW_none, errW_some] <;> rfl) | (simp [*, errW_none, errW_some] <;> rfl), by repeat (first | (with_reducible first | exact HB.out | apply below_alloc | apply pw_below_drewN | apply below_drew1 | refine below_set ?_ GE440.out | refine below_set ?_ GE441.out) | exact HB.out)⟩
            · replace c38 := Bool.eq_false_iff.mpr c38
              subst c38
              have H1 : ((ambidexterref24_Tell.f t442 t443 t444 x10_18).bind fun bt455 => (some (bt455.1, bt455.2.1, bt455.2.2, x10_18, false, x10_18))) = some (r1, r2, r3, r4, r5, r6) := by rw [if_neg (show ¬ (false = true) by decide)] at H; exact H
              clear H
              have H := H1
              clear H1
              replace H := Option.bind_eq_some_iff.mp H
              obtain ⟨⟨t455, t456, t457⟩, A450, H⟩ := H
              replace H : (some (t455, t456, t457, x10_18, false, x10_18)) = some (r1, r2, r3, r4, r5, r6) := H
              have A45 := Aside0.mk A450
              clear A450
              simp only [Option.some.injEq, Prod.mk.injEq] at H
              obtain ⟨rfl, rfl, rfl, rfl, rfl, rfl⟩ := H
              have hnb46 := NB440_441.out
              have hnc46 := NB441_440.out
              have hcz47_0 : wc.cell? ⟨gb440, 0, none⟩ = some (.int .i64 t442) := (blk_cell BK440.out 0).trans rfl
              have hcz47_1 : wc.cell? ⟨gb440, 1, none⟩ = some (.int .i64 t443) := (blk_cell BK440.out 1).trans rfl
              have hcz47_2 : wc.cell? ⟨gb440, 2, none⟩ = some (.int .i64 t444) := (blk_cell BK440.out 2).trans rfl
              have hcz47_3 : wc.cell? ⟨gb440, 3, none⟩ = some (.int .i64 a0_3) := (blk_cell BK440.out 3).trans rfl
              have hcz47_4 : wc.cell? ⟨gb440, 4, none⟩ = some (.bool false) := (blk_cell BK440.out 4).trans rfl
              have hfz47_0 := blk_frozen BK440.out 0
              have hfz47_1 := blk_frozen BK440.out 1
              have hfz47_2 := blk_frozen BK440.out 2
              have hfz47_3 := blk_frozen BK440.out 3
              have hfz47_4 := blk_frozen BK440.out 4
              go_wp2_with (first | ((with_reducible refine gate_callee (f := 49) rfl ?_); refine goesL_ (some 38) rfl rfl Try.func49 (by kernel_rfl) rfl #[.agg #[.int .i64 t442, .int .i64 t443, .int .i64 t444], .int .i64 x10_18] rfl (by (try simp only [List.map_toArray, List.map_cons, List.map_nil]); first | done | rfl | (simp only [List.length_drop, List.length_take]; rfl)) ?_; (with_reducible refine (ambidexterref24_Tell.calls t442 t443 t444 x10_18 t455 t456 t457 _ A45.out).mono ?_); rintro e w48 ⟨rfl, hb⟩; refine ⟨_, rfl, ?_⟩; have n0_ := Aside0.mk (blk_below (g := gb440) (o := .cells #[.int .i64 t442, .int .i64 t443, .int .i64 t444, .int .i64 a0_3, .bool false] 49 (0, 0)) (by (with_reducible repeat (first | refine blk_drewN ?_ _ | refine blk_drew ?_ | refine blk_alloc ?_ _)); exact BK440.out) hb); have n1_ := Aside0.mk (blk_below (g := gb441) (o := .cells #[.int .i64 0, .int .i64 0, .int .i64 0, .int .i64 0, .bool false] 49 (0, 0)) (by (with_reducible repeat (first | refine blk_drewN ?_ _ | refine blk_drew ?_ | refine blk_alloc ?_ _)); exact BK441.out) hb); have n2_ := Aside0.mk (below_step (by repeat (first | (with_reducible first | exact HB.out | apply below_alloc | apply pw_below_drewN | apply below_drew1 | refine below_set ?_ GE440.out | refine below_set ?_ GE441.out) | exact HB.out)) hb); clear BK440; clear BK441; clear HB; have BK440 := n0_; have BK441 := n1_; have HB := n2_; clear n0_ n1_ n2_; (try clear hb); (try clear hb2); (try clear hk); (try clear hi); have hcz49_0 : w48.cell? ⟨gb440, 0, none⟩ = some (.int .i64 t442) := (blk_cell BK440.out 0).trans rfl; have hcz49_1 : w48.cell? ⟨gb440, 1, none⟩ = some (.int .i64 t443) := (blk_cell BK440.out 1).trans rfl; have hcz49_2 : w48.cell? ⟨gb440, 2, none⟩ = some (.int .i64 t444) := (blk_cell BK440.out 2).trans rfl; have hcz49_3 : w48.cell? ⟨gb440, 3, none⟩ = some (.int .i64 a0_3) := (blk_cell BK440.out 3).trans rfl; have hcz49_4 : w48.cell? ⟨gb440, 4, none⟩ = some (.bool false) := (blk_cell BK440.out 4).trans rfl; have hfz49_0 := blk_frozen BK440.out 0; have hfz49_1 := blk_frozen BK440.out 1; have hfz49_2 := blk_frozen BK440.out 2; have hfz49_3 := blk_frozen BK440.out 3; have hfz49_4 := blk_frozen BK440.out 4; have hcz50_0 : w48.cell? ⟨gb441, 0, none⟩ = some (.int .i64 0) := (blk_cell BK441.out 0).trans rfl; have hcz50_1 : w48.cell? ⟨gb441, 1, none⟩ = some (.int .i64 0) := (blk_cell BK441.out 1).trans rfl; have hcz50_2 : w48.cell? ⟨gb441, 2, none⟩ = some (.int .i64 0) := (blk_cell BK441.out 2).trans rfl; have hcz50_3 : w48.cell? ⟨gb441, 3, none⟩ = some (.int .i64 0) := (blk_cell BK441.out 3).trans rfl; have hcz50_4 : w48.cell? ⟨gb441, 4, none⟩ = some (.bool false) := (blk_cell BK441.out 4).trans rfl; have hfz50_0 := blk_frozen BK441.out 0; have hfz50_1 := blk_frozen BK441.out 1; have hfz50_2 := blk_frozen BK441.out 2; have hfz50_3 := blk_frozen BK441.out 3; have hfz50_4 := blk_frozen BK441.out 4))
              refine bodyPost_ret (results_ct rfl _ _ gb441 49 #[.int .i64 t455, .int .i64 t456, .int .i64 t457, .int .i64 x10_18, .bool false] (0, 0) _ rfl (by (with_reducible repeat (first | refine blk_drewN ?_ _ | refine blk_drew ?_ | refine blk_alloc ?_ _)); refine blk_put (cs := #[.int .i64 t455, .int .i64 t456, .int .i64 t457, .int .i64 x10_18, .bool false]) ?_ 4 _ rfl; (with_reducible repeat (first | refine blk_drewN ?_ _ | refine blk_drew ?_ | refine blk_alloc ?_ _)); refine blk_put (cs := #[.int .i64 t455, .int .i64 t456, .int .i64 t457, .int .i64 0, .bool false]) ?_ 3 _ rfl; (with_reducible repeat (first | refine blk_drewN ?_ _ | refine blk_drew ?_ | refine blk_alloc ?_ _)); refine blk_put (cs := #[.int .i64 t455, .int .i64 t456, .int .i64 0, .int .i64 0, .bool false]) ?_ 2 _ rfl; (with_reducible repeat (first | refine blk_drewN ?_ _ | refine blk_drew ?_ | refine blk_alloc ?_ _)); refine blk_put (cs := #[.int .i64 t455, .int .i64 0, .int .i64 0, .int .i64 0, .bool false]) ?_ 1 _ rfl; (with_reducible repeat (first | refine blk_drewN ?_ _ | refine blk_drew ?_ | refine blk_alloc ?_ _)); refine blk_put (cs := #[.int .i64 0, .int .i64 0, .int .i64 0, .int .i64 0, .bool false]) ?_ 0 _ rfl; (with_reducible repeat (first | refine blk_drewN ?_ _ | refine blk_drew ?_ | refine blk_alloc ?_ _)); refine blk_far ?_ NB441_440.out _; (with_reducible repeat (first | refine blk_drewN ?_ _ | refine blk_drew ?_ | refine blk_alloc ?_ _)); refine blk_far ?_ NB441_440.out _; (with_reducible repeat (first | refine blk_drewN ?_ _ | refine blk_drew ?_ | refine blk_alloc ?_ _)); refine blk_far ?_ NB441_440.out _; (with_reducible repeat (first | refine blk_drewN ?_ _ | refine blk_drew ?_ | refine blk_alloc ?_ _)); refine blk_far ?_ NB441_440.out _; (with_reducible repeat (first | refine blk_drewN ?_ _ | refine blk_drew ?_ | refine blk_alloc ?_ _)); exact BK441.out) Try.underlying49 rfl (by kernel_rfl)) rfl ?_
              exact ⟨by first | rfl | (simp [errW_none, errW_some] <;> rfl) | (simp [*, errW_none, errW_some] <;> rfl), by repeat (first | (with_reducible first | exact HB.out | apply below_alloc | apply pw_below_drewN | apply below_drew1 | refine below_set ?_ GE440.out | refine below_set ?_ GE441.out) | exact HB.out)⟩

end Go.Proofs.Ytehibiikdlgneaa.P
