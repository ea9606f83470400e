-- Written by this session's own program, for this seat. Lean checks it.
import Derived.Test.YthnbcedpdjingaaP0
import Derived.Test.YthnbcedpdjingaaP2
namespace Go.Proofs.Ythnbcedpdjingaa.P
open Go.RowKit Go.Proofs.YthnbcedpdjingaaW.PrintWords Go.Proofs.YthnbcedpdjingaaW.PrintLast Go.Proofs.YthnbcedpdjingaaW.PrintMore
attribute [local go_sem] max2_int min2_int max_two min_two max_three min_three max_four min_four   -- for this text's walks alone
set_option linter.unusedVariables false
set_option linter.unusedSimpArgs false

attribute [local go_sem high] eqA44
/-! ### dualchannel_heard_alike: function 39 -/
def dualchannel_heard_alike.f (a0_0 : Bool) (a0_1 : Bool) (a0_2 : Int) (a0_3 : Bool) : Option (Bool) := some (a0_0 == a0_1)
set_option maxHeartbeats 8000000 in
set_option maxRecDepth 100000 in
theorem dualchannel_heard_alike.calls (a0_0 : Bool) (a0_1 : Bool) (a0_2 : Int) (a0_3 : Bool) (r : Bool) (w : World) (h : dualchannel_heard_alike.f a0_0 a0_1 a0_2 a0_3 = some r) :
    Calls Try.prog 39 #[.agg #[.bool a0_0, .bool a0_1, .int .i64 a0_2, .bool a0_3]] w fun e w' => e = .returned (.bool r) ∧ Below w.heap.size w w' := by
  have hu59 := Try.underlying59
  have HB := Aside0.mk (Below.refl w.heap.size w)
  have H : (some (a0_0 == a0_1)) = some r := h
  clear h
  obtain rfl := Option.some.inj H
  go_enter Try.func39, Try.ntmps39
  go_wp2_with (first | ((with_reducible refine gate_dst (N := 1) rfl ?_); refine box_event ?hg (N := 1) ?hd (cs := #[.bool a0_0, .bool a0_1, .int .i64 a0_2, .bool a0_3]) (t := 59) ?hr ?_; (case hd => rfl); (case hg => rfl); (case hr => first | (go_simp; done) | (go_simp; rfl)); intro gb258 hg w2 hbox hb; have n0_ := Aside0.mk (below_step (by repeat (first | (with_reducible first | exact HB.out | apply below_alloc | apply pw_below_drewN | apply below_drew1) | exact HB.out)) hb); have n1_ := Aside0.mk (hbox); have n2_ := Aside0.mk ((by rw [hg]; exact (below_size (by repeat (first | (with_reducible first | exact HB.out | apply below_alloc | apply pw_below_drewN | apply below_drew1) | exact HB.out))) : w.heap.size ≤ gb258)); have n3_ := Aside0.mk ((by rw [hg]; exact (below_size (by repeat (first | (with_reducible first | exact HB.out | apply below_alloc | apply pw_below_drewN | apply below_drew1) | exact HB.out))) : w.heap.size ≤ gb258)); clear HB; have HB := n0_; have BK258 := n1_; have GW258 := n2_; have GE258 := n3_; clear n0_ n1_ n2_ n3_; clear hb hbox hg; have hcz3_0 : w2.cell? ⟨gb258, 0, none⟩ = some (.bool a0_0) := (blk_cell BK258.out 0).trans rfl; have hcz3_1 : w2.cell? ⟨gb258, 1, none⟩ = some (.bool a0_1) := (blk_cell BK258.out 1).trans rfl; have hcz3_2 : w2.cell? ⟨gb258, 2, none⟩ = some (.int .i64 a0_2) := (blk_cell BK258.out 2).trans rfl; have hcz3_3 : w2.cell? ⟨gb258, 3, none⟩ = some (.bool a0_3) := (blk_cell BK258.out 3).trans rfl; have hfz3_0 := blk_frozen BK258.out 0; have hfz3_1 := blk_frozen BK258.out 1; have hfz3_2 := blk_frozen BK258.out 2; have hfz3_3 := blk_frozen BK258.out 3))
  go_ret
  exact ⟨by first | rfl | (simp [errW_none, errW_some] <;> rfl) | (simp [*, errW_none, errW_some] <;> rfl), by repeat (first | (with_reducible first | exact HB.out | apply below_alloc | apply pw_below_drewN | apply below_drew1 | refine below_set ?_ GE258.out) | exact HB.out)⟩

/-! ### dualchannel_Closed: function 30 -/
theorem dualchannel_Closed.run_ (a b : Bool) (n : Int) (c : Bool) (w : World) (r : Bool) (hr : ((a == b) && (a && !c)) = r) : Calls Try.prog 30 #[.agg #[.bool a, .bool b, .int .i64 n, .bool c]] w fun e w' => e = .returned (.bool r) ∧ Below w.heap.size w w' := by
  cases a <;> cases b <;> cases c <;> cases hr
  all_goals
    go_enter Try.func30, Try.ntmps30
    go_wp2
    go_ret
    refine ⟨rfl, ?_⟩
    repeat (first | exact Below.refl _ _ | refine Below.setCell ?_ (by simp) _ | refine Below.alloc ?_ (by simp <;> omega) _ | refine Below.drew ?_)
def dualchannel_Closed.f (a0_0 : Bool) (a0_1 : Bool) (a0_2 : Int) (a0_3 : Bool) : Option (Bool) := some ((a0_0 == a0_1) && (a0_0 && !a0_3))
theorem dualchannel_Closed.calls (a0_0 : Bool) (a0_1 : Bool) (a0_2 : Int) (a0_3 : Bool) (r : Bool) (w : World) (h : dualchannel_Closed.f a0_0 a0_1 a0_2 a0_3 = some r) :
    Calls Try.prog 30 #[.agg #[.bool a0_0, .bool a0_1, .int .i64 a0_2, .bool a0_3]] w fun e w' => e = .returned (.bool r) ∧ Below w.heap.size w w' :=
  dualchannel_Closed.run_ a0_0 a0_1 a0_2 a0_3 w r (Option.some.inj h)

/-! ### dualchannel_Reset: function 34 -/
theorem dualchannel_Reset.one (a b : Bool) (n : Int) (w : World) : Calls Try.prog 34 #[.agg #[.bool a, .bool b, .int .i64 n, .bool true]] w fun e w' => e = .returned (.agg #[.bool a, .bool b, .int .i64 n, .bool (!(a == b))]) ∧ Below w.heap.size w w' := by
  go_enter Try.func34, Try.ntmps34
  go_wp2
  refine bodyPost_ret (v := .agg #[.bool a, .bool b, .int .i64 n, .bool (!(a == b))]) (by simp [results, Try.results34, go_sem]) rfl ⟨rfl, ?_⟩
  repeat (first | exact Below.refl _ _ | refine Below.setCell ?_ (by simp) _ | refine Below.alloc ?_ (by simp <;> omega) _ | refine Below.drew ?_)
theorem dualchannel_Reset.zero (a b : Bool) (n : Int) (w : World) : Calls Try.prog 34 #[.agg #[.bool a, .bool b, .int .i64 n, .bool false]] w fun e w' => e = .returned (.agg #[.bool a, .bool b, .int .i64 n, .bool false]) ∧ Below w.heap.size w w' := by
  go_enter Try.func34, Try.ntmps34
  go_wp2
  refine bodyPost_ret (v := .agg #[.bool a, .bool b, .int .i64 n, .bool false]) (by simp [results, Try.results34, go_sem]) rfl ⟨rfl, ?_⟩
  repeat (first | exact Below.refl _ _ | refine Below.setCell ?_ (by simp) _ | refine Below.alloc ?_ (by simp <;> omega) _ | refine Below.drew ?_)
def dualchannel_Reset.f (a0_0 : Bool) (a0_1 : Bool) (a0_2 : Int) (a0_3 : Bool) : Option (Bool × Bool × Int × Bool) := some (a0_0, a0_1, a0_2, a0_3 && !(a0_0 == a0_1))
theorem dualchannel_Reset.calls (a0_0 : Bool) (a0_1 : Bool) (a0_2 : Int) (a0_3 : Bool) (r1 : Bool) (r2 : Bool) (r3 : Int) (r4 : Bool) (w : World) (h : dualchannel_Reset.f a0_0 a0_1 a0_2 a0_3 = some (r1, r2, r3, r4)) :
    Calls Try.prog 34 #[.agg #[.bool a0_0, .bool a0_1, .int .i64 a0_2, .bool a0_3]] w fun e w' => e = .returned (.agg #[.bool r1, .bool r2, .int .i64 r3, .bool r4]) ∧ Below w.heap.size w w' := by
  unfold dualchannel_Reset.f at h
  simp only [Option.some.injEq, Prod.mk.injEq] at h
  obtain ⟨rfl, rfl, rfl, rfl⟩ := h
  cases a0_3
  · exact dualchannel_Reset.zero _ _ _ w
  · exact dualchannel_Reset.one _ _ _ w

/-! ### dualchannel_Observe: function 35 -/
theorem dualchannel_Observe.same (a b : Bool) (n : Int) (c : Bool) (x y : Bool) (w : World) (h : (x == y) = true) : Calls Try.prog 35 #[.agg #[.bool a, .bool b, .int .i64 n, .bool c], .bool x, .bool y] w fun e w' => e = .returned (.agg #[.bool x, .bool y, .int .i64 0, .bool c]) ∧ Below w.heap.size w w' := by
  go_enter Try.func35, Try.ntmps35
  go_wp2
  refine bodyPost_ret (v := .agg #[.bool x, .bool y, .int .i64 0, .bool c]) (by simp [results, Try.results35, go_sem]) rfl ⟨rfl, ?_⟩
  repeat (first | exact Below.refl _ _ | refine Below.setCell ?_ (by simp) _ | refine Below.alloc ?_ (by simp <;> omega) _ | refine Below.drew ?_)
theorem dualchannel_Observe.late (a b : Bool) (n : Int) (c : Bool) (x y : Bool) (w : World) (h : (x == y) = false) (hn : 3 ≤ n) : Calls Try.prog 35 #[.agg #[.bool a, .bool b, .int .i64 n, .bool c], .bool x, .bool y] w fun e w' => e = .returned (.agg #[.bool x, .bool y, .int .i64 4, .bool true]) ∧ Below w.heap.size w w' := by
  go_enter Try.func35, Try.ntmps35
  go_wp2
  refine bodyPost_ret (v := .agg #[.bool x, .bool y, .int .i64 4, .bool true]) (by simp [results, Try.results35, go_sem]) rfl ⟨rfl, ?_⟩
  repeat (first | exact Below.refl _ _ | refine Below.setCell ?_ (by simp) _ | refine Below.alloc ?_ (by simp <;> omega) _ | refine Below.drew ?_)
theorem dualchannel_Observe.early (a b : Bool) (n : Int) (c : Bool) (x y : Bool) (w : World) (h : (x == y) = false) (hn : n < 3) : Calls Try.prog 35 #[.agg #[.bool a, .bool b, .int .i64 n, .bool c], .bool x, .bool y] w fun e w' => e = .returned (.agg #[.bool x, .bool y, .int .i64 (wrap64 (n + 1)), .bool c]) ∧ Below w.heap.size w w' := by
  go_enter Try.func35, Try.ntmps35
  go_wp2
  refine bodyPost_ret (v := .agg #[.bool x, .bool y, .int .i64 (wrap64 (n + 1)), .bool c]) (by simp [results, Try.results35, go_sem]) rfl ⟨rfl, ?_⟩
  repeat (first | exact Below.refl _ _ | refine Below.setCell ?_ (by simp) _ | refine Below.alloc ?_ (by simp <;> omega) _ | refine Below.drew ?_)
def dualchannel_Observe.f (a0_0 : Bool) (a0_1 : Bool) (a0_2 : Int) (a0_3 : Bool) (a1 : Bool) (a2 : Bool) : Option (Bool × Bool × Int × Bool) := if (a1 == a2) = true then some (a1, a2, 0, a0_3) else if 3 ≤ a0_2 then some (a1, a2, 4, true) else some (a1, a2, wrap64 (a0_2 + 1), a0_3)
theorem dualchannel_Observe.calls (a0_0 : Bool) (a0_1 : Bool) (a0_2 : Int) (a0_3 : Bool) (a1 : Bool) (a2 : Bool) (r1 : Bool) (r2 : Bool) (r3 : Int) (r4 : Bool) (w : World) (h : dualchannel_Observe.f a0_0 a0_1 a0_2 a0_3 a1 a2 = some (r1, r2, r3, r4)) :
    Calls Try.prog 35 #[.agg #[.bool a0_0, .bool a0_1, .int .i64 a0_2, .bool a0_3], .bool a1, .bool a2] w fun e w' => e = .returned (.agg #[.bool r1, .bool r2, .int .i64 r3, .bool r4]) ∧ Below w.heap.size w w' := by
  unfold dualchannel_Observe.f at h
  by_cases c1 : (a1 == a2) = true
  · rw [if_pos c1] at h
    simp only [Option.some.injEq, Prod.mk.injEq] at h
    obtain ⟨rfl, rfl, rfl, rfl⟩ := h
    exact dualchannel_Observe.same _ _ _ _ _ _ w c1
  · rw [if_neg c1] at h
    have c1' : (a1 == a2) = false := by simpa using c1
    by_cases c2 : 3 ≤ a0_2
    · rw [if_pos c2] at h
      simp only [Option.some.injEq, Prod.mk.injEq] at h
      obtain ⟨rfl, rfl, rfl, rfl⟩ := h
      exact dualchannel_Observe.late _ _ _ _ _ _ w c1' c2
    · rw [if_neg c2] at h
      simp only [Option.some.injEq, Prod.mk.injEq] at h
      obtain ⟨rfl, rfl, rfl, rfl⟩ := h
      exact dualchannel_Observe.early _ _ _ _ _ _ w c1' (by omega)

/-! ### ambidexterlaw26_head: function 27 -/
def ambidexterlaw26_head.l0 : Nat → Int → Bool → Bool → Int → Bool → Option (Bool)
  | 0, _, _, _, _, _ => none
  | k + 1, x2, x260000, x260001, x260002, x260003 => if x2 < 3 then ((dualchannel_Observe.f x260000 x260001 x260002 x260003 true false).bind fun bt260 => (ambidexterlaw26_head.l0 k (wrap64 (x2 + 1)) bt260.1 bt260.2.1 bt260.2.2.1 bt260.2.2.2)) else ((dualchannel_Observe.f x260000 x260001 x260002 x260003 true true).bind fun bt264 => ((dualchannel_Observe.f x260000 x260001 x260002 x260003 true false).bind fun bt269 => ((dualchannel_Observe.f bt269.1 bt269.2.1 bt269.2.2.1 bt269.2.2.2 true true).bind fun bt274 => (if (x260000 && (!x260001 && (x260002 == 3 && (!x260003)))) = true then ((dualchannel_Closed.f bt264.1 bt264.2.1 bt264.2.2.1 bt264.2.2.2).bind fun t279 => (if t279 = true then (if bt269.2.2.2 = true then (if bt269.2.2.1 = 4 then (if bt274.2.2.2 = true then (if bt274.2.2.1 = 0 then ((dualchannel_Closed.f bt274.1 bt274.2.1 bt274.2.2.1 bt274.2.2.2).bind fun t280 => (if t280 = true then (some false) else ((dualchannel_Reset.f bt274.1 bt274.2.1 bt274.2.2.1 bt274.2.2.2).bind fun bt281 => ((dualchannel_Closed.f bt281.1 bt281.2.1 bt281.2.2.1 bt281.2.2.2).bind fun t285 => (if t285 = true then ((dualchannel_Reset.f bt269.1 bt269.2.1 bt269.2.2.1 bt269.2.2.2).bind fun bt286 => (some (bt286.1 == bt269.1 && (bt286.2.1 == bt269.2.1 && (bt286.2.2.1 == bt269.2.2.1 && (bt286.2.2.2 == bt269.2.2.2)))))) else (some false)))))) else (some false)) else (some false)) else (some false)) else (some false)) else (some false))) else (some false)))))
def ambidexterlaw26_head.f (k : Nat)  : Option (Bool) := ambidexterlaw26_head.l0 k 0 false false 0 false
theorem ambidexterlaw26_head.mono_l : ∀ k, (∀ y0 y1 y2 y3 y4, LeO (ambidexterlaw26_head.l0 k y0 y1 y2 y3 y4) (ambidexterlaw26_head.l0 (k + 1) y0 y1 y2 y3 y4))
  | 0 => fun _ _ _ _ _ r h => by simp [ambidexterlaw26_head.l0] at h
  | k + 1 => by
    have ih0 := ambidexterlaw26_head.mono_l k
    · intro y0 y1 y2 y3 y4
      unfold ambidexterlaw26_head.l0
      repeat' first
      | (with_reducible exact ih0 _ _ _ _ _)
      | (with_reducible exact LeO.refl _)
      | (with_reducible exact LeO.none _)
      | (with_reducible refine LeO.ite ?_ ?_)
      | (with_reducible refine LeO.bind ?_ (fun _ => ?_))
      | exact ih0 _ _ _ _ _
      | exact LeO.none _
      | refine LeO.ite ?_ ?_
      | refine LeO.bind ?_ (fun _ => ?_)
theorem ambidexterlaw26_head.mono : ∀ k, LeO (ambidexterlaw26_head.f k ) (ambidexterlaw26_head.f (k + 1) ) := by
  intro  k
  have ih0 := ambidexterlaw26_head.mono_l k
  unfold ambidexterlaw26_head.f
  repeat' first
      | (with_reducible exact ih0 _ _ _ _ _)
      | (with_reducible exact LeO.refl _)
      | (with_reducible exact LeO.none _)
      | (with_reducible refine LeO.ite ?_ ?_)
      | (with_reducible refine LeO.bind ?_ (fun _ => ?_))
      | exact ih0 _ _ _ _ _
      | exact LeO.none _
      | refine LeO.ite ?_ ?_
      | refine LeO.bind ?_ (fun _ => ?_)
def ambidexterlaw26_head.T9 : Bool × List (List Nat × List Nat) := (true, [([], []), ([], []), ([0, 1], [0, 1]), ([2], [2]), ([3], [3]), ([4, 3, 3], [3, 4]), ([3, 5], [3, 5]), ([6, 5], [6]), ([7], [7]), ([8, 7], [7, 8]), ([7, 9], [7, 9]), ([10, 7], [10]), ([11], [11]), ([12, 11], [11, 12]), ([13, 11], [11, 13]), ([11, 14], [11, 14]), ([15, 11], [15]), ([16], [16]), ([17, 16], [16, 17]), ([16, 18], [16, 18]), ([19, 16], [19]), ([20], [20]), ([21, 20], [20, 21]), ([22, 20], [20, 22]), ([20, 23], [20, 23]), ([24, 20], [24]), ([25], [25]), ([26, 25, 25], [25, 26]), ([27, 25], [25, 27]), ([25, 28], [25, 28]), ([29, 27], [29]), ([30], [30]), ([31, 30, 30], [30, 31]), ([32, 32, 30], [30, 32]), ([30, 33], [30, 33]), ([34, 33], [34]), ([35], [35]), ([36, 35, 35], [35, 36]), ([35], [35]), ([37, 38, 35], [35, 37, 38]), ([35, 39], [35, 39]), ([40, 37, 0, 1, 2, 3, 4, 5, 6, 7, 8, 9, 10, 11, 12, 13, 14, 15, 16, 17, 18, 19, 20, 21, 22, 23, 24, 25, 26, 27, 28, 29, 30, 31, 32, 33, 34, 35, 36, 37, 38, 39, 40], [40])])
def ambidexterlaw26_head.B9 : List Nat := [0, 0, 3, 7, 15, 31, 63, 127, 255, 511, 1023, 2047, 4095, 8191, 16383, 32767, 65535, 131071, 262143, 524287, 1048575, 2097151, 4194303, 8388607, 16777215, 33554431, 67108863, 134217727, 268435455, 536870911, 1073741823, 2147483647, 4294967295, 8589934591, 17179869183, 34359738367, 68719476735, 137438953471, 68719476735, 549755813887, 1099511627775, 2199023255551]
theorem ambidexterlaw26_head.tab9 : rtab .any (opsOf Try.f27 9) = ambidexterlaw26_head.T9 := by kernel_rfl
theorem ambidexterlaw26_head.bits9 : waitsOk ambidexterlaw26_head.T9.2 ambidexterlaw26_head.B9 = true := by kernel_rfl
set_option maxHeartbeats 8000000 in
set_option maxRecDepth 100000 in
theorem ambidexterlaw26_head.calls0 (k : Nat)  (r : Bool) (w : World) (h : ambidexterlaw26_head.f k  = some r) (hT : r = true) :
    Calls Try.prog 27 #[] w fun e w' => e = .returned (.bool r) ∧ Below w.heap.size w w' := by
  have hu44 := Try.underlying44
  have HB := Aside0.mk (Below.refl w.heap.size w)
  have H : (ambidexterlaw26_head.l0 k 0 false false 0 false) = some r := h
  clear h
  have HT := Aside0.mk hT
  clear hT
  have H' := Aside0.mk H
  clear H
  go_enter Try.func27, Try.ntmps27
  go_wp2_with (first | ((with_reducible refine gate_dst (N := 1) rfl ?_); refine box_event ?hg (N := 1) ?hd (cs := #[.bool false, .bool false, .int .i64 0, .bool false]) (t := 44) ?hr ?_; (case hd => rfl); (case hg => rfl); (case hr => first | (go_simp; done) | (go_simp; rfl)); intro gb259 hg w1 hbox hb; have n0_ := Aside0.mk (below_step (by repeat (first | (with_reducible first | exact HB.out | apply below_alloc | apply pw_below_drewN | apply below_drew1) | exact HB.out)) hb); have n1_ := Aside0.mk (hbox); have n2_ := Aside0.mk ((by rw [hg]; exact (below_size (by repeat (first | (with_reducible first | exact HB.out | apply below_alloc | apply pw_below_drewN | apply below_drew1) | exact HB.out))) : w.heap.size ≤ gb259)); have n3_ := Aside0.mk ((by rw [hg]; exact (below_size (by repeat (first | (with_reducible first | exact HB.out | apply below_alloc | apply pw_below_drewN | apply below_drew1) | exact HB.out))) : w.heap.size ≤ gb259)); clear HB; have HB := n0_; have BK259 := n1_; have GW259 := n2_; have GE259 := n3_; clear n0_ n1_ n2_ n3_; clear hb hbox hg; have hcz2_0 : w1.cell? ⟨gb259, 0, none⟩ = some (.bool false) := (blk_cell BK259.out 0).trans rfl; have hcz2_1 : w1.cell? ⟨gb259, 1, none⟩ = some (.bool false) := (blk_cell BK259.out 1).trans rfl; have hcz2_2 : w1.cell? ⟨gb259, 2, none⟩ = some (.int .i64 0) := (blk_cell BK259.out 2).trans rfl; have hcz2_3 : w1.cell? ⟨gb259, 3, none⟩ = some (.bool false) := (blk_cell BK259.out 3).trans rfl; have hfz2_0 := blk_frozen BK259.out 0; have hfz2_1 := blk_frozen BK259.out 1; have hfz2_2 := blk_frozen BK259.out 2; have hfz2_3 := blk_frozen BK259.out 3))
  go_loopg [2] k (fun kq v2 w' => ∃ (x2_1 : Int) (x260000_1 : Bool) (x260001_1 : Bool) (x260002_1 : Int) (x260003_1 : Bool), v2 = .int .i64 x2_1 ∧ Aside0 (ambidexterlaw26_head.l0 kq x2_1 x260000_1 x260001_1 x260002_1 x260003_1 = some r) ∧ Aside0 (kq ≤ k) ∧ Aside0 (w'.heap[gb259]? = some (.cells #[.bool x260000_1, .bool x260001_1, .int .i64 x260002_1, .bool x260003_1] 44 (0, 0))) ∧ Aside0 (Below w.heap.size w w'))
  case atStart => exact ⟨(0), (false), (false), (0), (false), (by first | rfl | (simp; done) | (simp [*]; done)), H', ⟨Nat.le_refl _⟩, ⟨by (with_reducible repeat (first | refine blk_drewN ?_ _ | refine blk_drew ?_ | refine blk_alloc ?_ _)); refine blk_put (cs := #[.bool false, .bool false, .int .i64 0, .bool false]) ?_ 3 _ rfl; (with_reducible repeat (first | refine blk_drewN ?_ _ | refine blk_drew ?_ | refine blk_alloc ?_ _)); refine blk_put (cs := #[.bool false, .bool false, .int .i64 0, .bool false]) ?_ 2 _ rfl; (with_reducible repeat (first | refine blk_drewN ?_ _ | refine blk_drew ?_ | refine blk_alloc ?_ _)); refine blk_put (cs := #[.bool false, .bool false, .int .i64 0, .bool false]) ?_ 1 _ rfl; (with_reducible repeat (first | refine blk_drewN ?_ _ | refine blk_drew ?_ | refine blk_alloc ?_ _)); refine blk_put (cs := #[.bool false, .bool false, .int .i64 0, .bool false]) ?_ 0 _ rfl; (with_reducible repeat (first | refine blk_drewN ?_ _ | refine blk_drew ?_ | refine blk_alloc ?_ _)); exact BK259.out⟩, ⟨by repeat (first | (with_reducible first | exact HB.out | apply below_alloc | apply pw_below_drewN | apply below_drew1 | refine below_set ?_ GE259.out) | exact HB.out)⟩⟩
  case round =>
    clear H'
    try clear c2
    try clear p2
    try clear hcz2_0
    try clear hcz2_1
    try clear hcz2_2
    try clear hcz2_3
    try clear hfz2_0
    try clear hfz2_1
    try clear hfz2_2
    try clear hfz2_3
    obtain ⟨x2_1, x260000_1, x260001_1, x260002_1, x260003_1, rfl, HA, HK1, BK259, HB⟩ := hrel
    cases gk with
    | zero => exact absurd HA.out (by simp [ambidexterlaw26_head.l0])
    | succ k1 =>
      have H := HA.out
      clear HA
      simp only [ambidexterlaw26_head.l0] at H
      by_cases c3 : x2_1 < 3
      · rw [if_pos c3] at H
        have c3b0 : decide (x2_1 < 3) = true := decide_eq_true c3
        clear c3
        replace H := Option.bind_eq_some_iff.mp H
        obtain ⟨⟨t260, t261, t262, t263⟩, A40, H⟩ := H
        replace H : (ambidexterlaw26_head.l0 k1 (wrap64 (x2_1 + 1)) t260 t261 t262 t263) = some r := H
        have A4 := Aside0.mk A40
        clear A40
        have H' := Aside0.mk H
        clear H
        have hcz5_0 : wr.cell? ⟨gb259, 0, none⟩ = some (.bool x260000_1) := (blk_cell BK259.out 0).trans rfl
        have hcz5_1 : wr.cell? ⟨gb259, 1, none⟩ = some (.bool x260001_1) := (blk_cell BK259.out 1).trans rfl
        have hcz5_2 : wr.cell? ⟨gb259, 2, none⟩ = some (.int .i64 x260002_1) := (blk_cell BK259.out 2).trans rfl
        have hcz5_3 : wr.cell? ⟨gb259, 3, none⟩ = some (.bool x260003_1) := (blk_cell BK259.out 3).trans rfl
        have hfz5_0 := blk_frozen BK259.out 0
        have hfz5_1 := blk_frozen BK259.out 1
        have hfz5_2 := blk_frozen BK259.out 2
        have hfz5_3 := blk_frozen BK259.out 3
        go_wp2_with (first | ((with_reducible refine gate_callee (f := 35) rfl ?_); refine goesL_ (some 12) rfl rfl Try.func35 (by kernel_rfl) rfl #[.agg #[.bool x260000_1, .bool x260001_1, .int .i64 x260002_1, .bool x260003_1], .bool true, .bool false] rfl (by (try simp only [List.map_toArray, List.map_cons, List.map_nil]); first | done | rfl | (simp only [List.length_drop, List.length_take]; rfl)) ?_; (with_reducible refine (dualchannel_Observe.calls x260000_1 x260001_1 x260002_1 x260003_1 true false t260 t261 t262 t263 _ A4.out).mono ?_); rintro e w6 ⟨rfl, hb⟩; refine ⟨_, rfl, ?_⟩; have n0_ := Aside0.mk (blk_below (g := gb259) (o := .cells #[.bool x260000_1, .bool x260001_1, .int .i64 x260002_1, .bool x260003_1] 44 (0, 0)) (by (with_reducible repeat (first | refine blk_drewN ?_ _ | refine blk_drew ?_ | refine blk_alloc ?_ _)); exact BK259.out) hb); have n1_ := Aside0.mk (below_step (by repeat (first | (with_reducible first | exact HB.out | apply below_alloc | apply pw_below_drewN | apply below_drew1 | refine below_set ?_ GE259.out) | exact HB.out)) hb); clear BK259; clear HB; have BK259 := n0_; have HB := n1_; clear n0_ n1_; (try clear hb); (try clear hb2); (try clear hk); (try clear hi); have hcz7_0 : w6.cell? ⟨gb259, 0, none⟩ = some (.bool x260000_1) := (blk_cell BK259.out 0).trans rfl; have hcz7_1 : w6.cell? ⟨gb259, 1, none⟩ = some (.bool x260001_1) := (blk_cell BK259.out 1).trans rfl; have hcz7_2 : w6.cell? ⟨gb259, 2, none⟩ = some (.int .i64 x260002_1) := (blk_cell BK259.out 2).trans rfl; have hcz7_3 : w6.cell? ⟨gb259, 3, none⟩ = some (.bool x260003_1) := (blk_cell BK259.out 3).trans rfl; have hfz7_0 := blk_frozen BK259.out 0; have hfz7_1 := blk_frozen BK259.out 1; have hfz7_2 := blk_frozen BK259.out 2; have hfz7_3 := blk_frozen BK259.out 3))
        go_roundg k1
        case measure => have := HK1.out; omega
        case rel => exact ⟨(wrap64 (x2_1 + 1)), (t260), (t261), (t262), (t263), (by first | rfl | (simp; done) | (simp [*]; done)), H', ⟨by have := HK1.out; omega⟩, ⟨by (with_reducible repeat (first | refine blk_drewN ?_ _ | refine blk_drew ?_ | refine blk_alloc ?_ _)); refine blk_put (cs := #[.bool t260, .bool t261, .int .i64 t262, .bool x260003_1]) ?_ 3 _ rfl; (with_reducible repeat (first | refine blk_drewN ?_ _ | refine blk_drew ?_ | refine blk_alloc ?_ _)); refine blk_put (cs := #[.bool t260, .bool t261, .int .i64 x260002_1, .bool x260003_1]) ?_ 2 _ rfl; (with_reducible repeat (first | refine blk_drewN ?_ _ | refine blk_drew ?_ | refine blk_alloc ?_ _)); refine blk_put (cs := #[.bool t260, .bool x260001_1, .int .i64 x260002_1, .bool x260003_1]) ?_ 1 _ rfl; (with_reducible repeat (first | refine blk_drewN ?_ _ | refine blk_drew ?_ | refine blk_alloc ?_ _)); refine blk_put (cs := #[.bool x260000_1, .bool x260001_1, .int .i64 x260002_1, .bool x260003_1]) ?_ 0 _ rfl; (with_reducible repeat (first | refine blk_drewN ?_ _ | refine blk_drew ?_ | refine blk_alloc ?_ _)); exact BK259.out⟩, ⟨by repeat (first | (with_reducible first | exact HB.out | apply below_alloc | apply pw_below_drewN | apply below_drew1 | refine below_set ?_ GE259.out) | exact HB.out)⟩⟩
      · rw [if_neg c3] at H
        have c3b0 : decide (x2_1 < 3) = false := decide_eq_false c3
        clear c3
        replace H := Option.bind_eq_some_iff.mp H
        obtain ⟨⟨t264, t265, t266, t267⟩, A80, H⟩ := H
        replace H : ((dualchannel_Observe.f x260000_1 x260001_1 x260002_1 x260003_1 true false).bind fun bt269 => ((dualchannel_Observe.f bt269.1 bt269.2.1 bt269.2.2.1 bt269.2.2.2 true true).bind fun bt274 => (if (x260000_1 && (!x260001_1 && (x260002_1 == 3 && (!x260003_1)))) = true then ((dualchannel_Closed.f t264 t265 t266 t267).bind fun t279 => (if t279 = true then (if bt269.2.2.2 = true then (if bt269.2.2.1 = 4 then (if bt274.2.2.2 = true then (if bt274.2.2.1 = 0 then ((dualchannel_Closed.f bt274.1 bt274.2.1 bt274.2.2.1 bt274.2.2.2).bind fun t280 => (if t280 = true then (some false) else ((dualchannel_Reset.f bt274.1 bt274.2.1 bt274.2.2.1 bt274.2.2.2).bind fun bt281 => ((dualchannel_Closed.f bt281.1 bt281.2.1 bt281.2.2.1 bt281.2.2.2).bind fun t285 => (if t285 = true then ((dualchannel_Reset.f bt269.1 bt269.2.1 bt269.2.2.1 bt269.2.2.2).bind fun bt286 => (some (bt286.1 == bt269.1 && (bt286.2.1 == bt269.2.1 && (bt286.2.2.1 == bt269.2.2.1 && (bt286.2.2.2 == bt269.2.2.2)))))) else (some false)))))) else (some false)) else (some false)) else (some false)) else (some false)) else (some false))) else (some false)))) = some r := H
        have A8 := Aside0.mk A80
        clear A80
        replace H := Option.bind_eq_some_iff.mp H
        obtain ⟨⟨t269, t270, t271, t272⟩, A90, H⟩ := H
        replace H : ((dualchannel_Observe.f t269 t270 t271 t272 true true).bind fun bt274 => (if (x260000_1 && (!x260001_1 && (x260002_1 == 3 && (!x260003_1)))) = true then ((dualchannel_Closed.f t264 t265 t266 t267).bind fun t279 => (if t279 = true then (if t272 = true then (if t271 = 4 then (if bt274.2.2.2 = true then (if bt274.2.2.1 = 0 then ((dualchannel_Closed.f bt274.1 bt274.2.1 bt274.2.2.1 bt274.2.2.2).bind fun t280 => (if t280 = true then (some false) else ((dualchannel_Reset.f bt274.1 bt274.2.1 bt274.2.2.1 bt274.2.2.2).bind fun bt281 => ((dualchannel_Closed.f bt281.1 bt281.2.1 bt281.2.2.1 bt281.2.2.2).bind fun t285 => (if t285 = true then ((dualchannel_Reset.f t269 t270 t271 t272).bind fun bt286 => (some (bt286.1 == t269 && (bt286.2.1 == t270 && (bt286.2.2.1 == t271 && (bt286.2.2.2 == t272)))))) else (some false)))))) else (some false)) else (some false)) else (some false)) else (some false)) else (some false))) else (some false))) = some r := H
        have A9 := Aside0.mk A90
        clear A90
        replace H := Option.bind_eq_some_iff.mp H
        obtain ⟨⟨t274, t275, t276, t277⟩, A100, H⟩ := H
        replace H : (if (x260000_1 && (!x260001_1 && (x260002_1 == 3 && (!x260003_1)))) = true then ((dualchannel_Closed.f t264 t265 t266 t267).bind fun t279 => (if t279 = true then (if t272 = true then (if t271 = 4 then (if t277 = true then (if t276 = 0 then ((dualchannel_Closed.f t274 t275 t276 t277).bind fun t280 => (if t280 = true then (some false) else ((dualchannel_Reset.f t274 t275 t276 t277).bind fun bt281 => ((dualchannel_Closed.f bt281.1 bt281.2.1 bt281.2.2.1 bt281.2.2.2).bind fun t285 => (if t285 = true then ((dualchannel_Reset.f t269 t270 t271 t272).bind fun bt286 => (some (bt286.1 == t269 && (bt286.2.1 == t270 && (bt286.2.2.1 == t271 && (bt286.2.2.2 == t272)))))) else (some false)))))) else (some false)) else (some false)) else (some false)) else (some false)) else (some false))) else (some false)) = some r := H
        have A10 := Aside0.mk A100
        clear A100
        by_cases c11 : (x260000_1 && (!x260001_1 && (x260002_1 == 3 && (!x260003_1)))) = true
        · rw [if_pos c11] at H
          have c11b0 : (x260000_1 && (!x260001_1 && (x260002_1 == 3 && (!x260003_1)))) = true := c11
          clear c11
          replace H := Option.bind_eq_some_iff.mp H
          obtain ⟨t279, A120, H⟩ := H
          replace H : (if t279 = true then (if t272 = true then (if t271 = 4 then (if t277 = true then (if t276 = 0 then ((dualchannel_Closed.f t274 t275 t276 t277).bind fun t280 => (if t280 = true then (some false) else ((dualchannel_Reset.f t274 t275 t276 t277).bind fun bt281 => ((dualchannel_Closed.f bt281.1 bt281.2.1 bt281.2.2.1 bt281.2.2.2).bind fun t285 => (if t285 = true then ((dualchannel_Reset.f t269 t270 t271 t272).bind fun bt286 => (some (bt286.1 == t269 && (bt286.2.1 == t270 && (bt286.2.2.1 == t271 && (bt286.2.2.2 == t272)))))) else (some false)))))) else (some false)) else (some false)) else (some false)) else (some false)) else (some false)) = some r := H
          have A12 := Aside0.mk A120
          clear A120
          by_cases c13 : t279 = true
          · subst c13
            have H1 : (if t272 = true then (if t271 = 4 then (if t277 = true then (if t276 = 0 then ((dualchannel_Closed.f t274 t275 t276 t277).bind fun t280 => (if t280 = true then (some false) else ((dualchannel_Reset.f t274 t275 t276 t277).bind fun bt281 => ((dualchannel_Closed.f bt281.1 bt281.2.1 bt281.2.2.1 bt281.2.2.2).bind fun t285 => (if t285 = true then ((dualchannel_Reset.f t269 t270 t271 t272).bind fun bt286 => (some (bt286.1 == t269 && (bt286.2.1 == t270 && (bt286.2.2.1 == t271 && (bt286.2.2.2 == t272)))))) else (some false)))))) else (some false)) else (some false)) else (some false)) else (some false)) = some r := by rw [if_pos rfl] at H; exact H
            clear H
            have H := H1
            clear H1
            by_cases c14 : t272 = true
            · subst c14
              have H1 : (if t271 = 4 then (if t277 = true then (if t276 = 0 then ((dualchannel_Closed.f t274 t275 t276 t277).bind fun t280 => (if t280 = true then (some false) else ((dualchannel_Reset.f t274 t275 t276 t277).bind fun bt281 => ((dualchannel_Closed.f bt281.1 bt281.2.1 bt281.2.2.1 bt281.2.2.2).bind fun t285 => (if t285 = true then ((dualchannel_Reset.f t269 t270 t271 true).bind fun bt286 => (some (bt286.1 == t269 && (bt286.2.1 == t270 && (bt286.2.2.1 == t271 && (bt286.2.2.2 == true)))))) else (some false)))))) else (some false)) else (some false)) else (some false)) = some r := by rw [if_pos rfl] at H; exact H
              clear H
              have H := H1
              clear H1
              by_cases c15 : t271 = 4
              · rw [if_pos c15] at H
                have c15b0 : (t271 == 4) = true := beq_iff_eq.mpr c15
                have c15b1 : (t271 != 4) = false := bne_eq_false_iff_eq.mpr c15
                clear c15
                by_cases c16 : t277 = true
                · subst c16
                  have H1 : (if t276 = 0 then ((dualchannel_Closed.f t274 t275 t276 true).bind fun t280 => (if t280 = true then (some false) else ((dualchannel_Reset.f t274 t275 t276 true).bind fun bt281 => ((dualchannel_Closed.f bt281.1 bt281.2.1 bt281.2.2.1 bt281.2.2.2).bind fun t285 => (if t285 = true then ((dualchannel_Reset.f t269 t270 t271 true).bind fun bt286 => (some (bt286.1 == t269 && (bt286.2.1 == t270 && (bt286.2.2.1 == t271 && (bt286.2.2.2 == true)))))) else (some false)))))) else (some false)) = some r := by rw [if_pos rfl] at H; exact H
                  clear H
                  have H := H1
                  clear H1
                  by_cases c17 : t276 = 0
                  · rw [if_pos c17] at H
                    have c17b0 : (t276 == 0) = true := beq_iff_eq.mpr c17
                    have c17b1 : (t276 != 0) = false := bne_eq_false_iff_eq.mpr c17
                    clear c17
                    replace H := Option.bind_eq_some_iff.mp H
                    obtain ⟨t280, A180, H⟩ := H
                    replace H : (if t280 = true then (some false) else ((dualchannel_Reset.f t274 t275 t276 true).bind fun bt281 => ((dualchannel_Closed.f bt281.1 bt281.2.1 bt281.2.2.1 bt281.2.2.2).bind fun t285 => (if t285 = true then ((dualchannel_Reset.f t269 t270 t271 true).bind fun bt286 => (some (bt286.1 == t269 && (bt286.2.1 == t270 && (bt286.2.2.1 == t271 && (bt286.2.2.2 == true)))))) else (some false))))) = some r := H
                    have A18 := Aside0.mk A180
                    clear A180
                    by_cases c19 : t280 = true
                    · subst c19
                      have H1 : (some false) = some r := by rw [if_pos rfl] at H; exact H
                      clear H
                      have H := H1
                      clear H1
                      exact absurd HT.out (by rw [← Option.some.inj H]; decide)
                    · replace c19 := Bool.eq_false_iff.mpr c19
                      subst c19
                      have H1 : ((dualchannel_Reset.f t274 t275 t276 true).bind fun bt281 => ((dualchannel_Closed.f bt281.1 bt281.2.1 bt281.2.2.1 bt281.2.2.2).bind fun t285 => (if t285 = true then ((dualchannel_Reset.f t269 t270 t271 true).bind fun bt286 => (some (bt286.1 == t269 && (bt286.2.1 == t270 && (bt286.2.2.1 == t271 && (bt286.2.2.2 == true)))))) else (some false)))) = some r := by rw [if_neg (show ¬ (false = true) by decide)] at H; exact H
                      clear H
                      have H := H1
                      clear H1
                      replace H := Option.bind_eq_some_iff.mp H
                      obtain ⟨⟨t281, t282, t283, t284⟩, A200, H⟩ := H
                      replace H : ((dualchannel_Closed.f t281 t282 t283 t284).bind fun t285 => (if t285 = true then ((dualchannel_Reset.f t269 t270 t271 true).bind fun bt286 => (some (bt286.1 == t269 && (bt286.2.1 == t270 && (bt286.2.2.1 == t271 && (bt286.2.2.2 == true)))))) else (some false))) = some r := H
                      have A20 := Aside0.mk A200
                      clear A200
                      replace H := Option.bind_eq_some_iff.mp H
                      obtain ⟨t285, A210, H⟩ := H
                      replace H : (if t285 = true then ((dualchannel_Reset.f t269 t270 t271 true).bind fun bt286 => (some (bt286.1 == t269 && (bt286.2.1 == t270 && (bt286.2.2.1 == t271 && (bt286.2.2.2 == true)))))) else (some false)) = some r := H
                      have A21 := Aside0.mk A210
                      clear A210
                      by_cases c22 : t285 = true
                      · subst c22
                        have H1 : ((dualchannel_Reset.f t269 t270 t271 true).bind fun bt286 => (some (bt286.1 == t269 && (bt286.2.1 == t270 && (bt286.2.2.1 == t271 && (bt286.2.2.2 == true)))))) = some r := by rw [if_pos rfl] at H; exact H
                        clear H
                        have H := H1
                        clear H1
                        replace H := Option.bind_eq_some_iff.mp H
                        obtain ⟨⟨t286, t287, t288, t289⟩, A230, H⟩ := H
                        replace H : (some (t286 == t269 && (t287 == t270 && (t288 == t271 && (t289 == true))))) = some r := H
                        have A23 := Aside0.mk A230
                        clear A230
                        obtain rfl := Option.some.inj H
                        have hcz24_0 : wr.cell? ⟨gb259, 0, none⟩ = some (.bool x260000_1) := (blk_cell BK259.out 0).trans rfl
                        have hcz24_1 : wr.cell? ⟨gb259, 1, none⟩ = some (.bool x260001_1) := (blk_cell BK259.out 1).trans rfl
                        have hcz24_2 : wr.cell? ⟨gb259, 2, none⟩ = some (.int .i64 x260002_1) := (blk_cell BK259.out 2).trans rfl
                        have hcz24_3 : wr.cell? ⟨gb259, 3, none⟩ = some (.bool x260003_1) := (blk_cell BK259.out 3).trans rfl
                        have hfz24_0 := blk_frozen BK259.out 0
                        have hfz24_1 := blk_frozen BK259.out 1
                        have hfz24_2 := blk_frozen BK259.out 2
                        have hfz24_3 := blk_frozen BK259.out 3
                        try go_wp2_with (first | ((with_reducible refine gate_callee (f := 35) rfl ?_); refine goesL_ (some 14) rfl rfl Try.func35 (by kernel_rfl) rfl #[.agg #[.bool x260000_1, .bool x260001_1, .int .i64 x260002_1, .bool x260003_1], .bool true, .bool true] rfl (by (try simp only [List.map_toArray, List.map_cons, List.map_nil]); first | done | rfl | (simp only [List.length_drop, List.length_take]; rfl)) ?_; (with_reducible refine (dualchannel_Observe.calls x260000_1 x260001_1 x260002_1 x260003_1 true true t264 t265 t266 t267 _ A8.out).mono ?_); rintro e w25 ⟨rfl, hb⟩; refine ⟨_, rfl, ?_⟩; have n0_ := Aside0.mk (blk_below (g := gb259) (o := .cells #[.bool x260000_1, .bool x260001_1, .int .i64 x260002_1, .bool x260003_1] 44 (0, 0)) (by (with_reducible repeat (first | refine blk_drewN ?_ _ | refine blk_drew ?_ | refine blk_alloc ?_ _)); exact BK259.out) hb); have n1_ := Aside0.mk (below_step (by repeat (first | (with_reducible first | exact HB.out | apply below_alloc | apply pw_below_drewN | apply below_drew1 | refine below_set ?_ GE259.out) | exact HB.out)) hb); clear BK259; clear HB; have BK259 := n0_; have HB := n1_; clear n0_ n1_; (try clear hb); (try clear hb2); (try clear hk); (try clear hi)) | ((with_reducible refine gate_dst (N := 3) rfl ?_); refine box_event ?hg (N := 3) ?hd (cs := #[.bool false, .bool false, .int .i64 0, .bool false]) (t := 44) ?hr ?_; (case hd => rfl); (case hg => rfl); (case hr => first | (go_simp; done) | (go_simp; rfl)); intro gb268 hg w26 hbox hb; have n0_ := Aside0.mk (blk_below (g := gb259) (o := .cells #[.bool x260000_1, .bool x260001_1, .int .i64 x260002_1, .bool x260003_1] 44 (0, 0)) (by (with_reducible repeat (first | refine blk_drewN ?_ _ | refine blk_drew ?_ | refine blk_alloc ?_ _)); exact BK259.out) hb); have n1_ := Aside0.mk (below_step (by repeat (first | (with_reducible first | exact HB.out | apply below_alloc | apply pw_below_drewN | apply below_drew1 | refine below_set ?_ GE259.out) | exact HB.out)) hb); have n2_ := Aside0.mk (hbox); have n3_ := Aside0.mk ((by rw [hg]; exact (below_size (by repeat (first | (with_reducible first | exact HB.out | apply below_alloc | apply pw_below_drewN | apply below_drew1 | refine below_set ?_ GE259.out) | exact HB.out))) : w.heap.size ≤ gb268)); have n4_ := Aside0.mk ((by rw [hg]; exact (below_size (by repeat (first | (with_reducible first | exact HB.out | apply below_alloc | apply pw_below_drewN | apply below_drew1 | refine below_set ?_ GE259.out) | exact HB.out))) : w.heap.size ≤ gb268)); have n5_ := Aside0.mk ((by rw [hg]; exact Nat.ne_of_lt (blk_lt (g := gb259) (o := .cells #[.bool x260000_1, .bool x260001_1, .int .i64 x260002_1, .bool x260003_1] 44 (0, 0)) (by (with_reducible repeat (first | refine blk_drewN ?_ _ | refine blk_drew ?_ | refine blk_alloc ?_ _)); exact BK259.out)) : gb259 ≠ gb268)); have n6_ := Aside0.mk ((by rw [hg]; exact Nat.ne_of_gt (blk_lt (g := gb259) (o := .cells #[.bool x260000_1, .bool x260001_1, .int .i64 x260002_1, .bool x260003_1] 44 (0, 0)) (by (with_reducible repeat (first | refine blk_drewN ?_ _ | refine blk_drew ?_ | refine blk_alloc ?_ _)); exact BK259.out)) : gb268 ≠ gb259)); clear BK259; clear HB; have BK259 := n0_; have HB := n1_; have BK268 := n2_; have GW268 := n3_; have GE268 := n4_; have NB259_268 := n5_; have NB268_259 := n6_; clear n0_ n1_ n2_ n3_ n4_ n5_ n6_; clear hb hbox hg; have hnb27 := NB268_259.out; have hnc27 := NB259_268.out; have hcz28_0 : w26.cell? ⟨gb268, 0, none⟩ = some (.bool false) := (blk_cell BK268.out 0).trans rfl; have hcz28_1 : w26.cell? ⟨gb268, 1, none⟩ = some (.bool false) := (blk_cell BK268.out 1).trans rfl; have hcz28_2 : w26.cell? ⟨gb268, 2, none⟩ = some (.int .i64 0) := (blk_cell BK268.out 2).trans rfl; have hcz28_3 : w26.cell? ⟨gb268, 3, none⟩ = some (.bool false) := (blk_cell BK268.out 3).trans rfl; have hfz28_0 := blk_frozen BK268.out 0; have hfz28_1 := blk_frozen BK268.out 1; have hfz28_2 := blk_frozen BK268.out 2; have hfz28_3 := blk_frozen BK268.out 3; have hcz29_0 : w26.cell? ⟨gb259, 0, none⟩ = some (.bool x260000_1) := (blk_cell BK259.out 0).trans rfl; have hcz29_1 : w26.cell? ⟨gb259, 1, none⟩ = some (.bool x260001_1) := (blk_cell BK259.out 1).trans rfl; have hcz29_2 : w26.cell? ⟨gb259, 2, none⟩ = some (.int .i64 x260002_1) := (blk_cell BK259.out 2).trans rfl; have hcz29_3 : w26.cell? ⟨gb259, 3, none⟩ = some (.bool x260003_1) := (blk_cell BK259.out 3).trans rfl; have hfz29_0 := blk_frozen BK259.out 0; have hfz29_1 := blk_frozen BK259.out 1; have hfz29_2 := blk_frozen BK259.out 2; have hfz29_3 := blk_frozen BK259.out 3) | ((with_reducible refine gate_callee (f := 35) rfl ?_); refine goesL_ (some 16) rfl rfl Try.func35 (by kernel_rfl) rfl #[.agg #[.bool x260000_1, .bool x260001_1, .int .i64 x260002_1, .bool x260003_1], .bool true, .bool false] rfl (by (try simp only [List.map_toArray, List.map_cons, List.map_nil]); first | done | rfl | (simp only [List.length_drop, List.length_take]; rfl)) ?_; (with_reducible refine (dualchannel_Observe.calls x260000_1 x260001_1 x260002_1 x260003_1 true false t269 t270 t271 true _ A9.out).mono ?_); rintro e w30 ⟨rfl, hb⟩; refine ⟨_, rfl, ?_⟩; have n0_ := Aside0.mk (blk_below (g := gb259) (o := .cells #[.bool x260000_1, .bool x260001_1, .int .i64 x260002_1, .bool x260003_1] 44 (0, 0)) (by (with_reducible repeat (first | refine blk_drewN ?_ _ | refine blk_drew ?_ | refine blk_alloc ?_ _)); refine blk_far ?_ NB259_268.out _; (with_reducible repeat (first | refine blk_drewN ?_ _ | refine blk_drew ?_ | refine blk_alloc ?_ _)); refine blk_far ?_ NB259_268.out _; (with_reducible repeat (first | refine blk_drewN ?_ _ | refine blk_drew ?_ | refine blk_alloc ?_ _)); refine blk_far ?_ NB259_268.out _; (with_reducible repeat (first | refine blk_drewN ?_ _ | refine blk_drew ?_ | refine blk_alloc ?_ _)); refine blk_far ?_ NB259_268.out _; (with_reducible repeat (first | refine blk_drewN ?_ _ | refine blk_drew ?_ | refine blk_alloc ?_ _)); exact BK259.out) hb); have n1_ := Aside0.mk (blk_below (g := gb268) (o := .cells #[.bool t264, .bool t265, .int .i64 t266, .bool t267] 44 (0, 0)) (by (with_reducible repeat (first | refine blk_drewN ?_ _ | refine blk_drew ?_ | refine blk_alloc ?_ _)); refine blk_put (cs := #[.bool t264, .bool t265, .int .i64 t266, .bool false]) ?_ 3 _ rfl; (with_reducible repeat (first | refine blk_drewN ?_ _ | refine blk_drew ?_ | refine blk_alloc ?_ _)); refine blk_put (cs := #[.bool t264, .bool t265, .int .i64 0, .bool false]) ?_ 2 _ rfl; (with_reducible repeat (first | refine blk_drewN ?_ _ | refine blk_drew ?_ | refine blk_alloc ?_ _)); refine blk_put (cs := #[.bool t264, .bool false, .int .i64 0, .bool false]) ?_ 1 _ rfl; (with_reducible repeat (first | refine blk_drewN ?_ _ | refine blk_drew ?_ | refine blk_alloc ?_ _)); refine blk_put (cs := #[.bool false, .bool false, .int .i64 0, .bool false]) ?_ 0 _ rfl; (with_reducible repeat (first | refine blk_drewN ?_ _ | refine blk_drew ?_ | refine blk_alloc ?_ _)); exact BK268.out) hb); have n2_ := Aside0.mk (below_step (by repeat (first | (with_reducible first | exact HB.out | apply below_alloc | apply pw_below_drewN | apply below_drew1 | refine below_set ?_ GE259.out | refine below_set ?_ GE268.out) | exact HB.out)) hb); clear BK259; clear BK268; clear HB; have BK259 := n0_; have BK268 := n1_; have HB := n2_; clear n0_ n1_ n2_; (try clear hb); (try clear hb2); (try clear hk); (try clear hi)) | ((with_reducible refine gate_dst (N := 4) rfl ?_); refine box_event ?hg (N := 4) ?hd (cs := #[.bool false, .bool false, .int .i64 0, .bool false]) (t := 44) ?hr ?_; (case hd => rfl); (case hg => rfl); (case hr => first | (go_simp; done) | (go_simp; rfl)); intro gb273 hg w31 hbox hb; have n0_ := Aside0.mk (blk_below (g := gb259) (o := .cells #[.bool x260000_1, .bool x260001_1, .int .i64 x260002_1, .bool x260003_1] 44 (0, 0)) (by (with_reducible repeat (first | refine blk_drewN ?_ _ | refine blk_drew ?_ | refine blk_alloc ?_ _)); exact BK259.out) hb); have n1_ := Aside0.mk (blk_below (g := gb268) (o := .cells #[.bool t264, .bool t265, .int .i64 t266, .bool t267] 44 (0, 0)) (by (with_reducible repeat (first | refine blk_drewN ?_ _ | refine blk_drew ?_ | refine blk_alloc ?_ _)); exact BK268.out) hb); have n2_ := Aside0.mk (below_step (by repeat (first | (with_reducible first | exact HB.out | apply below_alloc | apply pw_below_drewN | apply below_drew1 | refine below_set ?_ GE259.out | refine below_set ?_ GE268.out) | exact HB.out)) hb); have n3_ := Aside0.mk (hbox); have n4_ := Aside0.mk ((by rw [hg]; exact (below_size (by repeat (first | (with_reducible first | exact HB.out | apply below_alloc | apply pw_below_drewN | apply below_drew1 | refine below_set ?_ GE259.out | refine below_set ?_ GE268.out) | exact HB.out))) : w.heap.size ≤ gb273)); have n5_ := Aside0.mk ((by rw [hg]; exact (below_size (by repeat (first | (with_reducible first | exact HB.out | apply below_alloc | apply pw_below_drewN | apply below_drew1 | refine below_set ?_ GE259.out | refine below_set ?_ GE268.out) | exact HB.out))) : w.heap.size ≤ gb273)); have n6_ := Aside0.mk ((by rw [hg]; exact Nat.ne_of_lt (blk_lt (g := gb259) (o := .cells #[.bool x260000_1, .bool x260001_1, .int .i64 x260002_1, .bool x260003_1] 44 (0, 0)) (by (with_reducible repeat (first | refine blk_drewN ?_ _ | refine blk_drew ?_ | refine blk_alloc ?_ _)); exact BK259.out)) : gb259 ≠ gb273)); have n7_ := Aside0.mk ((by rw [hg]; exact Nat.ne_of_gt (blk_lt (g := gb259) (o := .cells #[.bool x260000_1, .bool x260001_1, .int .i64 x260002_1, .bool x260003_1] 44 (0, 0)) (by (with_reducible repeat (first | refine blk_drewN ?_ _ | refine blk_drew ?_ | refine blk_alloc ?_ _)); exact BK259.out)) : gb273 ≠ gb259)); have n8_ := Aside0.mk ((by rw [hg]; exact Nat.ne_of_lt (blk_lt (g := gb268) (o := .cells #[.bool t264, .bool t265, .int .i64 t266, .bool t267] 44 (0, 0)) (by (with_reducible repeat (first | refine blk_drewN ?_ _ | refine blk_drew ?_ | refine blk_alloc ?_ _)); exact BK268.out)) : gb268 ≠ gb273)); have n9_ := Aside0.mk ((by rw [hg]; exact Nat.ne_of_gt (blk_lt (g := gb268) (o := .cells #[.bool t264, .bool t265, .int .i64 t266, .bool t267] 44 (0, 0)) (by (with_reducible repeat (first | refine blk_drewN ?_ _ | refine blk_drew ?_ | refine blk_alloc ?_ _)); exact BK268.out)) : gb273 ≠ gb268)); clear BK259; clear BK268; clear HB; have BK259 := n0_; have BK268 := n1_; have HB := n2_; have BK273 := n3_; have GW273 := n4_; have GE273 := n5_; have NB259_273 := n6_; have NB273_259 := n7_; have NB268_273 := n8_; have NB273_268 := n9_; clear n0_ n1_ n2_ n3_ n4_ n5_ n6_ n7_ n8_ n9_; clear hb hbox hg; have hnb32 := NB273_259.out; have hnc32 := NB259_273.out; have hnb33 := NB273_268.out; have hnc33 := NB268_273.out; have hcz34_0 : w31.cell? ⟨gb273, 0, none⟩ = some (.bool false) := (blk_cell BK273.out 0).trans rfl; have hcz34_1 : w31.cell? ⟨gb273, 1, none⟩ = some (.bool false) := (blk_cell BK273.out 1).trans rfl; have hcz34_2 : w31.cell? ⟨gb273, 2, none⟩ = some (.int .i64 0) := (blk_cell BK273.out 2).trans rfl; have hcz34_3 : w31.cell? ⟨gb273, 3, none⟩ = some (.bool false) := (blk_cell BK273.out 3).trans rfl; have hfz34_0 := blk_frozen BK273.out 0; have hfz34_1 := blk_frozen BK273.out 1; have hfz34_2 := blk_frozen BK273.out 2; have hfz34_3 := blk_frozen BK273.out 3) | ((with_reducible refine gate_callee (f := 35) rfl ?_); refine goesL_ (some 18) rfl rfl Try.func35 (by kernel_rfl) rfl #[.agg #[.bool t269, .bool t270, .int .i64 t271, .bool true], .bool true, .bool true] rfl (by (try simp only [List.map_toArray, List.map_cons, List.map_nil]); first | done | rfl | (simp only [List.length_drop, List.length_take]; rfl)) ?_; (with_reducible refine (dualchannel_Observe.calls t269 t270 t271 true true true t274 t275 t276 true _ A10.out).mono ?_); rintro e w35 ⟨rfl, hb⟩; refine ⟨_, rfl, ?_⟩; have n0_ := Aside0.mk (blk_below (g := gb259) (o := .cells #[.bool x260000_1, .bool x260001_1, .int .i64 x260002_1, .bool x260003_1] 44 (0, 0)) (by (with_reducible repeat (first | refine blk_drewN ?_ _ | refine blk_drew ?_ | refine blk_alloc ?_ _)); refine blk_far ?_ NB259_273.out _; (with_reducible repeat (first | refine blk_drewN ?_ _ | refine blk_drew ?_ | refine blk_alloc ?_ _)); refine blk_far ?_ NB259_273.out _; (with_reducible repeat (first | refine blk_drewN ?_ _ | refine blk_drew ?_ | refine blk_alloc ?_ _)); refine blk_far ?_ NB259_273.out _; (with_reducible repeat (first | refine blk_drewN ?_ _ | refine blk_drew ?_ | refine blk_alloc ?_ _)); refine blk_far ?_ NB259_273.out _; (with_reducible repeat (first | refine blk_drewN ?_ _ | refine blk_drew ?_ | refine blk_alloc ?_ _)); exact BK259.out) hb); have n1_ := Aside0.mk (blk_below (g := gb268) (o := .cells #[.bool t264, .bool t265, .int .i64 t266, .bool t267] 44 (0, 0)) (by (with_reducible repeat (first | refine blk_drewN ?_ _ | refine blk_drew ?_ | refine blk_alloc ?_ _)); refine blk_far ?_ NB268_273.out _; (with_reducible repeat (first | refine blk_drewN ?_ _ | refine blk_drew ?_ | refine blk_alloc ?_ _)); refine blk_far ?_ NB268_273.out _; (with_reducible repeat (first | refine blk_drewN ?_ _ | refine blk_drew ?_ | refine blk_alloc ?_ _)); refine blk_far ?_ NB268_273.out _; (with_reducible repeat (first | refine blk_drewN ?_ _ | refine blk_drew ?_ | refine blk_alloc ?_ _)); refine blk_far ?_ NB268_273.out _; (with_reducible repeat (first | refine blk_drewN ?_ _ | refine blk_drew ?_ | refine blk_alloc ?_ _)); exact BK268.out) hb); have n2_ := Aside0.mk (blk_below (g := gb273) (o := .cells #[.bool t269, .bool t270, .int .i64 t271, .bool true] 44 (0, 0)) (by (with_reducible repeat (first | refine blk_drewN ?_ _ | refine blk_drew ?_ | refine blk_alloc ?_ _)); refine blk_put (cs := #[.bool t269, .bool t270, .int .i64 t271, .bool false]) ?_ 3 _ rfl; (with_reducible repeat (first | refine blk_drewN ?_ _ | refine blk_drew ?_ | refine blk_alloc ?_ _)); refine blk_put (cs := #[.bool t269, .bool t270, .int .i64 0, .bool false]) ?_ 2 _ rfl; (with_reducible repeat (first | refine blk_drewN ?_ _ | refine blk_drew ?_ | refine blk_alloc ?_ _)); refine blk_put (cs := #[.bool t269, .bool false, .int .i64 0, .bool false]) ?_ 1 _ rfl; (with_reducible repeat (first | refine blk_drewN ?_ _ | refine blk_drew ?_ | refine blk_alloc ?_ _)); refine blk_put (cs := #[.bool false, .bool false, .int .i64 0, .bool false]) ?_ 0 _ rfl; (with_reducible repeat (first | refine blk_drewN ?_ _ | refine blk_drew ?_ | refine blk_alloc ?_ _)); exact BK273.out) hb); have n3_ := Aside0.mk (below_step (by repeat (first | (with_reducible first | exact HB.out | apply below_alloc | apply pw_below_drewN | apply below_drew1 | refine below_set ?_ GE259.out | refine below_set ?_ GE268.out | refine below_set ?_ GE273.out) | exact HB.out)) hb); clear BK259; clear BK268; clear BK273; clear HB; have BK259 := n0_; have BK268 := n1_; have BK273 := n2_; have HB := n3_; clear n0_ n1_ n2_ n3_; (try clear hb); (try clear hb2); (try clear hk); (try clear hi)) | ((with_reducible refine gate_dst (N := 5) rfl ?_); refine box_event ?hg (N := 5) ?hd (cs := #[.bool false, .bool false, .int .i64 0, .bool false]) (t := 44) ?hr ?_; (case hd => rfl); (case hg => rfl); (case hr => first | (go_simp; done) | (go_simp; rfl)); intro gb278 hg w36 hbox hb; have n0_ := Aside0.mk (blk_below (g := gb259) (o := .cells #[.bool x260000_1, .bool x260001_1, .int .i64 x260002_1, .bool x260003_1] 44 (0, 0)) (by (with_reducible repeat (first | refine blk_drewN ?_ _ | refine blk_drew ?_ | refine blk_alloc ?_ _)); exact BK259.out) hb); have n1_ := Aside0.mk (blk_below (g := gb268) (o := .cells #[.bool t264, .bool t265, .int .i64 t266, .bool t267] 44 (0, 0)) (by (with_reducible repeat (first | refine blk_drewN ?_ _ | refine blk_drew ?_ | refine blk_alloc ?_ _)); exact BK268.out) hb); have n2_ := Aside0.mk (blk_below (g := gb273) (o := .cells #[.bool t269, .bool t270, .int .i64 t271, .bool true] 44 (0, 0)) (by (with_reducible repeat (first | refine blk_drewN ?_ _ | refine blk_drew ?_ | refine blk_alloc ?_ _)); exact BK273.out) hb); have n3_ := Aside0.mk (below_step (by repeat (first | (with_reducible first | exact HB.out | apply below_alloc | apply pw_below_drewN | apply below_drew1 | refine below_set ?_ GE259.out | refine below_set ?_ GE268.out | refine below_set ?_ GE273.out) | exact HB.out)) hb); have n4_ := Aside0.mk (hbox); have n5_ := Aside0.mk ((by rw [hg]; exact (below_size (by repeat (first | (with_reducible first | exact HB.out | apply below_alloc | apply pw_below_drewN | apply below_drew1 | refine below_set ?_ GE259.out | refine below_set ?_ GE268.out | refine below_set ?_ GE273.out) | exact HB.out))) : w.heap.size ≤ gb278)); have n6_ := Aside0.mk ((by rw [hg]; exact (below_size (by repeat (first | (with_reducible first | exact HB.out | apply below_alloc | apply pw_below_drewN | apply below_drew1 | refine below_set ?_ GE259.out | refine below_set ?_ GE268.out | refine below_set ?_ GE273.out) | exact HB.out))) : w.heap.size ≤ gb278)); have n7_ := Aside0.mk ((by rw [hg]; exact Nat.ne_of_lt (blk_lt (g := gb259) (o := .cells #[.bool x260000_1, .bool x260001_1, .int .i64 x260002_1, .bool x260003_1] 44 (0, 0)) (by (with_reducible repeat (first | refine blk_drewN ?_ _ | refine blk_drew ?_ | refine blk_alloc ?_ _)); exact BK259.out)) : gb259 ≠ gb278)); have n8_ := Aside0.mk ((by rw [hg]; exact Nat.ne_of_gt (blk_lt (g := gb259) (o := .cells #[.bool x260000_1, .bool x260001_1, .int .i64 x260002_1, .bool x260003_1] 44 (0, 0)) (by (with_reducible repeat (first | refine blk_drewN ?_ _ | refine blk_drew ?_ | refine blk_alloc ?_ _)); exact BK259.out)) : gb278 ≠ gb259)); have n9_ := Aside0.mk ((by rw [hg]; exact Nat.ne_of_lt (blk_lt (g := gb268) (o := .cells #[.bool t264, .bool t265, .int .i64 t266, .bool t267] 44 (0, 0)) (by (with_reducible repeat (first | refine blk_drewN ?_ _ | refine blk_drew ?_ | refine blk_alloc ?_ _)); exact BK268.out)) : gb268 ≠ gb278)); have n10_ := Aside0.mk ((by rw [hg]; exact Nat.ne_of_gt (blk_lt (g := gb268) (o := .cells #[.bool t264, .bool t265, .int .i64 t266, .bool t267] 44 (0, 0)) (by (with_reducible repeat (first | refine blk_drewN ?_ _ | refine blk_drew ?_ | refine blk_alloc ?_ _)); exact BK268.out)) : gb278 ≠ gb268)); have n11_ := Aside0.mk ((by rw [hg]; exact Nat.ne_of_lt (blk_lt (g := gb273) (o := .cells #[.bool t269, .bool t270, .int .i64 t271, .bool true] 44 (0, 0)) (by (with_reducible repeat (first | refine blk_drewN ?_ _ | refine blk_drew ?_ | refine blk_alloc ?_ _)); exact BK273.out)) : gb273 ≠ gb278)); have n12_ := Aside0.mk ((by rw [hg]; exact Nat.ne_of_gt (blk_lt (g := gb273) (o := .cells #[.bool t269, .bool t270, .int .i64 t271, .bool true] 44 (0, 0)) (by (with_reducible repeat (first | refine blk_drewN ?_ _ | refine blk_drew ?_ | refine blk_alloc ?_ _)); exact BK273.out)) : gb278 ≠ gb273)); clear BK259; clear BK268; clear BK273; clear HB; have BK259 := n0_; have BK268 := n1_; have BK273 := n2_; have HB := n3_; have BK278 := n4_; have GW278 := n5_; have GE278 := n6_; have NB259_278 := n7_; have NB278_259 := n8_; have NB268_278 := n9_; have NB278_268 := n10_; have NB273_278 := n11_; have NB278_273 := n12_; clear n0_ n1_ n2_ n3_ n4_ n5_ n6_ n7_ n8_ n9_ n10_ n11_ n12_; clear hb hbox hg; have hnb37 := NB278_259.out; have hnc37 := NB259_278.out; have hnb38 := NB278_268.out; have hnc38 := NB268_278.out; have hnb39 := NB278_273.out; have hnc39 := NB273_278.out; have hcz40_0 : w36.cell? ⟨gb278, 0, none⟩ = some (.bool false) := (blk_cell BK278.out 0).trans rfl; have hcz40_1 : w36.cell? ⟨gb278, 1, none⟩ = some (.bool false) := (blk_cell BK278.out 1).trans rfl; have hcz40_2 : w36.cell? ⟨gb278, 2, none⟩ = some (.int .i64 0) := (blk_cell BK278.out 2).trans rfl; have hcz40_3 : w36.cell? ⟨gb278, 3, none⟩ = some (.bool false) := (blk_cell BK278.out 3).trans rfl; have hfz40_0 := blk_frozen BK278.out 0; have hfz40_1 := blk_frozen BK278.out 1; have hfz40_2 := blk_frozen BK278.out 2; have hfz40_3 := blk_frozen BK278.out 3))
                        have n0_ : Aside0 (((((w36.setCell ⟨gb278, 0, none⟩ (.bool t274)).setCell ⟨gb278, 1, none⟩ (.bool t275)).setCell ⟨gb278, 2, none⟩ (.int .i64 t276)).setCell ⟨gb278, 3, none⟩ (.bool true)).heap[gb259]? = some (.cells #[.bool x260000_1, .bool x260001_1, .int .i64 x260002_1, .bool x260003_1] 44 (0, 0))) := ⟨by (with_reducible repeat (first | refine blk_drewN ?_ _ | refine blk_drew ?_ | refine blk_alloc ?_ _)); refine blk_far ?_ NB259_278.out _; (with_reducible repeat (first | refine blk_drewN ?_ _ | refine blk_drew ?_ | refine blk_alloc ?_ _)); refine blk_far ?_ NB259_278.out _; (with_reducible repeat (first | refine blk_drewN ?_ _ | refine blk_drew ?_ | refine blk_alloc ?_ _)); refine blk_far ?_ NB259_278.out _; (with_reducible repeat (first | refine blk_drewN ?_ _ | refine blk_drew ?_ | refine blk_alloc ?_ _)); refine blk_far ?_ NB259_278.out _; (with_reducible repeat (first | refine blk_drewN ?_ _ | refine blk_drew ?_ | refine blk_alloc ?_ _)); exact BK259.out⟩
                        have n1_ : Aside0 (((((w36.setCell ⟨gb278, 0, none⟩ (.bool t274)).setCell ⟨gb278, 1, none⟩ (.bool t275)).setCell ⟨gb278, 2, none⟩ (.int .i64 t276)).setCell ⟨gb278, 3, none⟩ (.bool true)).heap[gb268]? = some (.cells #[.bool t264, .bool t265, .int .i64 t266, .bool t267] 44 (0, 0))) := ⟨by (with_reducible repeat (first | refine blk_drewN ?_ _ | refine blk_drew ?_ | refine blk_alloc ?_ _)); refine blk_far ?_ NB268_278.out _; (with_reducible repeat (first | refine blk_drewN ?_ _ | refine blk_drew ?_ | refine blk_alloc ?_ _)); refine blk_far ?_ NB268_278.out _; (with_reducible repeat (first | refine blk_drewN ?_ _ | refine blk_drew ?_ | refine blk_alloc ?_ _)); refine blk_far ?_ NB268_278.out _; (with_reducible repeat (first | refine blk_drewN ?_ _ | refine blk_drew ?_ | refine blk_alloc ?_ _)); refine blk_far ?_ NB268_278.out _; (with_reducible repeat (first | refine blk_drewN ?_ _ | refine blk_drew ?_ | refine blk_alloc ?_ _)); exact BK268.out⟩
                        have n2_ : Aside0 (((((w36.setCell ⟨gb278, 0, none⟩ (.bool t274)).setCell ⟨gb278, 1, none⟩ (.bool t275)).setCell ⟨gb278, 2, none⟩ (.int .i64 t276)).setCell ⟨gb278, 3, none⟩ (.bool true)).heap[gb273]? = some (.cells #[.bool t269, .bool t270, .int .i64 t271, .bool true] 44 (0, 0))) := ⟨by (with_reducible repeat (first | refine blk_drewN ?_ _ | refine blk_drew ?_ | refine blk_alloc ?_ _)); refine blk_far ?_ NB273_278.out _; (with_reducible repeat (first | refine blk_drewN ?_ _ | refine blk_drew ?_ | refine blk_alloc ?_ _)); refine blk_far ?_ NB273_278.out _; (with_reducible repeat (first | refine blk_drewN ?_ _ | refine blk_drew ?_ | refine blk_alloc ?_ _)); refine blk_far ?_ NB273_278.out _; (with_reducible repeat (first | refine blk_drewN ?_ _ | refine blk_drew ?_ | refine blk_alloc ?_ _)); refine blk_far ?_ NB273_278.out _; (with_reducible repeat (first | refine blk_drewN ?_ _ | refine blk_drew ?_ | refine blk_alloc ?_ _)); exact BK273.out⟩
                        have n3_ : Aside0 (((((w36.setCell ⟨gb278, 0, none⟩ (.bool t274)).setCell ⟨gb278, 1, none⟩ (.bool t275)).setCell ⟨gb278, 2, none⟩ (.int .i64 t276)).setCell ⟨gb278, 3, none⟩ (.bool true)).heap[gb278]? = some (.cells #[.bool t274, .bool t275, .int .i64 t276, .bool true] 44 (0, 0))) := ⟨by (with_reducible repeat (first | refine blk_drewN ?_ _ | refine blk_drew ?_ | refine blk_alloc ?_ _)); refine blk_put (cs := #[.bool t274, .bool t275, .int .i64 t276, .bool false]) ?_ 3 _ rfl; (with_reducible repeat (first | refine blk_drewN ?_ _ | refine blk_drew ?_ | refine blk_alloc ?_ _)); refine blk_put (cs := #[.bool t274, .bool t275, .int .i64 0, .bool false]) ?_ 2 _ rfl; (with_reducible repeat (first | refine blk_drewN ?_ _ | refine blk_drew ?_ | refine blk_alloc ?_ _)); refine blk_put (cs := #[.bool t274, .bool false, .int .i64 0, .bool false]) ?_ 1 _ rfl; (with_reducible repeat (first | refine blk_drewN ?_ _ | refine blk_drew ?_ | refine blk_alloc ?_ _)); refine blk_put (cs := #[.bool false, .bool false, .int .i64 0, .bool false]) ?_ 0 _ rfl; (with_reducible repeat (first | refine blk_drewN ?_ _ | refine blk_drew ?_ | refine blk_alloc ?_ _)); exact BK278.out⟩
                        have n4_ : Aside0 (Below w.heap.size w ((((w36.setCell ⟨gb278, 0, none⟩ (.bool t274)).setCell ⟨gb278, 1, none⟩ (.bool t275)).setCell ⟨gb278, 2, none⟩ (.int .i64 t276)).setCell ⟨gb278, 3, none⟩ (.bool true))) := ⟨by repeat (first | (with_reducible first | exact HB.out | apply below_alloc | apply pw_below_drewN | apply below_drew1 | refine below_set ?_ GE259.out | refine below_set ?_ GE268.out | refine below_set ?_ GE273.out | refine below_set ?_ GE278.out) | exact HB.out)⟩
                        (try clear BK259)
                        (try clear BK268)
                        (try clear BK273)
                        (try clear BK278)
                        (try clear HB)
                        generalize ((((w36.setCell ⟨gb278, 0, none⟩ (.bool t274)).setCell ⟨gb278, 1, none⟩ (.bool t275)).setCell ⟨gb278, 2, none⟩ (.int .i64 t276)).setCell ⟨gb278, 3, none⟩ (.bool true)) = w41 at n0_ n1_ n2_ n3_ n4_ ⊢
                        have BK259 := n0_
                        have BK268 := n1_
                        have BK273 := n2_
                        have BK278 := n3_
                        have HB := n4_
                        clear n0_ n1_ n2_ n3_ n4_
                        have n0_ := Aside0.mk (blk_drew BK259.out)
                        have n1_ := Aside0.mk (blk_drew BK268.out)
                        have n2_ := Aside0.mk (blk_drew BK273.out)
                        have n3_ := Aside0.mk (blk_drew BK278.out)
                        have n4_ := Aside0.mk (below_drew1 HB.out)
                        clear BK259
                        clear BK268
                        clear BK273
                        clear BK278
                        clear HB
                        have BK259 := n0_
                        have BK268 := n1_
                        have BK273 := n2_
                        have BK278 := n3_
                        have HB := n4_
                        clear n0_ n1_ n2_ n3_ n4_
                        refine start_ (n := 42) (S := fun w' => w'.cell? ⟨gb259, 0, none⟩ = some (.bool x260000_1) ∧ w'.cell? ⟨gb259, 1, none⟩ = some (.bool x260001_1) ∧ w'.cell? ⟨gb259, 2, none⟩ = some (.int .i64 x260002_1) ∧ w'.cell? ⟨gb259, 3, none⟩ = some (.bool x260003_1) ∧ w'.cell? ⟨gb268, 0, none⟩ = some (.bool t264) ∧ w'.cell? ⟨gb268, 1, none⟩ = some (.bool t265) ∧ w'.cell? ⟨gb268, 2, none⟩ = some (.int .i64 t266) ∧ w'.cell? ⟨gb268, 3, none⟩ = some (.bool t267) ∧ w'.cell? ⟨gb273, 0, none⟩ = some (.bool t269) ∧ w'.cell? ⟨gb273, 1, none⟩ = some (.bool t270) ∧ w'.cell? ⟨gb273, 2, none⟩ = some (.int .i64 t271) ∧ w'.cell? ⟨gb273, 3, none⟩ = some (.bool true) ∧ w'.cell? ⟨gb278, 0, none⟩ = some (.bool t274) ∧ w'.cell? ⟨gb278, 1, none⟩ = some (.bool t275) ∧ w'.cell? ⟨gb278, 2, none⟩ = some (.int .i64 t276) ∧ w'.cell? ⟨gb278, 3, none⟩ = some (.bool true)) (ds := []) #[false, false, false, false, false, false, false, false, false, false, false, false, false, false, false, false, false, false, false, false, false, false, false, false, false, false, false, false, false, false, false, false, false, false, false, false, false, false, false, false, false, false] (by kernel_rfl) rfl rfl ⟨(blk_cell BK259.out 0).trans rfl, (blk_cell BK259.out 1).trans rfl, (blk_cell BK259.out 2).trans rfl, (blk_cell BK259.out 3).trans rfl, (blk_cell BK268.out 0).trans rfl, (blk_cell BK268.out 1).trans rfl, (blk_cell BK268.out 2).trans rfl, (blk_cell BK268.out 3).trans rfl, (blk_cell BK273.out 0).trans rfl, (blk_cell BK273.out 1).trans rfl, (blk_cell BK273.out 2).trans rfl, (blk_cell BK273.out 3).trans rfl, (blk_cell BK278.out 0).trans rfl, (blk_cell BK278.out 1).trans rfl, (blk_cell BK278.out 2).trans rfl, (blk_cell BK278.out 3).trans rfl⟩ (fun hHeld => ?_); refine with_tabW ambidexterlaw26_head.tab9 ambidexterlaw26_head.bits9 (fun HT_ HW_ => ?_)
                        generalize w41.drew = w42 at BK259 BK268 BK273 BK278 HB hHeld ⊢
                        refine pure_ (i := 1) (N := some 20) (v := ?_) (a' := ?_) #[false, true, false, false, false, false, false, false, false, false, false, false, false, false, false, false, false, false, false, false, false, false, false, false, false, false, false, false, false, false, false, false, false, false, false, false, false, false, false, false, false, false] rfl rfl (any_of HT_.out (by kernel_rfl)) (fun _ _ _ h => h) (Or.inl ⟨by rfl, ?_⟩) ?_ ?_
                        rotate_left
                        · intro w'
                          go_simp
                          with_reducible rfl
                        rotate_left
                        · simp only [Act.put, List.setIfInBounds_toArray, List.set_cons_zero, List.set_cons_succ, i64_w, i32_w]
                          rfl
                        refine take_ (i := 0) (N := some 19) (v := ?_) (a' := ?_) #[true, true, false, false, false, false, false, false, false, false, false, false, false, false, false, false, false, false, false, false, false, false, false, false, false, false, false, false, false, false, false, false, false, false, false, false, false, false, false, false, false, false] rfl rfl (take_ofW HT_.out HW_.out (by kernel_rfl)) (fun _ _ _ h => h) (Or.inl ⟨by rfl, ?_⟩) hHeld ?_ ?_
                        rotate_left
                        · rintro w' ⟨s0, s1, s2, s3, s4, s5, s6, s7, s8, s9, s10, s11, s12, s13, s14, s15⟩
                          go_simp
                          with_reducible rfl
                        rotate_left
                        · simp only [Act.put, List.setIfInBounds_toArray, List.set_cons_zero, List.set_cons_succ, i64_w, i32_w]
                          rfl
                        refine pure_ (i := 2) (N := some 21) (v := ?_) (a' := ?_) #[true, true, true, false, false, false, false, false, false, false, false, false, false, false, false, false, false, false, false, false, false, false, false, false, false, false, false, false, false, false, false, false, false, false, false, false, false, false, false, false, false, false] rfl rfl (any_of HT_.out (by kernel_rfl)) (fun _ _ _ h => h) (Or.inl ⟨by rfl, ?_⟩) ?_ ?_
                        rotate_left
                        · intro w'
                          go_simp
                          with_reducible rfl
                        rotate_left
                        · simp only [Act.put, List.setIfInBounds_toArray, List.set_cons_zero, List.set_cons_succ, i64_w, i32_w]
                          rfl
                        refine pure_ (i := 3) (N := some 22) (v := ?_) (a' := ?_) #[true, true, true, true, false, false, false, false, false, false, false, false, false, false, false, false, false, false, false, false, false, false, false, false, false, false, false, false, false, false, false, false, false, false, false, false, false, false, false, false, false, false] rfl rfl (any_of HT_.out (by kernel_rfl)) (fun _ _ _ h => h) (Or.inl ⟨by rfl, ?_⟩) ?_ ?_
                        rotate_left
                        · intro w'
                          go_simp
                          with_reducible rfl
                        rotate_left
                        · simp only [Act.put, List.setIfInBounds_toArray, List.set_cons_zero, List.set_cons_succ, i64_w, i32_w]
                          rfl
                        refine take_ (i := 4) (N := some 23) (v := ?_) (a' := ?_) #[true, true, true, true, true, false, false, false, false, false, false, false, false, false, false, false, false, false, false, false, false, false, false, false, false, false, false, false, false, false, false, false, false, false, false, false, false, false, false, false, false, false] rfl rfl (take_ofW HT_.out HW_.out (by kernel_rfl)) (fun _ _ _ h => h) (Or.inl ⟨by rfl, ?_⟩) hHeld ?_ ?_
                        rotate_left
                        · rintro w' ⟨s0, s1, s2, s3, s4, s5, s6, s7, s8, s9, s10, s11, s12, s13, s14, s15⟩
                          go_simp
                          with_reducible rfl
                        rotate_left
                        · simp only [Act.put, List.setIfInBounds_toArray, List.set_cons_zero, List.set_cons_succ, i64_w, i32_w]
                          rfl
                        refine one_ (i := 5) (N := some 24) #[true, true, true, true, true, true, false, false, false, false, false, false, false, false, false, false, false, false, false, false, false, false, false, false, false, false, false, false, false, false, false, false, false, false, false, false, false, false, false, false, false, false] rfl rfl (one_of HT_.out (by kernel_rfl)) (by decide) (fun K hK => ?_)
                        refine goes_ Try.func30 (by kernel_rfl) rfl #[.agg #[.bool t264, .bool t265, .int .i64 t266, .bool t267]] (by rfl) rfl rfl (by (try simp only [List.map_toArray, List.map_cons, List.map_nil]); first | done | rfl | (simp only [List.length_drop, List.length_take]; rfl)) ?_
                        with_reducible refine (dualchannel_Closed.calls t264 t265 t266 t267 true _ A12.out).mono ?_
                        rintro e w43 ⟨rfl, hb⟩
                        refine ⟨_, rfl, ?_⟩
                        have n0_ := Aside0.mk (blk_below (g := gb259) (o := .cells #[.bool x260000_1, .bool x260001_1, .int .i64 x260002_1, .bool x260003_1] 44 (0, 0)) (by (with_reducible repeat (first | refine blk_drewN ?_ _ | refine blk_drew ?_ | refine blk_alloc ?_ _)); exact BK259.out) hb)
                        have n1_ := Aside0.mk (blk_below (g := gb268) (o := .cells #[.bool t264, .bool t265, .int .i64 t266, .bool t267] 44 (0, 0)) (by (with_reducible repeat (first | refine blk_drewN ?_ _ | refine blk_drew ?_ | refine blk_alloc ?_ _)); exact BK268.out) hb)
                        have n2_ := Aside0.mk (blk_below (g := gb273) (o := .cells #[.bool t269, .bool t270, .int .i64 t271, .bool true] 44 (0, 0)) (by (with_reducible repeat (first | refine blk_drewN ?_ _ | refine blk_drew ?_ | refine blk_alloc ?_ _)); exact BK273.out) hb)
                        have n3_ := Aside0.mk (blk_below (g := gb278) (o := .cells #[.bool t274, .bool t275, .int .i64 t276, .bool true] 44 (0, 0)) (by (with_reducible repeat (first | refine blk_drewN ?_ _ | refine blk_drew ?_ | refine blk_alloc ?_ _)); exact BK278.out) hb)
                        have n4_ := Aside0.mk (below_step (by repeat (first | (with_reducible first | exact HB.out | apply below_alloc | apply pw_below_drewN | apply below_drew1 | refine below_set ?_ GE259.out | refine below_set ?_ GE268.out | refine below_set ?_ GE273.out | refine below_set ?_ GE278.out) | exact HB.out)) hb)
                        clear BK259
                        clear BK268
                        clear BK273
                        clear BK278
                        clear HB
                        have BK259 := n0_
                        have BK268 := n1_
                        have BK273 := n2_
                        have BK278 := n3_
                        have HB := n4_
                        clear n0_ n1_ n2_ n3_ n4_
                        (try clear hb)
                        (try clear hb2)
                        (try clear hk)
                        (try clear hi)
                        refine hK.out _ _ ⟨(blk_cell BK259.out 0).trans rfl, (blk_cell BK259.out 1).trans rfl, (blk_cell BK259.out 2).trans rfl, (blk_cell BK259.out 3).trans rfl, (blk_cell BK268.out 0).trans rfl, (blk_cell BK268.out 1).trans rfl, (blk_cell BK268.out 2).trans rfl, (blk_cell BK268.out 3).trans rfl, (blk_cell BK273.out 0).trans rfl, (blk_cell BK273.out 1).trans rfl, (blk_cell BK273.out 2).trans rfl, (blk_cell BK273.out 3).trans rfl, (blk_cell BK278.out 0).trans rfl, (blk_cell BK278.out 1).trans rfl, (blk_cell BK278.out 2).trans rfl, (blk_cell BK278.out 3).trans rfl⟩ (fun hHeld => ?_)
                        clear hK K
                        refine norm_ (a' := ?_) ?_ ?_
                        rotate_left
                        · show Act.put _ (some 24) _ = _
                          simp only [Act.put, List.setIfInBounds_toArray, List.set_cons_zero, List.set_cons_succ, i64_w, i32_w]
                          rfl
                        refine pure_ (i := 6) (N := some 25) (v := ?_) (a' := ?_) #[true, true, true, true, true, true, true, false, false, false, false, false, false, false, false, false, false, false, false, false, false, false, false, false, false, false, false, false, false, false, false, false, false, false, false, false, false, false, false, false, false, false] rfl rfl (any_of HT_.out (by kernel_rfl)) (fun _ _ _ h => h) (Or.inl ⟨by rfl, ?_⟩) ?_ ?_
                        rotate_left
                        · intro w'
                          go_simp
                          with_reducible rfl
                        rotate_left
                        · simp only [Act.put, List.setIfInBounds_toArray, List.set_cons_zero, List.set_cons_succ, i64_w, i32_w]
                          rfl
                        refine pure_ (i := 7) (N := some 26) (v := ?_) (a' := ?_) #[true, true, true, true, true, true, true, true, false, false, false, false, false, false, false, false, false, false, false, false, false, false, false, false, false, false, false, false, false, false, false, false, false, false, false, false, false, false, false, false, false, false] rfl rfl (any_of HT_.out (by kernel_rfl)) (fun _ _ _ h => h) (Or.inl ⟨by rfl, ?_⟩) ?_ ?_
                        rotate_left
                        · intro w'
                          go_simp
                          with_reducible rfl
                        rotate_left
                        · simp only [Act.put, List.setIfInBounds_toArray, List.set_cons_zero, List.set_cons_succ, i64_w, i32_w]
                          rfl
                        refine pure_ (i := 8) (N := some 27) (v := ?_) (a' := ?_) #[true, true, true, true, true, true, true, true, true, false, false, false, false, false, false, false, false, false, false, false, false, false, false, false, false, false, false, false, false, false, false, false, false, false, false, false, false, false, false, false, false, false] rfl rfl (any_of HT_.out (by kernel_rfl)) (fun _ _ _ h => h) (Or.inl ⟨by rfl, ?_⟩) ?_ ?_
                        rotate_left
                        · intro w'
                          go_simp
                          with_reducible rfl
                        rotate_left
                        · simp only [Act.put, List.setIfInBounds_toArray, List.set_cons_zero, List.set_cons_succ, i64_w, i32_w]
                          rfl
                        refine take_ (i := 9) (N := some 28) (v := ?_) (a' := ?_) #[true, true, true, true, true, true, true, true, true, true, false, false, false, false, false, false, false, false, false, false, false, false, false, false, false, false, false, false, false, false, false, false, false, false, false, false, false, false, false, false, false, false] rfl rfl (take_ofW HT_.out HW_.out (by kernel_rfl)) (fun _ _ _ h => h) (Or.inl ⟨by rfl, ?_⟩) hHeld ?_ ?_
                        rotate_left
                        · rintro w' ⟨s0, s1, s2, s3, s4, s5, s6, s7, s8, s9, s10, s11, s12, s13, s14, s15⟩
                          go_simp
                          with_reducible rfl
                        rotate_left
                        · simp only [Act.put, List.setIfInBounds_toArray, List.set_cons_zero, List.set_cons_succ, i64_w, i32_w]
                          rfl
                        refine pure_ (i := 10) (N := some 29) (v := ?_) (a' := ?_) #[true, true, true, true, true, true, true, true, true, true, true, false, false, false, false, false, false, false, false, false, false, false, false, false, false, false, false, false, false, false, false, false, false, false, false, false, false, false, false, false, false, false] rfl rfl (any_of HT_.out (by kernel_rfl)) (fun _ _ _ h => h) (Or.inl ⟨by rfl, ?_⟩) ?_ ?_
                        rotate_left
                        · intro w'
                          go_simp
                          with_reducible rfl
                        rotate_left
                        · simp only [Act.put, List.setIfInBounds_toArray, List.set_cons_zero, List.set_cons_succ, i64_w, i32_w]
                          rfl
                        refine pure_ (i := 11) (N := some 30) (v := ?_) (a' := ?_) #[true, true, true, true, true, true, true, true, true, true, true, true, false, false, false, false, false, false, false, false, false, false, false, false, false, false, false, false, false, false, false, false, false, false, false, false, false, false, false, false, false, false] rfl rfl (any_of HT_.out (by kernel_rfl)) (fun _ _ _ h => h) (Or.inl ⟨by rfl, ?_⟩) ?_ ?_
                        rotate_left
                        · intro w'
                          go_simp
                          with_reducible rfl
                        rotate_left
                        · simp only [Act.put, List.setIfInBounds_toArray, List.set_cons_zero, List.set_cons_succ, i64_w, i32_w]
                          rfl
                        refine pure_ (i := 12) (N := some 31) (v := ?_) (a' := ?_) #[true, true, true, true, true, true, true, true, true, true, true, true, true, false, false, false, false, false, false, false, false, false, false, false, false, false, false, false, false, false, false, false, false, false, false, false, false, false, false, false, false, false] rfl rfl (any_of HT_.out (by kernel_rfl)) (fun _ _ _ h => h) (Or.inl ⟨by rfl, ?_⟩) ?_ ?_
                        rotate_left
                        · intro w'
                          go_simp
                          with_reducible rfl
                        rotate_left
                        · simp only [Act.put, List.setIfInBounds_toArray, List.set_cons_zero, List.set_cons_succ, i64_w, i32_w]
                          rfl
                        refine take_ (i := 13) (N := some 32) (v := ?_) (a' := ?_) #[true, true, true, true, true, true, true, true, true, true, true, true, true, true, false, false, false, false, false, false, false, false, false, false, false, false, false, false, false, false, false, false, false, false, false, false, false, false, false, false, false, false] rfl rfl (take_ofW HT_.out HW_.out (by kernel_rfl)) (fun _ _ _ h => h) (Or.inl ⟨by rfl, ?_⟩) hHeld ?_ ?_
                        rotate_left
                        · rintro w' ⟨s0, s1, s2, s3, s4, s5, s6, s7, s8, s9, s10, s11, s12, s13, s14, s15⟩
                          go_simp
                          with_reducible rfl
                        rotate_left
                        · simp only [Act.put, List.setIfInBounds_toArray, List.set_cons_zero, List.set_cons_succ, i64_w, i32_w]
                          rfl
                        refine pure_ (i := 14) (N := some 33) (v := ?_) (a' := ?_) #[true, true, true, true, true, true, true, true, true, true, true, true, true, true, true, false, false, false, false, false, false, false, false, false, false, false, false, false, false, false, false, false, false, false, false, false, false, false, false, false, false, false] rfl rfl (any_of HT_.out (by kernel_rfl)) (fun _ _ _ h => h) (Or.inl ⟨by rfl, ?_⟩) ?_ ?_
                        rotate_left
                        · intro w'
                          go_simp
                          with_reducible rfl
                        rotate_left
                        · simp only [Act.put, List.setIfInBounds_toArray, List.set_cons_zero, List.set_cons_succ, i64_w, i32_w]
                          rfl
                        refine pure_ (i := 15) (N := some 34) (v := ?_) (a' := ?_) #[true, true, true, true, true, true, true, true, true, true, true, true, true, true, true, true, false, false, false, false, false, false, false, false, false, false, false, false, false, false, false, false, false, false, false, false, false, false, false, false, false, false] rfl rfl (any_of HT_.out (by kernel_rfl)) (fun _ _ _ h => h) (Or.inl ⟨by rfl, ?_⟩) ?_ ?_
                        rotate_left
                        · intro w'
                          go_simp
                          with_reducible rfl
                        rotate_left
                        · simp only [Act.put, List.setIfInBounds_toArray, List.set_cons_zero, List.set_cons_succ, i64_w, i32_w]
                          rfl
                        refine pure_ (i := 16) (N := some 35) (v := ?_) (a' := ?_) #[true, true, true, true, true, true, true, true, true, true, true, true, true, true, true, true, true, false, false, false, false, false, false, false, false, false, false, false, false, false, false, false, false, false, false, false, false, false, false, false, false, false] rfl rfl (any_of HT_.out (by kernel_rfl)) (fun _ _ _ h => h) (Or.inl ⟨by rfl, ?_⟩) ?_ ?_
                        rotate_left
                        · intro w'
                          go_simp
                          with_reducible rfl
                        rotate_left
                        · simp only [Act.put, List.setIfInBounds_toArray, List.set_cons_zero, List.set_cons_succ, i64_w, i32_w]
                          rfl
                        refine pure_ (i := 17) (N := some 36) (v := ?_) (a' := ?_) #[true, true, true, true, true, true, true, true, true, true, true, true, true, true, true, true, true, true, false, false, false, false, false, false, false, false, false, false, false, false, false, false, false, false, false, false, false, false, false, false, false, false] rfl rfl (any_of HT_.out (by kernel_rfl)) (fun _ _ _ h => h) (Or.inl ⟨by rfl, ?_⟩) ?_ ?_
                        rotate_left
                        · intro w'
                          go_simp
                          with_reducible rfl
                        rotate_left
                        · simp only [Act.put, List.setIfInBounds_toArray, List.set_cons_zero, List.set_cons_succ, i64_w, i32_w]
                          rfl
                        refine take_ (i := 18) (N := some 37) (v := ?_) (a' := ?_) #[true, true, true, true, true, true, true, true, true, true, true, true, true, true, true, true, true, true, true, false, false, false, false, false, false, false, false, false, false, false, false, false, false, false, false, false, false, false, false, false, false, false] rfl rfl (take_ofW HT_.out HW_.out (by kernel_rfl)) (fun _ _ _ h => h) (Or.inl ⟨by rfl, ?_⟩) hHeld ?_ ?_
                        rotate_left
                        · rintro w' ⟨s0, s1, s2, s3, s4, s5, s6, s7, s8, s9, s10, s11, s12, s13, s14, s15⟩
                          go_simp
                          with_reducible rfl
                        rotate_left
                        · simp only [Act.put, List.setIfInBounds_toArray, List.set_cons_zero, List.set_cons_succ, i64_w, i32_w]
                          rfl
                        refine pure_ (i := 19) (N := some 38) (v := ?_) (a' := ?_) #[true, true, true, true, true, true, true, true, true, true, true, true, true, true, true, true, true, true, true, true, false, false, false, false, false, false, false, false, false, false, false, false, false, false, false, false, false, false, false, false, false, false] rfl rfl (any_of HT_.out (by kernel_rfl)) (fun _ _ _ h => h) (Or.inl ⟨by rfl, ?_⟩) ?_ ?_
                        rotate_left
                        · intro w'
                          go_simp
                          with_reducible rfl
                        rotate_left
                        · simp only [Act.put, List.setIfInBounds_toArray, List.set_cons_zero, List.set_cons_succ, i64_w, i32_w]
                          rfl
                        refine pure_ (i := 20) (N := some 39) (v := ?_) (a' := ?_) #[true, true, true, true, true, true, true, true, true, true, true, true, true, true, true, true, true, true, true, true, true, false, false, false, false, false, false, false, false, false, false, false, false, false, false, false, false, false, false, false, false, false] rfl rfl (any_of HT_.out (by kernel_rfl)) (fun _ _ _ h => h) (Or.inl ⟨by rfl, ?_⟩) ?_ ?_
                        rotate_left
                        · intro w'
                          go_simp
                          with_reducible rfl
                        rotate_left
                        · simp only [Act.put, List.setIfInBounds_toArray, List.set_cons_zero, List.set_cons_succ, i64_w, i32_w]
                          rfl
                        refine pure_ (i := 21) (N := some 40) (v := ?_) (a' := ?_) #[true, true, true, true, true, true, true, true, true, true, true, true, true, true, true, true, true, true, true, true, true, true, false, false, false, false, false, false, false, false, false, false, false, false, false, false, false, false, false, false, false, false] rfl rfl (any_of HT_.out (by kernel_rfl)) (fun _ _ _ h => h) (Or.inl ⟨by rfl, ?_⟩) ?_ ?_
                        rotate_left
                        · intro w'
                          go_simp
                          with_reducible rfl
                        rotate_left
                        · simp only [Act.put, List.setIfInBounds_toArray, List.set_cons_zero, List.set_cons_succ, i64_w, i32_w]
                          rfl
                        refine take_ (i := 22) (N := some 41) (v := ?_) (a' := ?_) #[true, true, true, true, true, true, true, true, true, true, true, true, true, true, true, true, true, true, true, true, true, true, true, false, false, false, false, false, false, false, false, false, false, false, false, false, false, false, false, false, false, false] rfl rfl (take_ofW HT_.out HW_.out (by kernel_rfl)) (fun _ _ _ h => h) (Or.inl ⟨by rfl, ?_⟩) hHeld ?_ ?_
                        rotate_left
                        · rintro w' ⟨s0, s1, s2, s3, s4, s5, s6, s7, s8, s9, s10, s11, s12, s13, s14, s15⟩
                          go_simp
                          with_reducible rfl
                        rotate_left
                        · simp only [Act.put, List.setIfInBounds_toArray, List.set_cons_zero, List.set_cons_succ, i64_w, i32_w]
                          rfl
                        refine pure_ (i := 23) (N := some 42) (v := ?_) (a' := ?_) #[true, true, true, true, true, true, true, true, true, true, true, true, true, true, true, true, true, true, true, true, true, true, true, true, false, false, false, false, false, false, false, false, false, false, false, false, false, false, false, false, false, false] rfl rfl (any_of HT_.out (by kernel_rfl)) (fun _ _ _ h => h) (Or.inl ⟨by rfl, ?_⟩) ?_ ?_
                        rotate_left
                        · intro w'
                          go_simp
                          with_reducible rfl
                        rotate_left
                        · simp only [Act.put, List.setIfInBounds_toArray, List.set_cons_zero, List.set_cons_succ, i64_w, i32_w]
                          rfl
                        refine pure_ (i := 24) (N := some 43) (v := ?_) (a' := ?_) #[true, true, true, true, true, true, true, true, true, true, true, true, true, true, true, true, true, true, true, true, true, true, true, true, true, false, false, false, false, false, false, false, false, false, false, false, false, false, false, false, false, false] rfl rfl (any_of HT_.out (by kernel_rfl)) (fun _ _ _ h => h) (Or.inl ⟨by rfl, ?_⟩) ?_ ?_
                        rotate_left
                        · intro w'
                          go_simp
                          with_reducible rfl
                        rotate_left
                        · simp only [Act.put, List.setIfInBounds_toArray, List.set_cons_zero, List.set_cons_succ, i64_w, i32_w]
                          rfl
                        refine pure_ (i := 25) (N := some 44) (v := ?_) (a' := ?_) #[true, true, true, true, true, true, true, true, true, true, true, true, true, true, true, true, true, true, true, true, true, true, true, true, true, true, false, false, false, false, false, false, false, false, false, false, false, false, false, false, false, false] rfl rfl (any_of HT_.out (by kernel_rfl)) (fun _ _ _ h => h) (Or.inl ⟨by rfl, ?_⟩) ?_ ?_
                        rotate_left
                        · intro w'
                          go_simp
                          with_reducible rfl
                        rotate_left
                        · simp only [Act.put, List.setIfInBounds_toArray, List.set_cons_zero, List.set_cons_succ, i64_w, i32_w]
                          rfl
                        refine take_ (i := 26) (N := some 45) (v := ?_) (a' := ?_) #[true, true, true, true, true, true, true, true, true, true, true, true, true, true, true, true, true, true, true, true, true, true, true, true, true, true, true, false, false, false, false, false, false, false, false, false, false, false, false, false, false, false] rfl rfl (take_ofW HT_.out HW_.out (by kernel_rfl)) (fun _ _ _ h => h) (Or.inl ⟨by rfl, ?_⟩) hHeld ?_ ?_
                        rotate_left
                        · rintro w' ⟨s0, s1, s2, s3, s4, s5, s6, s7, s8, s9, s10, s11, s12, s13, s14, s15⟩
                          go_simp
                          with_reducible rfl
                        rotate_left
                        · simp only [Act.put, List.setIfInBounds_toArray, List.set_cons_zero, List.set_cons_succ, i64_w, i32_w]
                          rfl
                        refine one_ (i := 27) (N := some 46) #[true, true, true, true, true, true, true, true, true, true, true, true, true, true, true, true, true, true, true, true, true, true, true, true, true, true, true, true, false, false, false, false, false, false, false, false, false, false, false, false, false, false] rfl rfl (one_of HT_.out (by kernel_rfl)) (by decide) (fun K hK => ?_)
                        refine goes_ Try.func30 (by kernel_rfl) rfl #[.agg #[.bool t274, .bool t275, .int .i64 t276, .bool true]] (by rfl) rfl rfl (by (try simp only [List.map_toArray, List.map_cons, List.map_nil]); first | done | rfl | (simp only [List.length_drop, List.length_take]; rfl)) ?_
                        with_reducible refine (dualchannel_Closed.calls t274 t275 t276 true false _ A18.out).mono ?_
                        rintro e w44 ⟨rfl, hb⟩
                        refine ⟨_, rfl, ?_⟩
                        have n0_ := Aside0.mk (blk_below (g := gb259) (o := .cells #[.bool x260000_1, .bool x260001_1, .int .i64 x260002_1, .bool x260003_1] 44 (0, 0)) (by (with_reducible repeat (first | refine blk_drewN ?_ _ | refine blk_drew ?_ | refine blk_alloc ?_ _)); exact BK259.out) hb)
                        have n1_ := Aside0.mk (blk_below (g := gb268) (o := .cells #[.bool t264, .bool t265, .int .i64 t266, .bool t267] 44 (0, 0)) (by (with_reducible repeat (first | refine blk_drewN ?_ _ | refine blk_drew ?_ | refine blk_alloc ?_ _)); exact BK268.out) hb)
                        have n2_ := Aside0.mk (blk_below (g := gb273) (o := .cells #[.bool t269, .bool t270, .int .i64 t271, .bool true] 44 (0, 0)) (by (with_reducible repeat (first | refine blk_drewN ?_ _ | refine blk_drew ?_ | refine blk_alloc ?_ _)); exact BK273.out) hb)
                        have n3_ := Aside0.mk (blk_below (g := gb278) (o := .cells #[.bool t274, .bool t275, .int .i64 t276, .bool true] 44 (0, 0)) (by (with_reducible repeat (first | refine blk_drewN ?_ _ | refine blk_drew ?_ | refine blk_alloc ?_ _)); exact BK278.out) hb)
                        have n4_ := Aside0.mk (below_step (by repeat (first | (with_reducible first | exact HB.out | apply below_alloc | apply pw_below_drewN | apply below_drew1 | refine below_set ?_ GE259.out | refine below_set ?_ GE268.out | refine below_set ?_ GE273.out | refine below_set ?_ GE278.out) | exact HB.out)) hb)
                        clear BK259
                        clear BK268
                        clear BK273
                        clear BK278
                        clear HB
                        have BK259 := n0_
                        have BK268 := n1_
                        have BK273 := n2_
                        have BK278 := n3_
                        have HB := n4_
                        clear n0_ n1_ n2_ n3_ n4_
                        (try clear hb)
                        (try clear hb2)
                        (try clear hk)
                        (try clear hi)
                        refine hK.out _ _ ⟨(blk_cell BK259.out 0).trans rfl, (blk_cell BK259.out 1).trans rfl, (blk_cell BK259.out 2).trans rfl, (blk_cell BK259.out 3).trans rfl, (blk_cell BK268.out 0).trans rfl, (blk_cell BK268.out 1).trans rfl, (blk_cell BK268.out 2).trans rfl, (blk_cell BK268.out 3).trans rfl, (blk_cell BK273.out 0).trans rfl, (blk_cell BK273.out 1).trans rfl, (blk_cell BK273.out 2).trans rfl, (blk_cell BK273.out 3).trans rfl, (blk_cell BK278.out 0).trans rfl, (blk_cell BK278.out 1).trans rfl, (blk_cell BK278.out 2).trans rfl, (blk_cell BK278.out 3).trans rfl⟩ (fun hHeld => ?_)
                        clear hK K
                        refine norm_ (a' := ?_) ?_ ?_
                        rotate_left
                        · show Act.put _ (some 46) _ = _
                          simp only [Act.put, List.setIfInBounds_toArray, List.set_cons_zero, List.set_cons_succ, i64_w, i32_w]
                          rfl
                        refine pure_ (i := 28) (N := some 47) (v := ?_) (a' := ?_) #[true, true, true, true, true, true, true, true, true, true, true, true, true, true, true, true, true, true, true, true, true, true, true, true, true, true, true, true, true, false, false, false, false, false, false, false, false, false, false, false, false, false] rfl rfl (any_of HT_.out (by kernel_rfl)) (fun _ _ _ h => h) (Or.inl ⟨by rfl, ?_⟩) ?_ ?_
                        rotate_left
                        · intro w'
                          go_simp
                          with_reducible rfl
                        rotate_left
                        · simp only [Act.put, List.setIfInBounds_toArray, List.set_cons_zero, List.set_cons_succ, i64_w, i32_w]
                          rfl
                        refine pure_ (i := 29) (N := some 48) (v := ?_) (a' := ?_) #[true, true, true, true, true, true, true, true, true, true, true, true, true, true, true, true, true, true, true, true, true, true, true, true, true, true, true, true, true, true, false, false, false, false, false, false, false, false, false, false, false, false] rfl rfl (any_of HT_.out (by kernel_rfl)) (fun _ _ _ h => h) (Or.inl ⟨by rfl, ?_⟩) ?_ ?_
                        rotate_left
                        · intro w'
                          go_simp
                          with_reducible rfl
                        rotate_left
                        · simp only [Act.put, List.setIfInBounds_toArray, List.set_cons_zero, List.set_cons_succ, i64_w, i32_w]
                          rfl
                        refine pure_ (i := 30) (N := some 49) (v := ?_) (a' := ?_) #[true, true, true, true, true, true, true, true, true, true, true, true, true, true, true, true, true, true, true, true, true, true, true, true, true, true, true, true, true, true, true, false, false, false, false, false, false, false, false, false, false, false] rfl rfl (any_of HT_.out (by kernel_rfl)) (fun _ _ _ h => h) (Or.inl ⟨by rfl, ?_⟩) ?_ ?_
                        rotate_left
                        · intro w'
                          go_simp
                          with_reducible rfl
                        rotate_left
                        · simp only [Act.put, List.setIfInBounds_toArray, List.set_cons_zero, List.set_cons_succ, i64_w, i32_w]
                          rfl
                        refine take_ (i := 31) (N := some 50) (v := ?_) (a' := ?_) #[true, true, true, true, true, true, true, true, true, true, true, true, true, true, true, true, true, true, true, true, true, true, true, true, true, true, true, true, true, true, true, true, false, false, false, false, false, false, false, false, false, false] rfl rfl (take_ofW HT_.out HW_.out (by kernel_rfl)) (fun _ _ _ h => h) (Or.inl ⟨by rfl, ?_⟩) hHeld ?_ ?_
                        rotate_left
                        · rintro w' ⟨s0, s1, s2, s3, s4, s5, s6, s7, s8, s9, s10, s11, s12, s13, s14, s15⟩
                          go_simp
                          with_reducible rfl
                        rotate_left
                        · simp only [Act.put, List.setIfInBounds_toArray, List.set_cons_zero, List.set_cons_succ, i64_w, i32_w]
                          rfl
                        refine one_ (i := 32) (N := some 51) #[true, true, true, true, true, true, true, true, true, true, true, true, true, true, true, true, true, true, true, true, true, true, true, true, true, true, true, true, true, true, true, true, true, false, false, false, false, false, false, false, false, false] rfl rfl (one_of HT_.out (by kernel_rfl)) (by decide) (fun K hK => ?_)
                        refine goes_ Try.func34 (by kernel_rfl) rfl #[.agg #[.bool t274, .bool t275, .int .i64 t276, .bool true]] (by rfl) rfl rfl (by (try simp only [List.map_toArray, List.map_cons, List.map_nil]); first | done | rfl | (simp only [List.length_drop, List.length_take]; rfl)) ?_
                        with_reducible refine (dualchannel_Reset.calls t274 t275 t276 true t281 t282 t283 t284 _ A20.out).mono ?_
                        rintro e w45 ⟨rfl, hb⟩
                        refine ⟨_, rfl, ?_⟩
                        have n0_ := Aside0.mk (blk_below (g := gb259) (o := .cells #[.bool x260000_1, .bool x260001_1, .int .i64 x260002_1, .bool x260003_1] 44 (0, 0)) (by (with_reducible repeat (first | refine blk_drewN ?_ _ | refine blk_drew ?_ | refine blk_alloc ?_ _)); exact BK259.out) hb)
                        have n1_ := Aside0.mk (blk_below (g := gb268) (o := .cells #[.bool t264, .bool t265, .int .i64 t266, .bool t267] 44 (0, 0)) (by (with_reducible repeat (first | refine blk_drewN ?_ _ | refine blk_drew ?_ | refine blk_alloc ?_ _)); exact BK268.out) hb)
                        have n2_ := Aside0.mk (blk_below (g := gb273) (o := .cells #[.bool t269, .bool t270, .int .i64 t271, .bool true] 44 (0, 0)) (by (with_reducible repeat (first | refine blk_drewN ?_ _ | refine blk_drew ?_ | refine blk_alloc ?_ _)); exact BK273.out) hb)
                        have n3_ := Aside0.mk (blk_below (g := gb278) (o := .cells #[.bool t274, .bool t275, .int .i64 t276, .bool true] 44 (0, 0)) (by (with_reducible repeat (first | refine blk_drewN ?_ _ | refine blk_drew ?_ | refine blk_alloc ?_ _)); exact BK278.out) hb)
                        have n4_ := Aside0.mk (below_step (by repeat (first | (with_reducible first | exact HB.out | apply below_alloc | apply pw_below_drewN | apply below_drew1 | refine below_set ?_ GE259.out | refine below_set ?_ GE268.out | refine below_set ?_ GE273.out | refine below_set ?_ GE278.out) | exact HB.out)) hb)
                        clear BK259
                        clear BK268
                        clear BK273
                        clear BK278
                        clear HB
                        have BK259 := n0_
                        have BK268 := n1_
                        have BK273 := n2_
                        have BK278 := n3_
                        have HB := n4_
                        clear n0_ n1_ n2_ n3_ n4_
                        (try clear hb)
                        (try clear hb2)
                        (try clear hk)
                        (try clear hi)
                        refine hK.out _ _ ⟨(blk_cell BK259.out 0).trans rfl, (blk_cell BK259.out 1).trans rfl, (blk_cell BK259.out 2).trans rfl, (blk_cell BK259.out 3).trans rfl, (blk_cell BK268.out 0).trans rfl, (blk_cell BK268.out 1).trans rfl, (blk_cell BK268.out 2).trans rfl, (blk_cell BK268.out 3).trans rfl, (blk_cell BK273.out 0).trans rfl, (blk_cell BK273.out 1).trans rfl, (blk_cell BK273.out 2).trans rfl, (blk_cell BK273.out 3).trans rfl, (blk_cell BK278.out 0).trans rfl, (blk_cell BK278.out 1).trans rfl, (blk_cell BK278.out 2).trans rfl, (blk_cell BK278.out 3).trans rfl⟩ (fun hHeld => ?_)
                        clear hK K
                        refine norm_ (a' := ?_) ?_ ?_
                        rotate_left
                        · show Act.put _ (some 51) _ = _
                          simp only [Act.put, List.setIfInBounds_toArray, List.set_cons_zero, List.set_cons_succ, i64_w, i32_w]
                          rfl
                        refine one_ (i := 33) (N := some 52) #[true, true, true, true, true, true, true, true, true, true, true, true, true, true, true, true, true, true, true, true, true, true, true, true, true, true, true, true, true, true, true, true, true, true, false, false, false, false, false, false, false, false] rfl rfl (one_of HT_.out (by kernel_rfl)) (by decide) (fun K hK => ?_)
                        refine goes_ Try.func30 (by kernel_rfl) rfl #[.agg #[.bool t281, .bool t282, .int .i64 t283, .bool t284]] (by rfl) rfl rfl (by (try simp only [List.map_toArray, List.map_cons, List.map_nil]); first | done | rfl | (simp only [List.length_drop, List.length_take]; rfl)) ?_
                        with_reducible refine (dualchannel_Closed.calls t281 t282 t283 t284 true _ A21.out).mono ?_
                        rintro e w46 ⟨rfl, hb⟩
                        refine ⟨_, rfl, ?_⟩
                        have n0_ := Aside0.mk (blk_below (g := gb259) (o := .cells #[.bool x260000_1, .bool x260001_1, .int .i64 x260002_1, .bool x260003_1] 44 (0, 0)) (by (with_reducible repeat (first | refine blk_drewN ?_ _ | refine blk_drew ?_ | refine blk_alloc ?_ _)); exact BK259.out) hb)
                        have n1_ := Aside0.mk (blk_below (g := gb268) (o := .cells #[.bool t264, .bool t265, .int .i64 t266, .bool t267] 44 (0, 0)) (by (with_reducible repeat (first | refine blk_drewN ?_ _ | refine blk_drew ?_ | refine blk_alloc ?_ _)); exact BK268.out) hb)
                        have n2_ := Aside0.mk (blk_below (g := gb273) (o := .cells #[.bool t269, .bool t270, .int .i64 t271, .bool true] 44 (0, 0)) (by (with_reducible repeat (first | refine blk_drewN ?_ _ | refine blk_drew ?_ | refine blk_alloc ?_ _)); exact BK273.out) hb)
                        have n3_ := Aside0.mk (blk_below (g := gb278) (o := .cells #[.bool t274, .bool t275, .int .i64 t276, .bool true] 44 (0, 0)) (by (with_reducible repeat (first | refine blk_drewN ?_ _ | refine blk_drew ?_ | refine blk_alloc ?_ _)); exact BK278.out) hb)
                        have n4_ := Aside0.mk (below_step (by repeat (first | (with_reducible first | exact HB.out | apply below_alloc | apply pw_below_drewN | apply below_drew1 | refine below_set ?_ GE259.out | refine below_set ?_ GE268.out | refine below_set ?_ GE273.out | refine below_set ?_ GE278.out) | exact HB.out)) hb)
                        clear BK259
                        clear BK268
                        clear BK273
                        clear BK278
                        clear HB
                        have BK259 := n0_
                        have BK268 := n1_
                        have BK273 := n2_
                        have BK278 := n3_
                        have HB := n4_
                        clear n0_ n1_ n2_ n3_ n4_
                        (try clear hb)
                        (try clear hb2)
                        (try clear hk)
                        (try clear hi)
                        refine hK.out _ _ ⟨(blk_cell BK259.out 0).trans rfl, (blk_cell BK259.out 1).trans rfl, (blk_cell BK259.out 2).trans rfl, (blk_cell BK259.out 3).trans rfl, (blk_cell BK268.out 0).trans rfl, (blk_cell BK268.out 1).trans rfl, (blk_cell BK268.out 2).trans rfl, (blk_cell BK268.out 3).trans rfl, (blk_cell BK273.out 0).trans rfl, (blk_cell BK273.out 1).trans rfl, (blk_cell BK273.out 2).trans rfl, (blk_cell BK273.out 3).trans rfl, (blk_cell BK278.out 0).trans rfl, (blk_cell BK278.out 1).trans rfl, (blk_cell BK278.out 2).trans rfl, (blk_cell BK278.out 3).trans rfl⟩ (fun hHeld => ?_)
                        clear hK K
                        refine norm_ (a' := ?_) ?_ ?_
                        rotate_left
                        · show Act.put _ (some 52) _ = _
                          simp only [Act.put, List.setIfInBounds_toArray, List.set_cons_zero, List.set_cons_succ, i64_w, i32_w]
                          rfl
                        refine pure_ (i := 34) (N := some 53) (v := ?_) (a' := ?_) #[true, true, true, true, true, true, true, true, true, true, true, true, true, true, true, true, true, true, true, true, true, true, true, true, true, true, true, true, true, true, true, true, true, true, true, false, false, false, false, false, false, false] rfl rfl (any_of HT_.out (by kernel_rfl)) (fun _ _ _ h => h) (Or.inl ⟨by rfl, ?_⟩) ?_ ?_
                        rotate_left
                        · intro w'
                          go_simp
                          with_reducible rfl
                        rotate_left
                        · simp only [Act.put, List.setIfInBounds_toArray, List.set_cons_zero, List.set_cons_succ, i64_w, i32_w]
                          rfl
                        refine pure_ (i := 35) (N := some 54) (v := ?_) (a' := ?_) #[true, true, true, true, true, true, true, true, true, true, true, true, true, true, true, true, true, true, true, true, true, true, true, true, true, true, true, true, true, true, true, true, true, true, true, true, false, false, false, false, false, false] rfl rfl (any_of HT_.out (by kernel_rfl)) (fun _ _ _ h => h) (Or.inl ⟨by rfl, ?_⟩) ?_ ?_
                        rotate_left
                        · intro w'
                          go_simp
                          with_reducible rfl
                        rotate_left
                        · simp only [Act.put, List.setIfInBounds_toArray, List.set_cons_zero, List.set_cons_succ, i64_w, i32_w]
                          rfl
                        refine take_ (i := 36) (N := some 55) (v := ?_) (a' := ?_) #[true, true, true, true, true, true, true, true, true, true, true, true, true, true, true, true, true, true, true, true, true, true, true, true, true, true, true, true, true, true, true, true, true, true, true, true, true, false, false, false, false, false] rfl rfl (take_ofW HT_.out HW_.out (by kernel_rfl)) (fun _ _ _ h => h) (Or.inl ⟨by rfl, ?_⟩) hHeld ?_ ?_
                        rotate_left
                        · rintro w' ⟨s0, s1, s2, s3, s4, s5, s6, s7, s8, s9, s10, s11, s12, s13, s14, s15⟩
                          go_simp
                          with_reducible rfl
                        rotate_left
                        · simp only [Act.put, List.setIfInBounds_toArray, List.set_cons_zero, List.set_cons_succ, i64_w, i32_w]
                          rfl
                        refine take_ (i := 38) (N := some 57) (v := ?_) (a' := ?_) #[true, true, true, true, true, true, true, true, true, true, true, true, true, true, true, true, true, true, true, true, true, true, true, true, true, true, true, true, true, true, true, true, true, true, true, true, true, false, true, false, false, false] rfl rfl (take_ofW HT_.out HW_.out (by kernel_rfl)) (fun _ _ _ h => h) (Or.inl ⟨by rfl, ?_⟩) hHeld ?_ ?_
                        rotate_left
                        · rintro w' ⟨s0, s1, s2, s3, s4, s5, s6, s7, s8, s9, s10, s11, s12, s13, s14, s15⟩
                          go_simp
                          with_reducible rfl
                        rotate_left
                        · simp only [Act.put, List.setIfInBounds_toArray, List.set_cons_zero, List.set_cons_succ, i64_w, i32_w]
                          rfl
                        refine one_ (i := 37) (N := some 56) #[true, true, true, true, true, true, true, true, true, true, true, true, true, true, true, true, true, true, true, true, true, true, true, true, true, true, true, true, true, true, true, true, true, true, true, true, true, true, true, false, false, false] rfl rfl (one_of HT_.out (by kernel_rfl)) (by decide) (fun K hK => ?_)
                        refine goes_ Try.func34 (by kernel_rfl) rfl #[.agg #[.bool t269, .bool t270, .int .i64 t271, .bool true]] (by rfl) rfl rfl (by (try simp only [List.map_toArray, List.map_cons, List.map_nil]); first | done | rfl | (simp only [List.length_drop, List.length_take]; rfl)) ?_
                        with_reducible refine (dualchannel_Reset.calls t269 t270 t271 true t286 t287 t288 t289 _ A23.out).mono ?_
                        rintro e w47 ⟨rfl, hb⟩
                        refine ⟨_, rfl, ?_⟩
                        have n0_ := Aside0.mk (blk_below (g := gb259) (o := .cells #[.bool x260000_1, .bool x260001_1, .int .i64 x260002_1, .bool x260003_1] 44 (0, 0)) (by (with_reducible repeat (first | refine blk_drewN ?_ _ | refine blk_drew ?_ | refine blk_alloc ?_ _)); exact BK259.out) hb)
                        have n1_ := Aside0.mk (blk_below (g := gb268) (o := .cells #[.bool t264, .bool t265, .int .i64 t266, .bool t267] 44 (0, 0)) (by (with_reducible repeat (first | refine blk_drewN ?_ _ | refine blk_drew ?_ | refine blk_alloc ?_ _)); exact BK268.out) hb)
                        have n2_ := Aside0.mk (blk_below (g := gb273) (o := .cells #[.bool t269, .bool t270, .int .i64 t271, .bool true] 44 (0, 0)) (by (with_reducible repeat (first | refine blk_drewN ?_ _ | refine blk_drew ?_ | refine blk_alloc ?_ _)); exact BK273.out) hb)
                        have n3_ := Aside0.mk (blk_below (g := gb278) (o := .cells #[.bool t274, .bool t275, .int .i64 t276, .bool true] 44 (0, 0)) (by (with_reducible repeat (first | refine blk_drewN ?_ _ | refine blk_drew ?_ | refine blk_alloc ?_ _)); exact BK278.out) hb)
                        have n4_ := Aside0.mk (below_step (by repeat (first | (with_reducible first | exact HB.out | apply below_alloc | apply pw_below_drewN | apply below_drew1 | refine below_set ?_ GE259.out | refine below_set ?_ GE268.out | refine below_set ?_ GE273.out | refine below_set ?_ GE278.out) | exact HB.out)) hb)
                        clear BK259
                        clear BK268
                        clear BK273
                        clear BK278
                        clear HB
                        have BK259 := n0_
                        have BK268 := n1_
                        have BK273 := n2_
                        have BK278 := n3_
                        have HB := n4_
                        clear n0_ n1_ n2_ n3_ n4_
                        (try clear hb)
                        (try clear hb2)
                        (try clear hk)
                        (try clear hi)
                        refine hK.out _ _ ⟨(blk_cell BK259.out 0).trans rfl, (blk_cell BK259.out 1).trans rfl, (blk_cell BK259.out 2).trans rfl, (blk_cell BK259.out 3).trans rfl, (blk_cell BK268.out 0).trans rfl, (blk_cell BK268.out 1).trans rfl, (blk_cell BK268.out 2).trans rfl, (blk_cell BK268.out 3).trans rfl, (blk_cell BK273.out 0).trans rfl, (blk_cell BK273.out 1).trans rfl, (blk_cell BK273.out 2).trans rfl, (blk_cell BK273.out 3).trans rfl, (blk_cell BK278.out 0).trans rfl, (blk_cell BK278.out 1).trans rfl, (blk_cell BK278.out 2).trans rfl, (blk_cell BK278.out 3).trans rfl⟩ (fun hHeld => ?_)
                        clear hK K
                        refine norm_ (a' := ?_) ?_ ?_
                        rotate_left
                        · show Act.put _ (some 56) _ = _
                          simp only [Act.put, List.setIfInBounds_toArray, List.set_cons_zero, List.set_cons_succ, i64_w, i32_w]
                          rfl
                        refine pure_ (i := 39) (N := some 58) (v := ?_) (a' := ?_) #[true, true, true, true, true, true, true, true, true, true, true, true, true, true, true, true, true, true, true, true, true, true, true, true, true, true, true, true, true, true, true, true, true, true, true, true, true, true, true, true, false, false] rfl rfl (any_of HT_.out (by kernel_rfl)) (fun _ _ _ h => h) (Or.inl ⟨by rfl, ?_⟩) ?_ ?_
                        rotate_left
                        · intro w'
                          go_simp
                          with_reducible rfl
                        rotate_left
                        · simp only [Act.put, List.setIfInBounds_toArray, List.set_cons_zero, List.set_cons_succ, i64_w, i32_w]
                          rfl
                        refine pure_ (i := 40) (N := some 59) (v := ?_) (a' := ?_) #[true, true, true, true, true, true, true, true, true, true, true, true, true, true, true, true, true, true, true, true, true, true, true, true, true, true, true, true, true, true, true, true, true, true, true, true, true, true, true, true, true, false] rfl rfl (any_of HT_.out (by kernel_rfl)) (fun _ _ _ h => h) (Or.inl ⟨by rfl, ?_⟩) ?_ ?_
                        rotate_left
                        · intro w'
                          go_simp
                          with_reducible rfl
                        rotate_left
                        · simp only [Act.put, List.setIfInBounds_toArray, List.set_cons_zero, List.set_cons_succ, i64_w, i32_w]
                          rfl
                        refine pure_ (i := 41) (N := some 0) (v := ?_) (a' := ?_) #[true, true, true, true, true, true, true, true, true, true, true, true, true, true, true, true, true, true, true, true, true, true, true, true, true, true, true, true, true, true, true, true, true, true, true, true, true, true, true, true, true, true] rfl rfl (any_of HT_.out (by kernel_rfl)) (fun _ _ _ h => h) (Or.inl ⟨by rfl, ?_⟩) ?_ ?_
                        rotate_left
                        · intro w'
                          go_simp
                          with_reducible rfl
                        rotate_left
                        · simp only [Act.put, List.setIfInBounds_toArray, List.set_cons_zero, List.set_cons_succ, i64_w, i32_w]
                          rfl
                        refine done_ (done_of HT_.out (by kernel_rfl)) ?_
                        try go_wp2
                        go_ret
                        exact ⟨by first | rfl | (simp [errW_none, errW_some] <;> rfl) | (simp [*, errW_none, errW_some] <;> rfl), by repeat (first | (with_reducible first | exact HB.out | apply below_alloc | apply pw_below_drewN | apply below_drew1 | refine below_set ?_ GE259.out | refine below_set ?_ GE268.out | refine below_set ?_ GE273.out | refine below_set ?_ GE278.out) | exact HB.out)⟩
                      · replace c22 := Bool.eq_false_iff.mpr c22
                        subst c22
                        have H1 : (some false) = some r := by rw [if_neg (show ¬ (false = true) by decide)] at H; exact H
                        clear H
                        have H := H1
                        clear H1
                        exact absurd HT.out (by rw [← Option.some.inj H]; decide)
                  · rw [if_neg c17] at H
                    have c17b0 : (t276 == 0) = false := beq_eq_false_iff_ne.mpr c17
                    have c17b1 : (t276 != 0) = true := bne_iff_ne.mpr c17
                    exact absurd HT.out (by rw [← Option.some.inj H]; decide)
                · replace c16 := Bool.eq_false_iff.mpr c16
                  subst c16
                  have H1 : (some false) = some r := by rw [if_neg (show ¬ (false = true) by decide)] at H; exact H
                  clear H
                  have H := H1
                  clear H1
                  exact absurd HT.out (by rw [← Option.some.inj H]; decide)
              · rw [if_neg c15] at H
                have c15b0 : (t271 == 4) = false := beq_eq_false_iff_ne.mpr c15
                have c15b1 : (t271 != 4) = true := bne_iff_ne.mpr c15
                exact absurd HT.out (by rw [← Option.some.inj H]; decide)
            · replace c14 := Bool.eq_false_iff.mpr c14
              subst c14
              have H1 : (some false) = some r := by rw [if_neg (show ¬ (false = true) by decide)] at H; exact H
              clear H
              have H := H1
              clear H1
              exact absurd HT.out (by rw [← Option.some.inj H]; decide)
          · replace c13 := Bool.eq_false_iff.mpr c13
            subst c13
            have H1 : (some false) = some r := by rw [if_neg (show ¬ (false = true) by decide)] at H; exact H
            clear H
            have H := H1
            clear H1
            exact absurd HT.out (by rw [← Option.some.inj H]; decide)
        · rw [if_neg c11] at H
          have c11b0 : (x260000_1 && (!x260001_1 && (x260002_1 == 3 && (!x260003_1)))) = false := by simpa using c11
          clear c11
          exact absurd HT.out (by rw [← Option.some.inj H]; decide)

theorem ambidexterlaw26_head.is_true (k : Nat) {r : Bool} (h : ambidexterlaw26_head.f k = some r) : r = true := by
  have e : ambidexterlaw26_head.f 2000 = some true := by kernel_rfl
  have h1 := at_rounds ambidexterlaw26_head.mono (Nat.le_max_left k 2000) h
  have h2 := at_rounds ambidexterlaw26_head.mono (Nat.le_max_right k 2000) e
  rw [h1] at h2
  exact Option.some.inj h2
theorem ambidexterlaw26_head.calls (k : Nat)  (r : Bool) (w : World) (h : ambidexterlaw26_head.f k  = some r) :
    Calls Try.prog 27 #[] w fun e w' => e = .returned (.bool r) ∧ Below w.heap.size w w' := ambidexterlaw26_head.calls0 k r w h (ambidexterlaw26_head.is_true k h)

/-! ### ambidexterlaw26_step: function 28 -/
def ambidexterlaw26_step.f (a0_0 : Bool) (a0_1 : Bool) (a0_2 : Int) (a0_3 : Bool) (a1_0 : Int) (a1_1 : Bool) (a1_2 : Bool) : Option (Bool × Bool × Int × Bool) := if (Int.tmod a1_0 8) = 0 then ((dualchannel_Reset.f a0_0 a0_1 a0_2 a0_3).bind fun bt293 => (some (bt293.1, bt293.2.1, bt293.2.2.1, bt293.2.2.2))) else ((dualchannel_Observe.f a0_0 a0_1 a0_2 a0_3 a1_1 a1_2).bind fun bt297 => (some (bt297.1, bt297.2.1, bt297.2.2.1, bt297.2.2.2)))
set_option maxHeartbeats 8000000 in
set_option maxRecDepth 100000 in
theorem ambidexterlaw26_step.calls (a0_0 : Bool) (a0_1 : Bool) (a0_2 : Int) (a0_3 : Bool) (a1_0 : Int) (a1_1 : Bool) (a1_2 : Bool) (r1 : Bool) (r2 : Bool) (r3 : Int) (r4 : Bool) (w : World) (h : ambidexterlaw26_step.f a0_0 a0_1 a0_2 a0_3 a1_0 a1_1 a1_2 = some (r1, r2, r3, r4)) :
    Calls Try.prog 28 #[.agg #[.bool a0_0, .bool a0_1, .int .i64 a0_2, .bool a0_3], .agg #[.int .u8 a1_0, .bool a1_1, .bool a1_2]] w fun e w' => e = .returned (.agg #[.bool r1, .bool r2, .int .i64 r3, .bool r4]) ∧ Below w.heap.size w w' := by
  have hu44 := Try.underlying44
  have hu47 := Try.underlying47
  have HB := Aside0.mk (Below.refl w.heap.size w)
  have H : (if (Int.tmod a1_0 8) = 0 then ((dualchannel_Reset.f a0_0 a0_1 a0_2 a0_3).bind fun bt293 => (some (bt293.1, bt293.2.1, bt293.2.2.1, bt293.2.2.2))) else ((dualchannel_Observe.f a0_0 a0_1 a0_2 a0_3 a1_1 a1_2).bind fun bt297 => (some (bt297.1, bt297.2.1, bt297.2.2.1, bt297.2.2.2)))) = some (r1, r2, r3, r4) := h
  clear h
  by_cases c3 : (Int.tmod a1_0 8) = 0
  · rw [if_pos c3] at H
    have c3b0 : ((Int.tmod a1_0 8) == 0) = true := beq_iff_eq.mpr c3
    have c3b1 : ((Int.tmod a1_0 8) != 0) = false := bne_eq_false_iff_eq.mpr c3
    clear c3
    replace H := Option.bind_eq_some_iff.mp H
    obtain ⟨⟨t293, t294, t295, t296⟩, A40, H⟩ := H
    replace H : (some (t293, t294, t295, t296)) = some (r1, r2, r3, r4) := H
    have A4 := Aside0.mk A40
    clear A40
    simp only [Option.some.injEq, Prod.mk.injEq] at H
    obtain ⟨rfl, rfl, rfl, rfl⟩ := H
    go_enter Try.func28, Try.ntmps28
    go_wp2_with (first | ((with_reducible refine gate_dst (N := 2) rfl ?_); refine box_event ?hg (N := 2) ?hd (cs := #[.bool a0_0, .bool a0_1, .int .i64 a0_2, .bool a0_3]) (t := 44) ?hr ?_; (case hd => rfl); (case hg => rfl); (case hr => first | (go_simp; done) | (go_simp; rfl)); intro gb290 hg w5 hbox hb; have n0_ := Aside0.mk (below_step (by repeat (first | (with_reducible first | exact HB.out | apply below_alloc | apply pw_below_drewN | apply below_drew1) | exact HB.out)) hb); have n1_ := Aside0.mk (hbox); have n2_ := Aside0.mk ((by rw [hg]; exact (below_size (by repeat (first | (with_reducible first | exact HB.out | apply below_alloc | apply pw_below_drewN | apply below_drew1) | exact HB.out))) : w.heap.size ≤ gb290)); have n3_ := Aside0.mk ((by rw [hg]; exact (below_size (by repeat (first | (with_reducible first | exact HB.out | apply below_alloc | apply pw_below_drewN | apply below_drew1) | exact HB.out))) : w.heap.size ≤ gb290)); clear HB; have HB := n0_; have BK290 := n1_; have GW290 := n2_; have GE290 := n3_; clear n0_ n1_ n2_ n3_; clear hb hbox hg) | ((with_reducible refine gate_dst (N := 3) rfl ?_); refine box_event ?hg (N := 3) ?hd (cs := #[.int .u8 a1_0, .bool a1_1, .bool a1_2]) (t := 47) ?hr ?_; (case hd => rfl); (case hg => rfl); (case hr => first | (go_simp; done) | (go_simp; rfl)); intro gb291 hg w6 hbox hb; have n0_ := Aside0.mk (blk_below (g := gb290) (o := .cells #[.bool a0_0, .bool a0_1, .int .i64 a0_2, .bool a0_3] 44 (0, 0)) (by (with_reducible repeat (first | refine blk_drewN ?_ _ | refine blk_drew ?_ | refine blk_alloc ?_ _)); exact BK290.out) hb); have n1_ := Aside0.mk (below_step (by repeat (first | (with_reducible first | exact HB.out | apply below_alloc | apply pw_below_drewN | apply below_drew1 | refine below_set ?_ GE290.out) | exact HB.out)) hb); have n2_ := Aside0.mk (hbox); have n3_ := Aside0.mk ((by rw [hg]; exact (below_size (by repeat (first | (with_reducible first | exact HB.out | apply below_alloc | apply pw_below_drewN | apply below_drew1 | refine below_set ?_ GE290.out) | exact HB.out))) : w.heap.size ≤ gb291)); have n4_ := Aside0.mk ((by rw [hg]; exact (below_size (by repeat (first | (with_reducible first | exact HB.out | apply below_alloc | apply pw_below_drewN | apply below_drew1 | refine below_set ?_ GE290.out) | exact HB.out))) : w.heap.size ≤ gb291)); have n5_ := Aside0.mk ((by rw [hg]; exact Nat.ne_of_lt (blk_lt (g := gb290) (o := .cells #[.bool a0_0, .bool a0_1, .int .i64 a0_2, .bool a0_3] 44 (0, 0)) (by (with_reducible repeat (first | refine blk_drewN ?_ _ | refine blk_drew ?_ | refine blk_alloc ?_ _)); exact BK290.out)) : gb290 ≠ gb291)); have n6_ := Aside0.mk ((by rw [hg]; exact Nat.ne_of_gt (blk_lt (g := gb290) (o := .cells #[.bool a0_0, .bool a0_1, .int .i64 a0_2, .bool a0_3] 44 (0, 0)) (by (with_reducible repeat (first | refine blk_drewN ?_ _ | refine blk_drew ?_ | refine blk_alloc ?_ _)); exact BK290.out)) : gb291 ≠ gb290)); clear BK290; clear HB; have BK290 := n0_; have HB := n1_; have BK291 := n2_; have GW291 := n3_; have GE291 := n4_; have NB290_291 := n5_; have NB291_290 := n6_; clear n0_ n1_ n2_ n3_ n4_ n5_ n6_; clear hb hbox hg) | ((with_reducible refine gate_dst (N := 4) rfl ?_); refine box_event ?hg (N := 4) ?hd (cs := #[.bool false, .bool false, .int .i64 0, .bool false]) (t := 44) ?hr ?_; (case hd => rfl); (case hg => rfl); (case hr => first | (go_simp; done) | (go_simp; rfl)); intro gb292 hg w7 hbox hb; have n0_ := Aside0.mk (blk_below (g := gb290) (o := .cells #[.bool a0_0, .bool a0_1, .int .i64 a0_2, .bool a0_3] 44 (0, 0)) (by (with_reducible repeat (first | refine blk_drewN ?_ _ | refine blk_drew ?_ | refine blk_alloc ?_ _)); exact BK290.out) hb); have n1_ := Aside0.mk (blk_below (g := gb291) (o := .cells #[.int .u8 a1_0, .bool a1_1, .bool a1_2] 47 (0, 0)) (by (with_reducible repeat (first | refine blk_drewN ?_ _ | refine blk_drew ?_ | refine blk_alloc ?_ _)); exact BK291.out) hb); have n2_ := Aside0.mk (below_step (by repeat (first | (with_reducible first | exact HB.out | apply below_alloc | apply pw_below_drewN | apply below_drew1 | refine below_set ?_ GE290.out | refine below_set ?_ GE291.out) | exact HB.out)) hb); have n3_ := Aside0.mk (hbox); have n4_ := Aside0.mk ((by rw [hg]; exact (below_size (by repeat (first | (with_reducible first | exact HB.out | apply below_alloc | apply pw_below_drewN | apply below_drew1 | refine below_set ?_ GE290.out | refine below_set ?_ GE291.out) | exact HB.out))) : w.heap.size ≤ gb292)); have n5_ := Aside0.mk ((by rw [hg]; exact (below_size (by repeat (first | (with_reducible first | exact HB.out | apply below_alloc | apply pw_below_drewN | apply below_drew1 | refine below_set ?_ GE290.out | refine below_set ?_ GE291.out) | exact HB.out))) : w.heap.size ≤ gb292)); have n6_ := Aside0.mk ((by rw [hg]; exact Nat.ne_of_lt (blk_lt (g := gb290) (o := .cells #[.bool a0_0, .bool a0_1, .int .i64 a0_2, .bool a0_3] 44 (0, 0)) (by (with_reducible repeat (first | refine blk_drewN ?_ _ | refine blk_drew ?_ | refine blk_alloc ?_ _)); exact BK290.out)) : gb290 ≠ gb292)); have n7_ := Aside0.mk ((by rw [hg]; exact Nat.ne_of_gt (blk_lt (g := gb290) (o := .cells #[.bool a0_0, .bool a0_1, .int .i64 a0_2, .bool a0_3] 44 (0, 0)) (by (with_reducible repeat (first | refine blk_drewN ?_ _ | refine blk_drew ?_ | refine blk_alloc ?_ _)); exact BK290.out)) : gb292 ≠ gb290)); have n8_ := Aside0.mk ((by rw [hg]; exact Nat.ne_of_lt (blk_lt (g := gb291) (o := .cells #[.int .u8 a1_0, .bool a1_1, .bool a1_2] 47 (0, 0)) (by (with_reducible repeat (first | refine blk_drewN ?_ _ | refine blk_drew ?_ | refine blk_alloc ?_ _)); exact BK291.out)) : gb291 ≠ gb292)); have n9_ := Aside0.mk ((by rw [hg]; exact Nat.ne_of_gt (blk_lt (g := gb291) (o := .cells #[.int .u8 a1_0, .bool a1_1, .bool a1_2] 47 (0, 0)) (by (with_reducible repeat (first | refine blk_drewN ?_ _ | refine blk_drew ?_ | refine blk_alloc ?_ _)); exact BK291.out)) : gb292 ≠ gb291)); clear BK290; clear BK291; clear HB; have BK290 := n0_; have BK291 := n1_; have HB := n2_; have BK292 := n3_; have GW292 := n4_; have GE292 := n5_; have NB290_292 := n6_; have NB292_290 := n7_; have NB291_292 := n8_; have NB292_291 := n9_; clear n0_ n1_ n2_ n3_ n4_ n5_ n6_ n7_ n8_ n9_; clear hb hbox hg; have hnb8 := NB291_290.out; have hnc8 := NB290_291.out; have hnb9 := NB291_292.out; have hnc9 := NB292_291.out; have hcz10_0 : w7.cell? ⟨gb291, 0, none⟩ = some (.int .u8 a1_0) := (blk_cell BK291.out 0).trans rfl; have hcz10_1 : w7.cell? ⟨gb291, 1, none⟩ = some (.bool a1_1) := (blk_cell BK291.out 1).trans rfl; have hcz10_2 : w7.cell? ⟨gb291, 2, none⟩ = some (.bool a1_2) := (blk_cell BK291.out 2).trans rfl; have hfz10_0 := blk_frozen BK291.out 0; have hfz10_1 := blk_frozen BK291.out 1; have hfz10_2 := blk_frozen BK291.out 2; have hnb11 := NB290_292.out; have hnc11 := NB292_290.out; have hcz12_0 : w7.cell? ⟨gb290, 0, none⟩ = some (.bool a0_0) := (blk_cell BK290.out 0).trans rfl; have hcz12_1 : w7.cell? ⟨gb290, 1, none⟩ = some (.bool a0_1) := (blk_cell BK290.out 1).trans rfl; have hcz12_2 : w7.cell? ⟨gb290, 2, none⟩ = some (.int .i64 a0_2) := (blk_cell BK290.out 2).trans rfl; have hcz12_3 : w7.cell? ⟨gb290, 3, none⟩ = some (.bool a0_3) := (blk_cell BK290.out 3).trans rfl; have hfz12_0 := blk_frozen BK290.out 0; have hfz12_1 := blk_frozen BK290.out 1; have hfz12_2 := blk_frozen BK290.out 2; have hfz12_3 := blk_frozen BK290.out 3) | ((with_reducible refine gate_callee (f := 34) rfl ?_); refine goesL_ (some 10) rfl rfl Try.func34 (by kernel_rfl) rfl #[.agg #[.bool a0_0, .bool a0_1, .int .i64 a0_2, .bool a0_3]] rfl (by (try simp only [List.map_toArray, List.map_cons, List.map_nil]); first | done | rfl | (simp only [List.length_drop, List.length_take]; rfl)) ?_; (with_reducible refine (dualchannel_Reset.calls a0_0 a0_1 a0_2 a0_3 t293 t294 t295 t296 _ A4.out).mono ?_); rintro e w13 ⟨rfl, hb⟩; refine ⟨_, rfl, ?_⟩; have n0_ := Aside0.mk (blk_below (g := gb290) (o := .cells #[.bool a0_0, .bool a0_1, .int .i64 a0_2, .bool a0_3] 44 (0, 0)) (by (with_reducible repeat (first | refine blk_drewN ?_ _ | refine blk_drew ?_ | refine blk_alloc ?_ _)); exact BK290.out) hb); have n1_ := Aside0.mk (blk_below (g := gb291) (o := .cells #[.int .u8 a1_0, .bool a1_1, .bool a1_2] 47 (0, 0)) (by (with_reducible repeat (first | refine blk_drewN ?_ _ | refine blk_drew ?_ | refine blk_alloc ?_ _)); exact BK291.out) hb); have n2_ := Aside0.mk (blk_below (g := gb292) (o := .cells #[.bool false, .bool false, .int .i64 0, .bool false] 44 (0, 0)) (by (with_reducible repeat (first | refine blk_drewN ?_ _ | refine blk_drew ?_ | refine blk_alloc ?_ _)); exact BK292.out) hb); have n3_ := Aside0.mk (below_step (by repeat (first | (with_reducible first | exact HB.out | apply below_alloc | apply pw_below_drewN | apply below_drew1 | refine below_set ?_ GE290.out | refine below_set ?_ GE291.out | refine below_set ?_ GE292.out) | exact HB.out)) hb); clear BK290; clear BK291; clear BK292; clear HB; have BK290 := n0_; have BK291 := n1_; have BK292 := n2_; have HB := n3_; clear n0_ n1_ n2_ n3_; (try clear hb); (try clear hb2); (try clear hk); (try clear hi); have hcz14_0 : w13.cell? ⟨gb292, 0, none⟩ = some (.bool false) := (blk_cell BK292.out 0).trans rfl; have hcz14_1 : w13.cell? ⟨gb292, 1, none⟩ = some (.bool false) := (blk_cell BK292.out 1).trans rfl; have hcz14_2 : w13.cell? ⟨gb292, 2, none⟩ = some (.int .i64 0) := (blk_cell BK292.out 2).trans rfl; have hcz14_3 : w13.cell? ⟨gb292, 3, none⟩ = some (.bool false) := (blk_cell BK292.out 3).trans rfl; have hfz14_0 := blk_frozen BK292.out 0; have hfz14_1 := blk_frozen BK292.out 1; have hfz14_2 := blk_frozen BK292.out 2; have hfz14_3 := blk_frozen BK292.out 3))
    refine bodyPost_ret (results_cell_row rfl _ _ gb292 44 #[.bool t293, .bool t294, .int .i64 t295, .bool t296] (0, 0) _ rfl (by (with_reducible repeat (first | refine blk_drewN ?_ _ | refine blk_drew ?_ | refine blk_alloc ?_ _)); refine blk_put (cs := #[.bool t293, .bool t294, .int .i64 t295, .bool false]) ?_ 3 _ rfl; (with_reducible repeat (first | refine blk_drewN ?_ _ | refine blk_drew ?_ | refine blk_alloc ?_ _)); refine blk_put (cs := #[.bool t293, .bool t294, .int .i64 0, .bool false]) ?_ 2 _ rfl; (with_reducible repeat (first | refine blk_drewN ?_ _ | refine blk_drew ?_ | refine blk_alloc ?_ _)); refine blk_put (cs := #[.bool t293, .bool false, .int .i64 0, .bool false]) ?_ 1 _ rfl; (with_reducible repeat (first | refine blk_drewN ?_ _ | refine blk_drew ?_ | refine blk_alloc ?_ _)); refine blk_put (cs := #[.bool false, .bool false, .int .i64 0, .bool false]) ?_ 0 _ rfl; (with_reducible repeat (first | refine blk_drewN ?_ _ | refine blk_drew ?_ | refine blk_alloc ?_ _)); exact BK292.out) Try.underlying44 rfl (by kernel_rfl)) rfl ?_
    exact ⟨by first | rfl | (simp [errW_none, errW_some] <;> rfl) | (simp [*, errW_none, errW_some] <;> rfl), by repeat (first | (with_reducible first | exact HB.out | apply below_alloc | apply pw_below_drewN | apply below_drew1 | refine below_set ?_ GE290.out | refine below_set ?_ GE291.out | refine below_set ?_ GE292.out) | exact HB.out)⟩
  · rw [if_neg c3] at H
    have c3b0 : ((Int.tmod a1_0 8) == 0) = false := beq_eq_false_iff_ne.mpr c3
    have c3b1 : ((Int.tmod a1_0 8) != 0) = true := bne_iff_ne.mpr c3
    replace H := Option.bind_eq_some_iff.mp H
    obtain ⟨⟨t297, t298, t299, t300⟩, A150, H⟩ := H
    replace H : (some (t297, t298, t299, t300)) = some (r1, r2, r3, r4) := H
    have A15 := Aside0.mk A150
    clear A150
    simp only [Option.some.injEq, Prod.mk.injEq] at H
    obtain ⟨rfl, rfl, rfl, rfl⟩ := H
    go_enter Try.func28, Try.ntmps28
    go_wp2_with (first | ((with_reducible refine gate_dst (N := 2) rfl ?_); refine box_event ?hg (N := 2) ?hd (cs := #[.bool a0_0, .bool a0_1, .int .i64 a0_2, .bool a0_3]) (t := 44) ?hr ?_; (case hd => rfl); (case hg => rfl); (case hr => first | (go_simp; done) | (go_simp; rfl)); intro gb290 hg w16 hbox hb; have n0_ := Aside0.mk (below_step (by repeat (first | (with_reducible first | exact HB.out | apply below_alloc | apply pw_below_drewN | apply below_drew1) | exact HB.out)) hb); have n1_ := Aside0.mk (hbox); have n2_ := Aside0.mk ((by rw [hg]; exact (below_size (by repeat (first | (with_reducible first | exact HB.out | apply below_alloc | apply pw_below_drewN | apply below_drew1) | exact HB.out))) : w.heap.size ≤ gb290)); have n3_ := Aside0.mk ((by rw [hg]; exact (below_size (by repeat (first | (with_reducible first | exact HB.out | apply below_alloc | apply pw_below_drewN | apply below_drew1) | exact HB.out))) : w.heap.size ≤ gb290)); clear HB; have HB := n0_; have BK290 := n1_; have GW290 := n2_; have GE290 := n3_; clear n0_ n1_ n2_ n3_; clear hb hbox hg) | ((with_reducible refine gate_dst (N := 3) rfl ?_); refine box_event ?hg (N := 3) ?hd (cs := #[.int .u8 a1_0, .bool a1_1, .bool a1_2]) (t := 47) ?hr ?_; (case hd => rfl); (case hg => rfl); (case hr => first | (go_simp; done) | (go_simp; rfl)); intro gb291 hg w17 hbox hb; have n0_ := Aside0.mk (blk_below (g := gb290) (o := .cells #[.bool a0_0, .bool a0_1, .int .i64 a0_2, .bool a0_3] 44 (0, 0)) (by (with_reducible repeat (first | refine blk_drewN ?_ _ | refine blk_drew ?_ | refine blk_alloc ?_ _)); exact BK290.out) hb); have n1_ := Aside0.mk (below_step (by repeat (first | (with_reducible first | exact HB.out | apply below_alloc | apply pw_below_drewN | apply below_drew1 | refine below_set ?_ GE290.out) | exact HB.out)) hb); have n2_ := Aside0.mk (hbox); have n3_ := Aside0.mk ((by rw [hg]; exact (below_size (by repeat (first | (with_reducible first | exact HB.out | apply below_alloc | apply pw_below_drewN | apply below_drew1 | refine below_set ?_ GE290.out) | exact HB.out))) : w.heap.size ≤ gb291)); have n4_ := Aside0.mk ((by rw [hg]; exact (below_size (by repeat (first | (with_reducible first | exact HB.out | apply below_alloc | apply pw_below_drewN | apply below_drew1 | refine below_set ?_ GE290.out) | exact HB.out))) : w.heap.size ≤ gb291)); have n5_ := Aside0.mk ((by rw [hg]; exact Nat.ne_of_lt (blk_lt (g := gb290) (o := .cells #[.bool a0_0, .bool a0_1, .int .i64 a0_2, .bool a0_3] 44 (0, 0)) (by (with_reducible repeat (first | refine blk_drewN ?_ _ | refine blk_drew ?_ | refine blk_alloc ?_ _)); exact BK290.out)) : gb290 ≠ gb291)); have n6_ := Aside0.mk ((by rw [hg]; exact Nat.ne_of_gt (blk_lt (g := gb290) (o := .cells #[.bool a0_0, .bool a0_1, .int .i64 a0_2, .bool a0_3] 44 (0, 0)) (by (with_reducible repeat (first | refine blk_drewN ?_ _ | refine blk_drew ?_ | refine blk_alloc ?_ _)); exact BK290.out)) : gb291 ≠ gb290)); clear BK290; clear HB; have BK290 := n0_; have HB := n1_; have BK291 := n2_; have GW291 := n3_; have GE291 := n4_; have NB290_291 := n5_; have NB291_290 := n6_; clear n0_ n1_ n2_ n3_ n4_ n5_ n6_; clear hb hbox hg) | ((with_reducible refine gate_dst (N := 4) rfl ?_); refine box_event ?hg (N := 4) ?hd (cs := #[.bool false, .bool false, .int .i64 0, .bool false]) (t := 44) ?hr ?_; (case hd => rfl); (case hg => rfl); (case hr => first | (go_simp; done) | (go_simp; rfl)); intro gb292 hg w18 hbox hb; have n0_ := Aside0.mk (blk_below (g := gb290) (o := .cells #[.bool a0_0, .bool a0_1, .int .i64 a0_2, .bool a0_3] 44 (0, 0)) (by (with_reducible repeat (first | refine blk_drewN ?_ _ | refine blk_drew ?_ | refine blk_alloc ?_ _)); exact BK290.out) hb); have n1_ := Aside0.mk (blk_below (g := gb291) (o := .cells #[.int .u8 a1_0, .bool a1_1, .bool a1_2] 47 (0, 0)) (by (with_reducible repeat (first | refine blk_drewN ?_ _ | refine blk_drew ?_ | refine blk_alloc ?_ _)); exact BK291.out) hb); have n2_ := Aside0.mk (below_step (by repeat (first | (with_reducible first | exact HB.out | apply below_alloc | apply pw_below_drewN | apply below_drew1 | refine below_set ?_ GE290.out | refine below_set ?_ GE291.out) | exact HB.out)) hb); have n3_ := Aside0.mk (hbox); have n4_ := Aside0.mk ((by rw [hg]; exact (below_size (by repeat (first | (with_reducible first | exact HB.out | apply below_alloc | apply pw_below_drewN | apply below_drew1 | refine below_set ?_ GE290.out | refine below_set ?_ GE291.out) | exact HB.out))) : w.heap.size ≤ gb292)); have n5_ := Aside0.mk ((by rw [hg]; exact (below_size (by repeat (first | (with_reducible first | exact HB.out | apply below_alloc | apply pw_below_drewN | apply below_drew1 | refine below_set ?_ GE290.out | refine below_set ?_ GE291.out) | exact HB.out))) : w.heap.size ≤ gb292)); have n6_ := Aside0.mk ((by rw [hg]; exact Nat.ne_of_lt (blk_lt (g := gb290) (o := .cells #[.bool a0_0, .bool a0_1, .int .i64 a0_2, .bool a0_3] 44 (0, 0)) (by (with_reducible repeat (first | refine blk_drewN ?_ _ | refine blk_drew ?_ | refine blk_alloc ?_ _)); exact BK290.out)) : gb290 ≠ gb292)); have n7_ := Aside0.mk ((by rw [hg]; exact Nat.ne_of_gt (blk_lt (g := gb290) (o := .cells #[.bool a0_0, .bool a0_1, .int .i64 a0_2, .bool a0_3] 44 (0, 0)) (by (with_reducible repeat (first | refine blk_drewN ?_ _ | refine blk_drew ?_ | refine blk_alloc ?_ _)); exact BK290.out)) : gb292 ≠ gb290)); have n8_ := Aside0.mk ((by rw [hg]; exact Nat.ne_of_lt (blk_lt (g := gb291) (o := .cells #[.int .u8 a1_0, .bool a1_1, .bool a1_2] 47 (0, 0)) (by (with_reducible repeat (first | refine blk_drewN ?_ _ | refine blk_drew ?_ | refine blk_alloc ?_ _)); exact BK291.out)) : gb291 ≠ gb292)); have n9_ := Aside0.mk ((by rw [hg]; exact Nat.ne_of_gt (blk_lt (g := gb291) (o := .cells #[.int .u8 a1_0, .bool a1_1, .bool a1_2] 47 (0, 0)) (by (with_reducible repeat (first | refine blk_drewN ?_ _ | refine blk_drew ?_ | refine blk_alloc ?_ _)); exact BK291.out)) : gb292 ≠ gb291)); clear BK290; clear BK291; clear HB; have BK290 := n0_; have BK291 := n1_; have HB := n2_; have BK292 := n3_; have GW292 := n4_; have GE292 := n5_; have NB290_292 := n6_; have NB292_290 := n7_; have NB291_292 := n8_; have NB292_291 := n9_; clear n0_ n1_ n2_ n3_ n4_ n5_ n6_ n7_ n8_ n9_; clear hb hbox hg; have hnb19 := NB291_290.out; have hnc19 := NB290_291.out; have hnb20 := NB291_292.out; have hnc20 := NB292_291.out; have hcz21_0 : w18.cell? ⟨gb291, 0, none⟩ = some (.int .u8 a1_0) := (blk_cell BK291.out 0).trans rfl; have hcz21_1 : w18.cell? ⟨gb291, 1, none⟩ = some (.bool a1_1) := (blk_cell BK291.out 1).trans rfl; have hcz21_2 : w18.cell? ⟨gb291, 2, none⟩ = some (.bool a1_2) := (blk_cell BK291.out 2).trans rfl; have hfz21_0 := blk_frozen BK291.out 0; have hfz21_1 := blk_frozen BK291.out 1; have hfz21_2 := blk_frozen BK291.out 2; have hnb22 := NB290_292.out; have hnc22 := NB292_290.out; have hcz23_0 : w18.cell? ⟨gb290, 0, none⟩ = some (.bool a0_0) := (blk_cell BK290.out 0).trans rfl; have hcz23_1 : w18.cell? ⟨gb290, 1, none⟩ = some (.bool a0_1) := (blk_cell BK290.out 1).trans rfl; have hcz23_2 : w18.cell? ⟨gb290, 2, none⟩ = some (.int .i64 a0_2) := (blk_cell BK290.out 2).trans rfl; have hcz23_3 : w18.cell? ⟨gb290, 3, none⟩ = some (.bool a0_3) := (blk_cell BK290.out 3).trans rfl; have hfz23_0 := blk_frozen BK290.out 0; have hfz23_1 := blk_frozen BK290.out 1; have hfz23_2 := blk_frozen BK290.out 2; have hfz23_3 := blk_frozen BK290.out 3) | ((with_reducible refine gate_callee (f := 35) rfl ?_); refine goesL_ (some 16) rfl rfl Try.func35 (by kernel_rfl) rfl #[.agg #[.bool a0_0, .bool a0_1, .int .i64 a0_2, .bool a0_3], .bool a1_1, .bool a1_2] rfl (by (try simp only [List.map_toArray, List.map_cons, List.map_nil]); first | done | rfl | (simp only [List.length_drop, List.length_take]; rfl)) ?_; (with_reducible refine (dualchannel_Observe.calls a0_0 a0_1 a0_2 a0_3 a1_1 a1_2 t297 t298 t299 t300 _ A15.out).mono ?_); rintro e w24 ⟨rfl, hb⟩; refine ⟨_, rfl, ?_⟩; have n0_ := Aside0.mk (blk_below (g := gb290) (o := .cells #[.bool a0_0, .bool a0_1, .int .i64 a0_2, .bool a0_3] 44 (0, 0)) (by (with_reducible repeat (first | refine blk_drewN ?_ _ | refine blk_drew ?_ | refine blk_alloc ?_ _)); exact BK290.out) hb); have n1_ := Aside0.mk (blk_below (g := gb291) (o := .cells #[.int .u8 a1_0, .bool a1_1, .bool a1_2] 47 (0, 0)) (by (with_reducible repeat (first | refine blk_drewN ?_ _ | refine blk_drew ?_ | refine blk_alloc ?_ _)); exact BK291.out) hb); have n2_ := Aside0.mk (blk_below (g := gb292) (o := .cells #[.bool false, .bool false, .int .i64 0, .bool false] 44 (0, 0)) (by (with_reducible repeat (first | refine blk_drewN ?_ _ | refine blk_drew ?_ | refine blk_alloc ?_ _)); exact BK292.out) hb); have n3_ := Aside0.mk (below_step (by repeat (first | (with_reducible first | exact HB.out | apply below_alloc | apply pw_below_drewN | apply below_drew1 | refine below_set ?_ GE290.out | refine below_set ?_ GE291.out | refine below_set ?_ GE292.out) | exact HB.out)) hb); clear BK290; clear BK291; clear BK292; clear HB; have BK290 := n0_; have BK291 := n1_; have BK292 := n2_; have HB := n3_; clear n0_ n1_ n2_ n3_; (try clear hb); (try clear hb2); (try clear hk); (try clear hi); have hcz25_0 : w24.cell? ⟨gb292, 0, none⟩ = some (.bool false) := (blk_cell BK292.out 0).trans rfl; have hcz25_1 : w24.cell? ⟨gb292, 1, none⟩ = some (.bool false) := (blk_cell BK292.out 1).trans rfl; have hcz25_2 : w24.cell? ⟨gb292, 2, none⟩ = some (.int .i64 0) := (blk_cell BK292.out 2).trans rfl; have hcz25_3 : w24.cell? ⟨gb292, 3, none⟩ = some (.bool false) := (blk_cell BK292.out 3).trans rfl; have hfz25_0 := blk_frozen BK292.out 0; have hfz25_1 := blk_frozen BK292.out 1; have hfz25_2 := blk_frozen BK292.out 2; have hfz25_3 := blk_frozen BK292.out 3))
    refine bodyPost_ret (results_cell_row rfl _ _ gb292 44 #[.bool t297, .bool t298, .int .i64 t299, .bool t300] (0, 0) _ rfl (by (with_reducible repeat (first | refine blk_drewN ?_ _ | refine blk_drew ?_ | refine blk_alloc ?_ _)); refine blk_put (cs := #[.bool t297, .bool t298, .int .i64 t299, .bool false]) ?_ 3 _ rfl; (with_reducible repeat (first | refine blk_drewN ?_ _ | refine blk_drew ?_ | refine blk_alloc ?_ _)); refine blk_put (cs := #[.bool t297, .bool t298, .int .i64 0, .bool false]) ?_ 2 _ rfl; (with_reducible repeat (first | refine blk_drewN ?_ _ | refine blk_drew ?_ | refine blk_alloc ?_ _)); refine blk_put (cs := #[.bool t297, .bool false, .int .i64 0, .bool false]) ?_ 1 _ rfl; (with_reducible repeat (first | refine blk_drewN ?_ _ | refine blk_drew ?_ | refine blk_alloc ?_ _)); refine blk_put (cs := #[.bool false, .bool false, .int .i64 0, .bool false]) ?_ 0 _ rfl; (with_reducible repeat (first | refine blk_drewN ?_ _ | refine blk_drew ?_ | refine blk_alloc ?_ _)); exact BK292.out) Try.underlying44 rfl (by kernel_rfl)) rfl ?_
    exact ⟨by first | rfl | (simp [errW_none, errW_some] <;> rfl) | (simp [*, errW_none, errW_some] <;> rfl), by repeat (first | (with_reducible first | exact HB.out | apply below_alloc | apply pw_below_drewN | apply below_drew1 | refine below_set ?_ GE290.out | refine below_set ?_ GE291.out | refine below_set ?_ GE292.out) | exact HB.out)⟩

end Go.Proofs.Ythnbcedpdjingaa.P
