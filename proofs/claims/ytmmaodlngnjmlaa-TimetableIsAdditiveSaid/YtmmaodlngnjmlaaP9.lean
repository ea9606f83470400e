-- Written by this session's own program, for this seat. Lean checks it.
import Derived.Test.YtmmaodlngnjmlaaP0
import Derived.Test.YtmmaodlngnjmlaaP1
import Derived.Test.YtmmaodlngnjmlaaXShorts
import Derived.Test.YtmmaodlngnjmlaaXShort2
import Derived.Test.YtmmaodlngnjmlaaXShort3
namespace Go.Proofs.Ytmmaodlngnjmlaa.P
open Go.RowKit Go.Proofs.YtmmaodlngnjmlaaW.PrintWords Go.Proofs.YtmmaodlngnjmlaaW.PrintLast Go.Proofs.YtmmaodlngnjmlaaW.PrintMore
attribute [local go_sem] max2_int min2_int max_two min_two max_three min_three max_four min_four   -- for this text's walks alone
set_option linter.unusedVariables false
set_option linter.unusedSimpArgs false

attribute [local go_sem high] eqA63

/-! ### ambidexterref22_Same: function 71 -/
def ambidexterref22_Same.l0 : Nat → List Int → List Int → Int → Option (Bool)
 | 0, _, _, _ => none
 | k + 1, x0, x1, x5 => if x5 < (x0.length : Int) then (if 0 ≤ x5 then (if x5 < (x1.length : Int) then (if (rd x0 x5) = (rd x1 x5) then (ambidexterref22_Same.l0 k x0 x1 (wrap64 (x5 + 1))) else (some false)) else (none)) else (none)) else (some true)
def ambidexterref22_Same.f (k : Nat) (l0 : List Int) (l1 : List Int) : Option (Bool) := if (l0.length : Int) = (l1.length : Int) then (ambidexterref22_Same.l0 k l0 l1 0) else (some false)
theorem ambidexterref22_Same.mono_l : ∀ k, (∀ y0 y1 y2, LeO (ambidexterref22_Same.l0 k y0 y1 y2) (ambidexterref22_Same.l0 (k + 1) y0 y1 y2))
 | 0 => fun _ _ _ r h => by simp [ambidexterref22_Same.l0] at h
 | k + 1 => by
  have ih0 := ambidexterref22_Same.mono_l k
  ·
   intro y0 y1 y2
   unfold ambidexterref22_Same.l0
   repeat' first
   | (with_reducible exact ih0 _ _ _)
   | (with_reducible exact LeO.refl _)
   | (with_reducible exact LeO.none _)
   | (with_reducible refine LeO.ite ?_ ?_)
   | (with_reducible refine LeO.bind ?_ (fun _ => ?_))
   | exact ih0 _ _ _
   | exact LeO.none _
   | refine LeO.ite ?_ ?_
   | refine LeO.bind ?_ (fun _ => ?_)
theorem ambidexterref22_Same.mono : ∀ a0 a1 k, LeO (ambidexterref22_Same.f k a0 a1) (ambidexterref22_Same.f (k + 1) a0 a1) := by
 intro a0 a1 k
 have ih0 := ambidexterref22_Same.mono_l k
 unfold ambidexterref22_Same.f
 repeat' first
   | (with_reducible exact ih0 _ _ _)
   | (with_reducible exact LeO.refl _)
   | (with_reducible exact LeO.none _)
   | (with_reducible refine LeO.ite ?_ ?_)
   | (with_reducible refine LeO.bind ?_ (fun _ => ?_))
   | exact ih0 _ _ _
   | exact LeO.none _
   | refine LeO.ite ?_ ?_
   | refine LeO.bind ?_ (fun _ => ?_)
set_option maxHeartbeats 8000000 in
set_option maxRecDepth 100000 in
theorem ambidexterref22_Same.calls (k : Nat) (A0 : Option Addr) (c0 : Nat) (l0 : List Int) (A1 : Option Addr) (c1 : Nat) (l1 : List Int) (r : Bool) (w : World) (hr0 : Kd.C (Kd.int .i64) w A0 l0.length l0) (hc0 : l0.length ≤ c0) (hr1 : Kd.C (Kd.int .i64) w A1 l1.length l1) (hc1 : l1.length ≤ c1) (h : ambidexterref22_Same.f k l0 l1 = some r) :
  Calls Try.prog 71 #[.slice A0 l0.length c0, .slice A1 l1.length c1] w fun e w' => e = .returned (.bool r) ∧ Drawn0 w w' := by
 have HR0 := Aside0.mk hr0
 have HC0 := Aside0.mk hc0
 clear hr0 hc0
 have HR1 := Aside0.mk hr1
 have HC1 := Aside0.mk hc1
 clear hr1 hc1
 have H : (if (l0.length : Int) = (l1.length : Int) then (ambidexterref22_Same.l0 k l0 l1 0) else (some false)) = some r := h
 clear h
 by_cases c3 : (l0.length : Int) = (l1.length : Int)
 case neg =>
  rw [if_neg c3] at H
  have c3b0 : ((l0.length : Int) == (l1.length : Int)) = false := beq_eq_false_iff_ne.mpr c3
  have c3b1 : ((l0.length : Int) != (l1.length : Int)) = true := bne_iff_ne.mpr c3
  have c3b2 : (l0.length == l1.length) = false := by first | simpa using c3 | (simp at c3 ⊢; omega)
  obtain rfl := Option.some.inj H
  go_enter Try.func71, Try.ntmps71
  go_wp2
  repeat (go_quiet (fail); try go_wp2)
  go_ret
  exact ⟨by first | rfl | (simp; done) | (simp [*]; done), by repeat (first | exact Drawn0.refl _ | apply Drawn0.step)⟩

 rw [if_pos c3] at H
 have c3b0 : ((l0.length : Int) == (l1.length : Int)) = true := beq_iff_eq.mpr c3
 have c3b1 : ((l0.length : Int) != (l1.length : Int)) = false := bne_eq_false_iff_eq.mpr c3
 have c3b2 : (l0.length == l1.length) = true := by first | simpa using c3 | (simp at c3 ⊢; omega)
 clear c3
 have H' := Aside0.mk H
 clear H
 go_enter Try.func71, Try.ntmps71
 go_wp2
 repeat (go_quiet (fail); try go_wp2)
 go_loopg [5] k (fun kq v5 w' => ∃ (x5_1 : Int), v5 = .int .i64 x5_1 ∧ Aside0 (ambidexterref22_Same.l0 kq l0 l1 x5_1 = some r) ∧ Aside0 (kq ≤ k) ∧ Drawn0 w w')
 case atStart => exact ⟨(0), (by first | rfl | (simp; done) | (simp [*]; done)), H', ⟨Nat.le_refl _⟩, by repeat (first | exact Drawn0.refl _ | apply Drawn0.step)⟩
 case round =>
  clear H'
  (try clear c1); (try clear p2); (try clear c3); (try clear c3b0); (try clear c3b1); (try clear c3b2)
  obtain ⟨x5_1, rfl, HA, HK1, ⟨m1, rfl⟩⟩ := hrel
  cases gk with
  | zero => exact absurd HA.out (by simp [ambidexterref22_Same.l0])
  | succ k1 =>
   have H := HA.out
   clear HA
   simp only [ambidexterref22_Same.l0] at H
   by_cases c4 : x5_1 < (l0.length : Int)
   case neg =>
    rw [if_neg c4] at H
    have c4b0 : decide (x5_1 < (l0.length : Int)) = false := decide_eq_false c4
    clear c4
    obtain rfl := Option.some.inj H
    go_wp2
    repeat (go_quiet (fail); try go_wp2)
    go_ret
    exact ⟨by first | rfl | (simp; done) | (simp [*]; done), by repeat (first | exact Drawn0.refl _ | apply Drawn0.step)⟩
   rw [if_pos c4] at H
   have c4b0 : decide (x5_1 < (l0.length : Int)) = true := decide_eq_true c4
   clear c4
   by_cases c5 : 0 ≤ x5_1
   case neg =>
    rw [if_neg c5] at H
    exact absurd H (by simp)
   rw [if_pos c5] at H
   have c5b0 : decide (0 ≤ x5_1) = true := decide_eq_true c5
   clear c5
   by_cases c6 : x5_1 < (l1.length : Int)
   case neg =>
    rw [if_neg c6] at H
    exact absurd H (by simp)
   rw [if_pos c6] at H
   have c6b0 : decide (x5_1 < (l1.length : Int)) = true := decide_eq_true c6
   clear c6
   by_cases c7 : (rd l0 x5_1) = (rd l1 x5_1)
   case neg =>
    rw [if_neg c7] at H
    have c7b0 : ((rd l0 x5_1) == (rd l1 x5_1)) = false := beq_eq_false_iff_ne.mpr c7
    have c7b1 : ((rd l0 x5_1) != (rd l1 x5_1)) = true := bne_iff_ne.mpr c7
    obtain rfl := Option.some.inj H
    have p303 : 0 ≤ (x5_1 : Int) := od_
    have q303 : x5_1 < (l0.length : Int) := od_
    obtain ⟨ad303, e303, hx303_0⟩ := Kd.at_int HR0.out x5_1 p303 q303
    cases e303
    replace p303 := eq_true p303
    replace q303 := eq_true q303
    have p304 : 0 ≤ (x5_1 : Int) := od_
    have q304 : x5_1 < (l1.length : Int) := od_
    obtain ⟨ad304, e304, hx304_0⟩ := Kd.at_int HR1.out x5_1 p304 q304
    cases e304
    replace p304 := eq_true p304
    replace q304 := eq_true q304
    go_wp2
    repeat (go_quiet (fail); try go_wp2)
    go_ret
    exact ⟨by first | rfl | (simp; done) | (simp [*]; done), by repeat (first | exact Drawn0.refl _ | apply Drawn0.step)⟩
   rw [if_pos c7] at H
   have c7b0 : ((rd l0 x5_1) == (rd l1 x5_1)) = true := beq_iff_eq.mpr c7
   have c7b1 : ((rd l0 x5_1) != (rd l1 x5_1)) = false := bne_eq_false_iff_eq.mpr c7
   clear c7
   have H' := Aside0.mk H
   clear H
   have p303 : 0 ≤ (x5_1 : Int) := od_
   have q303 : x5_1 < (l0.length : Int) := od_
   obtain ⟨ad303, e303, hx303_0⟩ := Kd.at_int HR0.out x5_1 p303 q303
   cases e303
   replace p303 := eq_true p303
   replace q303 := eq_true q303
   have p304 : 0 ≤ (x5_1 : Int) := od_
   have q304 : x5_1 < (l1.length : Int) := od_
   obtain ⟨ad304, e304, hx304_0⟩ := Kd.at_int HR1.out x5_1 p304 q304
   cases e304
   replace p304 := eq_true p304
   replace q304 := eq_true q304
   go_wp2
   repeat (go_quiet (fail); try go_wp2)
   go_roundg k1
   case measure => have := HK1.out; omega
   case rel => exact ⟨(wrap64 (x5_1 + 1)), (by first | rfl | (simp; done) | (simp [*]; done)), H', ⟨by have := HK1.out; omega⟩, by repeat (first | exact Drawn0.refl _ | apply Drawn0.step)⟩
attribute [local go_sem high] eqA65

/-! ### ambidexterref23_Same: function 35 -/
def ambidexterref23_Same.l0 : Nat → List (S67) → List (S67) → Int → Option (Bool)
 | 0, _, _, _ => none
 | k + 1, x0, x1, x5 => if x5 < (x0.length : Int) then (if 0 ≤ x5 then (if x5 < (x1.length : Int) then (if ((!(((rd_T67 x0 x5).f0.f0.f0) == ((rd_T67 x1 x5).f0.f0.f0)) || (!(((rd_T67 x0 x5).f0.f0.f1) == ((rd_T67 x1 x5).f0.f0.f1)) || (!(((rd_T67 x0 x5).f0.f0.f2) == ((rd_T67 x1 x5).f0.f0.f2))))) || (!(((rd_T67 x0 x5).f0.f1) == ((rd_T67 x1 x5).f0.f1)))) = true then (some false) else (if ((rd_T67 x0 x5).f1) = ((rd_T67 x1 x5).f1) then ((ambidexterref22_Same.f k ((rd_T67 x0 x5).f2) ((rd_T67 x1 x5).f2)).bind fun t311 => (if t311 = true then (ambidexterref23_Same.l0 k x0 x1 (wrap64 (x5 + 1))) else (some false))) else (some false))) else (none)) else (none)) else (some true)
def ambidexterref23_Same.f (k : Nat) (l0 : List (S67)) (l1 : List (S67)) : Option (Bool) := if (l0.length : Int) = (l1.length : Int) then (ambidexterref23_Same.l0 k l0 l1 0) else (some false)
theorem ambidexterref23_Same.mono_l : ∀ k, (∀ y0 y1 y2, LeO (ambidexterref23_Same.l0 k y0 y1 y2) (ambidexterref23_Same.l0 (k + 1) y0 y1 y2))
 | 0 => fun _ _ _ r h => by simp [ambidexterref23_Same.l0] at h
 | k + 1 => by
  have ih0 := ambidexterref23_Same.mono_l k
  ·
   intro y0 y1 y2
   unfold ambidexterref23_Same.l0
   repeat' first
   | (with_reducible exact ih0 _ _ _)
   | (with_reducible exact ambidexterref22_Same.mono _ _ _)
   | (with_reducible exact LeO.refl _)
   | (with_reducible exact LeO.none _)
   | (with_reducible refine LeO.ite ?_ ?_)
   | (with_reducible refine LeO.bind ?_ (fun _ => ?_))
   | exact ih0 _ _ _
   | exact ambidexterref22_Same.mono _ _ _
   | exact LeO.none _
   | refine LeO.ite ?_ ?_
   | refine LeO.bind ?_ (fun _ => ?_)
theorem ambidexterref23_Same.mono : ∀ a0 a1 k, LeO (ambidexterref23_Same.f k a0 a1) (ambidexterref23_Same.f (k + 1) a0 a1) := by
 intro a0 a1 k
 have ih0 := ambidexterref23_Same.mono_l k
 unfold ambidexterref23_Same.f
 repeat' first
   | (with_reducible exact ih0 _ _ _)
   | (with_reducible exact ambidexterref22_Same.mono _ _ _)
   | (with_reducible exact LeO.refl _)
   | (with_reducible exact LeO.none _)
   | (with_reducible refine LeO.ite ?_ ?_)
   | (with_reducible refine LeO.bind ?_ (fun _ => ?_))
   | exact ih0 _ _ _
   | exact ambidexterref22_Same.mono _ _ _
   | exact LeO.none _
   | refine LeO.ite ?_ ?_
   | refine LeO.bind ?_ (fun _ => ?_)
def ambidexterref23_Same.T6 : Bool × List (List Nat × List Nat) := (true, [([], []), ([], []), ([0, 1], [0, 1]), ([2], [2]), ([3], [3]), ([], []), ([], []), ([5, 6], [5, 6]), ([7], [7]), ([8], [8]), ([4, 9], [4, 9]), ([10], [10]), ([11], [11]), ([11], [11]), ([12, 13, 11], [11, 12, 13]), ([14, 11], [11, 14]), ([15, 11], [11, 15]), ([11], [11]), ([11], [11]), ([17, 18, 11], [11, 17, 18]), ([19, 11], [11, 19]), ([20, 11], [11, 20]), ([16, 21, 11], [11, 16, 21]), ([11, 22], [11, 22]), ([23, 11], [23]), ([24], [24]), ([24], [24]), ([25, 26, 24], [24, 25, 26]), ([27, 24], [24, 27]), ([28, 24], [24, 28]), ([24], [24]), ([24], [24]), ([30, 31, 24], [24, 30, 31]), ([32, 24], [24, 32]), ([33, 24], [24, 33]), ([29, 34, 24, 24], [24, 29, 34]), ([35, 24], [24, 35]), ([24, 36], [24, 36])])
def ambidexterref23_Same.B6 : List Nat := [0, 0, 3, 7, 15, 0, 0, 96, 224, 480, 1023, 2047, 4095, 4095, 16383, 32767, 65535, 4095, 4095, 397311, 921599, 1970175, 4194303, 8388607, 16777215, 33554431, 33554431, 134217727, 268435455, 536870911, 33554431, 33554431, 3254779903, 7549747199, 16139681791, 34359738367, 68719476735, 137438953471]
theorem ambidexterref23_Same.tab6 : rtab .any (opsOf Try.f35 6) = ambidexterref23_Same.T6 := by kernel_rfl
theorem ambidexterref23_Same.bits6 : waitsOk ambidexterref23_Same.T6.2 ambidexterref23_Same.B6 = true := by kernel_rfl
set_option maxHeartbeats 8000000 in
set_option maxRecDepth 100000 in
theorem ambidexterref23_Same.calls (k : Nat) (A0 : Option Addr) (c0 : Nat) (l0 : List (S67)) (A1 : Option Addr) (c1 : Nat) (l1 : List (S67)) (r : Bool) (w : World) (hr0 : Kd.C k67 w A0 l0.length l0) (hc0 : l0.length ≤ c0) (hr1 : Kd.C k67 w A1 l1.length l1) (hc1 : l1.length ≤ c1) (h : ambidexterref23_Same.f k l0 l1 = some r) :
  Calls Try.prog 35 #[.slice A0 l0.length c0, .slice A1 l1.length c1] w fun e w' => e = .returned (.bool r) ∧ Below w.heap.size w w' := by
 have hu65 := Try.underlying65
 have HR0 := Aside0.mk hr0
 have HC0 := Aside0.mk hc0
 clear hr0 hc0
 have HR1 := Aside0.mk hr1
 have HC1 := Aside0.mk hc1
 clear hr1 hc1
 have HB := Aside0.mk (Below.refl w.heap.size w)
 have H : (if (l0.length : Int) = (l1.length : Int) then (ambidexterref23_Same.l0 k l0 l1 0) else (some false)) = some r := h
 clear h
 by_cases c3 : (l0.length : Int) = (l1.length : Int)
 case neg =>
  rw [if_neg c3] at H
  have c3b0 : ((l0.length : Int) == (l1.length : Int)) = false := beq_eq_false_iff_ne.mpr c3
  have c3b1 : ((l0.length : Int) != (l1.length : Int)) = true := bne_iff_ne.mpr c3
  have c3b2 : (l0.length == l1.length) = false := by first | simpa using c3 | (simp at c3 ⊢; omega)
  obtain rfl := Option.some.inj H
  go_enter Try.func35, Try.ntmps35
  go_wp2
  go_ret
  exact ⟨by first | rfl | (simp [errW_none, errW_some] <;> rfl) | (simp [*, errW_none, errW_some] <;> rfl), by repeat (first | (with_reducible first | exact HB.out | apply below_alloc | apply pw_below_drewN | apply below_drew1) | exact HB.out)⟩

 rw [if_pos c3] at H
 have c3b0 : ((l0.length : Int) == (l1.length : Int)) = true := beq_iff_eq.mpr c3
 have c3b1 : ((l0.length : Int) != (l1.length : Int)) = false := bne_eq_false_iff_eq.mpr c3
 have c3b2 : (l0.length == l1.length) = true := by first | simpa using c3 | (simp at c3 ⊢; omega)
 clear c3
 have H' := Aside0.mk H
 clear H
 go_enter Try.func35, Try.ntmps35
 go_wp2
 go_loopg [5] k (fun kq v5 w' => ∃ (x5_1 : Int), v5 = .int .i64 x5_1 ∧ Aside0 (ambidexterref23_Same.l0 kq l0 l1 x5_1 = some r) ∧ Aside0 (kq ≤ k) ∧ Aside0 (Below w.heap.size w w'))
 case atStart => exact ⟨(0), (by first | rfl | (simp; done) | (simp [*]; done)), H', ⟨Nat.le_refl _⟩, ⟨by repeat (first | (with_reducible first | exact HB.out | apply below_alloc | apply pw_below_drewN | apply below_drew1) | exact HB.out)⟩⟩
 case round =>
  clear H'
  (try clear c1); (try clear p2); (try clear c3); (try clear c3b0); (try clear c3b1); (try clear c3b2)
  obtain ⟨x5_1, rfl, HA, HK1, HB⟩ := hrel
  cases gk with
  | zero => exact absurd HA.out (by simp [ambidexterref23_Same.l0])
  | succ k1 =>
   have H := HA.out
   clear HA
   simp only [ambidexterref23_Same.l0] at H
   by_cases c4 : x5_1 < (l0.length : Int)
   case neg =>
    rw [if_neg c4] at H
    have c4b0 : decide (x5_1 < (l0.length : Int)) = false := decide_eq_false c4
    clear c4
    obtain rfl := Option.some.inj H
    go_wp2
    go_ret
    exact ⟨by first | rfl | (simp [errW_none, errW_some] <;> rfl) | (simp [*, errW_none, errW_some] <;> rfl), by repeat (first | (with_reducible first | exact HB.out | apply below_alloc | apply pw_below_drewN | apply below_drew1) | exact HB.out)⟩
   rw [if_pos c4] at H
   have c4b0 : decide (x5_1 < (l0.length : Int)) = true := decide_eq_true c4
   clear c4
   by_cases c5 : 0 ≤ x5_1
   case neg =>
    rw [if_neg c5] at H
    exact absurd H (by simp)
   rw [if_pos c5] at H
   have c5b0 : decide (0 ≤ x5_1) = true := decide_eq_true c5
   clear c5
   by_cases c6 : x5_1 < (l1.length : Int)
   case neg =>
    rw [if_neg c6] at H
    exact absurd H (by simp)
   rw [if_pos c6] at H
   have c6b0 : decide (x5_1 < (l1.length : Int)) = true := decide_eq_true c6
   clear c6
   by_cases c7 : ((!(((rd_T67 l0 x5_1).f0.f0.f0) == ((rd_T67 l1 x5_1).f0.f0.f0)) || (!(((rd_T67 l0 x5_1).f0.f0.f1) == ((rd_T67 l1 x5_1).f0.f0.f1)) || (!(((rd_T67 l0 x5_1).f0.f0.f2) == ((rd_T67 l1 x5_1).f0.f0.f2))))) || (!(((rd_T67 l0 x5_1).f0.f1) == ((rd_T67 l1 x5_1).f0.f1)))) = true
   ·
    rw [if_pos c7] at H
    have c7b0 : ((!(((rd_T67 l0 x5_1).f0.f0.f0) == ((rd_T67 l1 x5_1).f0.f0.f0)) || (!(((rd_T67 l0 x5_1).f0.f0.f1) == ((rd_T67 l1 x5_1).f0.f0.f1)) || (!(((rd_T67 l0 x5_1).f0.f0.f2) == ((rd_T67 l1 x5_1).f0.f0.f2))))) || (!(((rd_T67 l0 x5_1).f0.f1) == ((rd_T67 l1 x5_1).f0.f1)))) = true := c7
    clear c7
    obtain rfl := Option.some.inj H
    try go_wp2
    have n0_ := Aside0.mk (below_drew1 HB.out)
    clear HB
    have HB := n0_
    clear n0_
    have p305 : 0 ≤ (x5_1 : Int) := od_
    have q305 : x5_1 < (l0.length : Int) := od_
    obtain ⟨ad305, A305_5, c305_5, e305, hx305_0, hx305_1, hx305_2, hx305_3, hx305_4, hx305_5, hl305_5, hi305_5⟩ := at_T67 HR0.out x5_1 p305 q305
    have hw305_5 := hx305_5
    have hw305_4 := hx305_4
    have hw305_3 := hx305_3
    have hw305_2 := hx305_2
    have hw305_1 := hx305_1
    have hw305_0 := hx305_0
    cases e305
    replace hx305_0 := (HB.out.cell (World.block_lt_of_cell? w _ hx305_0)).trans hx305_0
    replace hx305_1 := (HB.out.cell (World.block_lt_of_cell? w _ hx305_1)).trans hx305_1
    replace hx305_2 := (HB.out.cell (World.block_lt_of_cell? w _ hx305_2)).trans hx305_2
    replace hx305_3 := (HB.out.cell (World.block_lt_of_cell? w _ hx305_3)).trans hx305_3
    replace hx305_4 := (HB.out.cell (World.block_lt_of_cell? w _ hx305_4)).trans hx305_4
    replace hx305_5 := (HB.out.cell (World.block_lt_of_cell? w _ hx305_5)).trans hx305_5
    have HR305_5 := Aside0.mk hi305_5
    have HC305_5 := Aside0.mk hl305_5
    clear hi305_5 hl305_5
    replace p305 := eq_true p305
    replace q305 := eq_true q305
    have p306 : 0 ≤ (x5_1 : Int) := od_
    have q306 : x5_1 < (l1.length : Int) := od_
    obtain ⟨ad306, A306_5, c306_5, e306, hx306_0, hx306_1, hx306_2, hx306_3, hx306_4, hx306_5, hl306_5, hi306_5⟩ := at_T67 HR1.out x5_1 p306 q306
    have hw306_5 := hx306_5
    have hw306_4 := hx306_4
    have hw306_3 := hx306_3
    have hw306_2 := hx306_2
    have hw306_1 := hx306_1
    have hw306_0 := hx306_0
    cases e306
    replace hx306_0 := (HB.out.cell (World.block_lt_of_cell? w _ hx306_0)).trans hx306_0
    replace hx306_1 := (HB.out.cell (World.block_lt_of_cell? w _ hx306_1)).trans hx306_1
    replace hx306_2 := (HB.out.cell (World.block_lt_of_cell? w _ hx306_2)).trans hx306_2
    replace hx306_3 := (HB.out.cell (World.block_lt_of_cell? w _ hx306_3)).trans hx306_3
    replace hx306_4 := (HB.out.cell (World.block_lt_of_cell? w _ hx306_4)).trans hx306_4
    replace hx306_5 := (HB.out.cell (World.block_lt_of_cell? w _ hx306_5)).trans hx306_5
    have HR306_5 := Aside0.mk hi306_5
    have HC306_5 := Aside0.mk hl306_5
    clear hi306_5 hl306_5
    replace p306 := eq_true p306
    replace q306 := eq_true q306
    refine start_ (n := 38) (S := fun w' => w'.cell? (ad305.add ((x5_1).toNat * 6)) = some (.int .i64 ((rd_T67 l0 x5_1).f0.f0.f0)) ∧ w'.cell? ⟨(ad305.add ((x5_1).toNat * 6)).block, (ad305.add ((x5_1).toNat * 6)).off + 1, none⟩ = some (.int .i64 ((rd_T67 l0 x5_1).f0.f0.f1)) ∧ w'.cell? ⟨(ad305.add ((x5_1).toNat * 6)).block, (ad305.add ((x5_1).toNat * 6)).off + 2, none⟩ = some (.int .i64 ((rd_T67 l0 x5_1).f0.f0.f2)) ∧ w'.cell? ⟨(ad305.add ((x5_1).toNat * 6)).block, (ad305.add ((x5_1).toNat * 6)).off + 3, none⟩ = some (.int .i64 ((rd_T67 l0 x5_1).f0.f1)) ∧ w'.cell? ⟨(ad305.add ((x5_1).toNat * 6)).block, (ad305.add ((x5_1).toNat * 6)).off + 4, none⟩ = some (.int .i64 ((rd_T67 l0 x5_1).f1)) ∧ w'.cell? ⟨(ad305.add ((x5_1).toNat * 6)).block, (ad305.add ((x5_1).toNat * 6)).off + 5, none⟩ = some (.slice A305_5 ((rd_T67 l0 x5_1).f2).length c305_5) ∧ w'.cell? (ad306.add ((x5_1).toNat * 6)) = some (.int .i64 ((rd_T67 l1 x5_1).f0.f0.f0)) ∧ w'.cell? ⟨(ad306.add ((x5_1).toNat * 6)).block, (ad306.add ((x5_1).toNat * 6)).off + 1, none⟩ = some (.int .i64 ((rd_T67 l1 x5_1).f0.f0.f1)) ∧ w'.cell? ⟨(ad306.add ((x5_1).toNat * 6)).block, (ad306.add ((x5_1).toNat * 6)).off + 2, none⟩ = some (.int .i64 ((rd_T67 l1 x5_1).f0.f0.f2)) ∧ w'.cell? ⟨(ad306.add ((x5_1).toNat * 6)).block, (ad306.add ((x5_1).toNat * 6)).off + 3, none⟩ = some (.int .i64 ((rd_T67 l1 x5_1).f0.f1)) ∧ w'.cell? ⟨(ad306.add ((x5_1).toNat * 6)).block, (ad306.add ((x5_1).toNat * 6)).off + 4, none⟩ = some (.int .i64 ((rd_T67 l1 x5_1).f1)) ∧ w'.cell? ⟨(ad306.add ((x5_1).toNat * 6)).block, (ad306.add ((x5_1).toNat * 6)).off + 5, none⟩ = some (.slice A306_5 ((rd_T67 l1 x5_1).f2).length c306_5)) (ds := []) #[O,O,O,O,O,O,O,O,O,O,O,O,O,O,O,O,O,O,O,O,O,O,O,O,O,O,O,O,O,O,O,O,O,O,O,O,O,O] (by kernel_rfl) rfl rfl ⟨((HB.out.cell (World.block_lt_of_cell? w _ hw305_0)).trans hw305_0), ((HB.out.cell (World.block_lt_of_cell? w _ hw305_1)).trans hw305_1), ((HB.out.cell (World.block_lt_of_cell? w _ hw305_2)).trans hw305_2), ((HB.out.cell (World.block_lt_of_cell? w _ hw305_3)).trans hw305_3), ((HB.out.cell (World.block_lt_of_cell? w _ hw305_4)).trans hw305_4), ((HB.out.cell (World.block_lt_of_cell? w _ hw305_5)).trans hw305_5), ((HB.out.cell (World.block_lt_of_cell? w _ hw306_0)).trans hw306_0), ((HB.out.cell (World.block_lt_of_cell? w _ hw306_1)).trans hw306_1), ((HB.out.cell (World.block_lt_of_cell? w _ hw306_2)).trans hw306_2), ((HB.out.cell (World.block_lt_of_cell? w _ hw306_3)).trans hw306_3), ((HB.out.cell (World.block_lt_of_cell? w _ hw306_4)).trans hw306_4), ((HB.out.cell (World.block_lt_of_cell? w _ hw306_5)).trans hw306_5)⟩ (fun hHeld => ?_); refine with_tabW ambidexterref23_Same.tab6 ambidexterref23_Same.bits6 (fun HT_ HW_ => ?_)
    generalize wr.drew = w8 at HB HR305_5 HR306_5 hx305_0 hx305_1 hx305_2 hx305_3 hx305_4 hx305_5 hx306_0 hx306_1 hx306_2 hx306_3 hx306_4 hx306_5 hHeld ⊢
    refine pq_ (i := 0) (N := some 17) #[I,O,O,O,O,O,O,O,O,O,O,O,O,O,O,O,O,O,O,O,O,O,O,O,O,O,O,O,O,O,O,O,O,O,O,O,O,O] HT_ ?_
    refine pq_ (i := 1) (N := some 18) #[I,I,O,O,O,O,O,O,O,O,O,O,O,O,O,O,O,O,O,O,O,O,O,O,O,O,O,O,O,O,O,O,O,O,O,O,O,O] HT_ ?_
    refine pq_ (i := 2) (N := some 19) #[I,I,I,O,O,O,O,O,O,O,O,O,O,O,O,O,O,O,O,O,O,O,O,O,O,O,O,O,O,O,O,O,O,O,O,O,O,O] HT_ ?_
    refine pq_ (i := 3) (N := some 20) #[I,I,I,I,O,O,O,O,O,O,O,O,O,O,O,O,O,O,O,O,O,O,O,O,O,O,O,O,O,O,O,O,O,O,O,O,O,O] HT_ ?_
    refine pq_ (i := 5) (N := some 22) #[I,I,I,I,O,I,O,O,O,O,O,O,O,O,O,O,O,O,O,O,O,O,O,O,O,O,O,O,O,O,O,O,O,O,O,O,O,O] HT_ ?_
    refine pq_ (i := 6) (N := some 23) #[I,I,I,I,O,I,I,O,O,O,O,O,O,O,O,O,O,O,O,O,O,O,O,O,O,O,O,O,O,O,O,O,O,O,O,O,O,O] HT_ ?_
    refine pq_ (i := 7) (N := some 24) #[I,I,I,I,O,I,I,I,O,O,O,O,O,O,O,O,O,O,O,O,O,O,O,O,O,O,O,O,O,O,O,O,O,O,O,O,O,O] HT_ ?_
    refine pq_ (i := 8) (N := some 25) #[I,I,I,I,O,I,I,I,I,O,O,O,O,O,O,O,O,O,O,O,O,O,O,O,O,O,O,O,O,O,O,O,O,O,O,O,O,O] HT_ ?_
    refine take_ (i := 4) (N := some 21) (v := ?_) (a' := ?_) #[I,I,I,I,I,I,I,I,I,O,O,O,O,O,O,O,O,O,O,O,O,O,O,O,O,O,O,O,O,O,O,O,O,O,O,O,O,O] rfl rfl (take_ofW HT_.out HW_.out (by kernel_rfl)) (fun _ _ _ h => h) (Or.inl ⟨by rfl, ?_⟩) hHeld ?_ ?_
    rotate_left; · (rintro w' ⟨s0, s1, s2, s3, s4, s5, s6, s7, s8, s9, s10, s11⟩; go_simp; with_reducible rfl)
    rotate_left; · (simp only [Act.put, List.setIfInBounds_toArray, List.set_cons_zero, List.set_cons_succ, i64_w, i32_w]; rfl)
    refine take_ (i := 9) (N := some 26) (v := ?_) (a' := ?_) #[I,I,I,I,I,I,I,I,I,I,O,O,O,O,O,O,O,O,O,O,O,O,O,O,O,O,O,O,O,O,O,O,O,O,O,O,O,O] rfl rfl (take_ofW HT_.out HW_.out (by kernel_rfl)) (fun _ _ _ h => h) (Or.inl ⟨by rfl, ?_⟩) hHeld ?_ ?_
    rotate_left; · (rintro w' ⟨s0, s1, s2, s3, s4, s5, s6, s7, s8, s9, s10, s11⟩; go_simp; with_reducible rfl)
    rotate_left; · (simp only [Act.put, List.setIfInBounds_toArray, List.set_cons_zero, List.set_cons_succ, i64_w, i32_w]; rfl)
    refine pq_ (i := 10) (N := some 27) #[I,I,I,I,I,I,I,I,I,I,I,O,O,O,O,O,O,O,O,O,O,O,O,O,O,O,O,O,O,O,O,O,O,O,O,O,O,O] HT_ ?_
    refine pq_ (i := 11) (N := some 28) #[I,I,I,I,I,I,I,I,I,I,I,I,O,O,O,O,O,O,O,O,O,O,O,O,O,O,O,O,O,O,O,O,O,O,O,O,O,O] HT_ ?_
    refine pu_ (i := 12) (N := some 29) #[I,I,I,I,I,I,I,I,I,I,I,I,I,O,O,O,O,O,O,O,O,O,O,O,O,O,O,O,O,O,O,O,O,O,O,O,O,O] HT_ ?_
    refine pu_ (i := 13) (N := some 30) #[I,I,I,I,I,I,I,I,I,I,I,I,I,I,O,O,O,O,O,O,O,O,O,O,O,O,O,O,O,O,O,O,O,O,O,O,O,O] HT_ ?_
    refine pu_ (i := 14) (N := some 31) #[I,I,I,I,I,I,I,I,I,I,I,I,I,I,I,O,O,O,O,O,O,O,O,O,O,O,O,O,O,O,O,O,O,O,O,O,O,O] HT_ ?_
    refine pu_ (i := 15) (N := some 32) #[I,I,I,I,I,I,I,I,I,I,I,I,I,I,I,I,O,O,O,O,O,O,O,O,O,O,O,O,O,O,O,O,O,O,O,O,O,O] HT_ ?_
    refine pu_ (i := 16) (N := some 33) #[I,I,I,I,I,I,I,I,I,I,I,I,I,I,I,I,I,O,O,O,O,O,O,O,O,O,O,O,O,O,O,O,O,O,O,O,O,O] HT_ ?_
    refine pu_ (i := 17) (N := some 34) #[I,I,I,I,I,I,I,I,I,I,I,I,I,I,I,I,I,I,O,O,O,O,O,O,O,O,O,O,O,O,O,O,O,O,O,O,O,O] HT_ ?_
    refine pu_ (i := 18) (N := some 35) #[I,I,I,I,I,I,I,I,I,I,I,I,I,I,I,I,I,I,I,O,O,O,O,O,O,O,O,O,O,O,O,O,O,O,O,O,O,O] HT_ ?_
    refine pu_ (i := 19) (N := some 36) #[I,I,I,I,I,I,I,I,I,I,I,I,I,I,I,I,I,I,I,I,O,O,O,O,O,O,O,O,O,O,O,O,O,O,O,O,O,O] HT_ ?_
    refine pu_ (i := 20) (N := some 37) #[I,I,I,I,I,I,I,I,I,I,I,I,I,I,I,I,I,I,I,I,I,O,O,O,O,O,O,O,O,O,O,O,O,O,O,O,O,O] HT_ ?_
    refine pu_ (i := 21) (N := some 38) #[I,I,I,I,I,I,I,I,I,I,I,I,I,I,I,I,I,I,I,I,I,I,O,O,O,O,O,O,O,O,O,O,O,O,O,O,O,O] HT_ ?_
    refine pu_ (i := 22) (N := some 39) #[I,I,I,I,I,I,I,I,I,I,I,I,I,I,I,I,I,I,I,I,I,I,I,O,O,O,O,O,O,O,O,O,O,O,O,O,O,O] HT_ ?_
    refine pq_ (i := 23) (N := some 40) #[I,I,I,I,I,I,I,I,I,I,I,I,I,I,I,I,I,I,I,I,I,I,I,I,O,O,O,O,O,O,O,O,O,O,O,O,O,O] HT_ ?_
    refine pq_ (i := 24) (N := some 41) #[I,I,I,I,I,I,I,I,I,I,I,I,I,I,I,I,I,I,I,I,I,I,I,I,I,O,O,O,O,O,O,O,O,O,O,O,O,O] HT_ ?_
    refine pu_ (i := 25) (N := some 42) #[I,I,I,I,I,I,I,I,I,I,I,I,I,I,I,I,I,I,I,I,I,I,I,I,I,I,O,O,O,O,O,O,O,O,O,O,O,O] HT_ ?_
    refine pu_ (i := 26) (N := some 43) #[I,I,I,I,I,I,I,I,I,I,I,I,I,I,I,I,I,I,I,I,I,I,I,I,I,I,I,O,O,O,O,O,O,O,O,O,O,O] HT_ ?_
    refine pu_ (i := 27) (N := some 44) #[I,I,I,I,I,I,I,I,I,I,I,I,I,I,I,I,I,I,I,I,I,I,I,I,I,I,I,I,O,O,O,O,O,O,O,O,O,O] HT_ ?_
    refine pu_ (i := 28) (N := some 45) #[I,I,I,I,I,I,I,I,I,I,I,I,I,I,I,I,I,I,I,I,I,I,I,I,I,I,I,I,I,O,O,O,O,O,O,O,O,O] HT_ ?_
    refine pu_ (i := 29) (N := some 46) #[I,I,I,I,I,I,I,I,I,I,I,I,I,I,I,I,I,I,I,I,I,I,I,I,I,I,I,I,I,I,O,O,O,O,O,O,O,O] HT_ ?_
    refine pu_ (i := 30) (N := some 47) #[I,I,I,I,I,I,I,I,I,I,I,I,I,I,I,I,I,I,I,I,I,I,I,I,I,I,I,I,I,I,I,O,O,O,O,O,O,O] HT_ ?_
    refine pu_ (i := 31) (N := some 48) #[I,I,I,I,I,I,I,I,I,I,I,I,I,I,I,I,I,I,I,I,I,I,I,I,I,I,I,I,I,I,I,I,O,O,O,O,O,O] HT_ ?_
    refine pu_ (i := 32) (N := some 49) #[I,I,I,I,I,I,I,I,I,I,I,I,I,I,I,I,I,I,I,I,I,I,I,I,I,I,I,I,I,I,I,I,I,O,O,O,O,O] HT_ ?_
    refine pu_ (i := 33) (N := some 50) #[I,I,I,I,I,I,I,I,I,I,I,I,I,I,I,I,I,I,I,I,I,I,I,I,I,I,I,I,I,I,I,I,I,I,O,O,O,O] HT_ ?_
    refine pu_ (i := 34) (N := some 51) #[I,I,I,I,I,I,I,I,I,I,I,I,I,I,I,I,I,I,I,I,I,I,I,I,I,I,I,I,I,I,I,I,I,I,I,O,O,O] HT_ ?_
    refine pu_ (i := 35) (N := some 52) #[I,I,I,I,I,I,I,I,I,I,I,I,I,I,I,I,I,I,I,I,I,I,I,I,I,I,I,I,I,I,I,I,I,I,I,I,O,O] HT_ ?_
    refine pu_ (i := 36) (N := some 53) #[I,I,I,I,I,I,I,I,I,I,I,I,I,I,I,I,I,I,I,I,I,I,I,I,I,I,I,I,I,I,I,I,I,I,I,I,I,O] HT_ ?_
    refine pq_ (i := 37) (N := some 54) #[I,I,I,I,I,I,I,I,I,I,I,I,I,I,I,I,I,I,I,I,I,I,I,I,I,I,I,I,I,I,I,I,I,I,I,I,I,I] HT_ ?_
    refine done_ (done_of HT_.out (by kernel_rfl)) ?_
    try go_wp2
    go_ret
    exact ⟨by first | rfl | (simp [errW_none, errW_some] <;> rfl) | (simp [*, errW_none, errW_some] <;> rfl), by repeat (first | (with_reducible first | exact HB.out | apply below_alloc | apply pw_below_drewN | apply below_drew1) | exact HB.out)⟩
   rw [if_neg c7] at H
   have c7b0 : ((!(((rd_T67 l0 x5_1).f0.f0.f0) == ((rd_T67 l1 x5_1).f0.f0.f0)) || (!(((rd_T67 l0 x5_1).f0.f0.f1) == ((rd_T67 l1 x5_1).f0.f0.f1)) || (!(((rd_T67 l0 x5_1).f0.f0.f2) == ((rd_T67 l1 x5_1).f0.f0.f2))))) || (!(((rd_T67 l0 x5_1).f0.f1) == ((rd_T67 l1 x5_1).f0.f1)))) = false := by simpa using c7
   clear c7
   by_cases c9 : ((rd_T67 l0 x5_1).f1) = ((rd_T67 l1 x5_1).f1)
   case neg =>
    rw [if_neg c9] at H
    have c9b0 : (((rd_T67 l0 x5_1).f1) == ((rd_T67 l1 x5_1).f1)) = false := beq_eq_false_iff_ne.mpr c9
    have c9b1 : (((rd_T67 l0 x5_1).f1) != ((rd_T67 l1 x5_1).f1)) = true := bne_iff_ne.mpr c9
    obtain rfl := Option.some.inj H
    try go_wp2
    have n0_ := Aside0.mk (below_drew1 HB.out)
    clear HB
    have HB := n0_
    clear n0_
    have p305 : 0 ≤ (x5_1 : Int) := od_
    have q305 : x5_1 < (l0.length : Int) := od_
    obtain ⟨ad305, A305_5, c305_5, e305, hx305_0, hx305_1, hx305_2, hx305_3, hx305_4, hx305_5, hl305_5, hi305_5⟩ := at_T67 HR0.out x5_1 p305 q305
    have hw305_5 := hx305_5
    have hw305_4 := hx305_4
    have hw305_3 := hx305_3
    have hw305_2 := hx305_2
    have hw305_1 := hx305_1
    have hw305_0 := hx305_0
    cases e305
    replace hx305_0 := (HB.out.cell (World.block_lt_of_cell? w _ hx305_0)).trans hx305_0
    replace hx305_1 := (HB.out.cell (World.block_lt_of_cell? w _ hx305_1)).trans hx305_1
    replace hx305_2 := (HB.out.cell (World.block_lt_of_cell? w _ hx305_2)).trans hx305_2
    replace hx305_3 := (HB.out.cell (World.block_lt_of_cell? w _ hx305_3)).trans hx305_3
    replace hx305_4 := (HB.out.cell (World.block_lt_of_cell? w _ hx305_4)).trans hx305_4
    replace hx305_5 := (HB.out.cell (World.block_lt_of_cell? w _ hx305_5)).trans hx305_5
    have HR305_5 := Aside0.mk hi305_5
    have HC305_5 := Aside0.mk hl305_5
    clear hi305_5 hl305_5
    replace p305 := eq_true p305
    replace q305 := eq_true q305
    have p306 : 0 ≤ (x5_1 : Int) := od_
    have q306 : x5_1 < (l1.length : Int) := od_
    obtain ⟨ad306, A306_5, c306_5, e306, hx306_0, hx306_1, hx306_2, hx306_3, hx306_4, hx306_5, hl306_5, hi306_5⟩ := at_T67 HR1.out x5_1 p306 q306
    have hw306_5 := hx306_5
    have hw306_4 := hx306_4
    have hw306_3 := hx306_3
    have hw306_2 := hx306_2
    have hw306_1 := hx306_1
    have hw306_0 := hx306_0
    cases e306
    replace hx306_0 := (HB.out.cell (World.block_lt_of_cell? w _ hx306_0)).trans hx306_0
    replace hx306_1 := (HB.out.cell (World.block_lt_of_cell? w _ hx306_1)).trans hx306_1
    replace hx306_2 := (HB.out.cell (World.block_lt_of_cell? w _ hx306_2)).trans hx306_2
    replace hx306_3 := (HB.out.cell (World.block_lt_of_cell? w _ hx306_3)).trans hx306_3
    replace hx306_4 := (HB.out.cell (World.block_lt_of_cell? w _ hx306_4)).trans hx306_4
    replace hx306_5 := (HB.out.cell (World.block_lt_of_cell? w _ hx306_5)).trans hx306_5
    have HR306_5 := Aside0.mk hi306_5
    have HC306_5 := Aside0.mk hl306_5
    clear hi306_5 hl306_5
    replace p306 := eq_true p306
    replace q306 := eq_true q306
    have p307 : 0 ≤ (x5_1 : Int) := od_
    have q307 : x5_1 < (l0.length : Int) := od_
    obtain ⟨ad307, A307_5, c307_5, e307, hx307_0, hx307_1, hx307_2, hx307_3, hx307_4, hx307_5, hl307_5, hi307_5⟩ := at_T67 HR0.out x5_1 p307 q307
    have hw307_5 := hx307_5
    have hw307_4 := hx307_4
    have hw307_3 := hx307_3
    have hw307_2 := hx307_2
    have hw307_1 := hx307_1
    have hw307_0 := hx307_0
    obtain rfl : ad305 = ad307 := (by injection e307)
    replace hx307_0 := (HB.out.cell (World.block_lt_of_cell? w _ hx307_0)).trans hx307_0
    replace hx307_1 := (HB.out.cell (World.block_lt_of_cell? w _ hx307_1)).trans hx307_1
    replace hx307_2 := (HB.out.cell (World.block_lt_of_cell? w _ hx307_2)).trans hx307_2
    replace hx307_3 := (HB.out.cell (World.block_lt_of_cell? w _ hx307_3)).trans hx307_3
    replace hx307_4 := (HB.out.cell (World.block_lt_of_cell? w _ hx307_4)).trans hx307_4
    replace hx307_5 := (HB.out.cell (World.block_lt_of_cell? w _ hx307_5)).trans hx307_5
    have HR307_5 := Aside0.mk hi307_5
    have HC307_5 := Aside0.mk hl307_5
    clear hi307_5 hl307_5
    replace p307 := eq_true p307
    replace q307 := eq_true q307
    have ea_ := Option.some.inj (hx305_5.symm.trans hx307_5)
    injection ea_ with ea_ en_ ec_
    subst ea_
    subst ec_
    clear en_
    have p308 : 0 ≤ (x5_1 : Int) := od_
    have q308 : x5_1 < (l1.length : Int) := od_
    obtain ⟨ad308, A308_5, c308_5, e308, hx308_0, hx308_1, hx308_2, hx308_3, hx308_4, hx308_5, hl308_5, hi308_5⟩ := at_T67 HR1.out x5_1 p308 q308
    have hw308_5 := hx308_5
    have hw308_4 := hx308_4
    have hw308_3 := hx308_3
    have hw308_2 := hx308_2
    have hw308_1 := hx308_1
    have hw308_0 := hx308_0
    obtain rfl : ad306 = ad308 := (by injection e308)
    replace hx308_0 := (HB.out.cell (World.block_lt_of_cell? w _ hx308_0)).trans hx308_0
    replace hx308_1 := (HB.out.cell (World.block_lt_of_cell? w _ hx308_1)).trans hx308_1
    replace hx308_2 := (HB.out.cell (World.block_lt_of_cell? w _ hx308_2)).trans hx308_2
    replace hx308_3 := (HB.out.cell (World.block_lt_of_cell? w _ hx308_3)).trans hx308_3
    replace hx308_4 := (HB.out.cell (World.block_lt_of_cell? w _ hx308_4)).trans hx308_4
    replace hx308_5 := (HB.out.cell (World.block_lt_of_cell? w _ hx308_5)).trans hx308_5
    have HR308_5 := Aside0.mk hi308_5
    have HC308_5 := Aside0.mk hl308_5
    clear hi308_5 hl308_5
    replace p308 := eq_true p308
    replace q308 := eq_true q308
    have ea_ := Option.some.inj (hx306_5.symm.trans hx308_5)
    injection ea_ with ea_ en_ ec_
    subst ea_
    subst ec_
    clear en_
    refine start_ (n := 38) (S := fun w' => w'.cell? (ad305.add ((x5_1).toNat * 6)) = some (.int .i64 ((rd_T67 l0 x5_1).f0.f0.f0)) ∧ w'.cell? ⟨(ad305.add ((x5_1).toNat * 6)).block, (ad305.add ((x5_1).toNat * 6)).off + 1, none⟩ = some (.int .i64 ((rd_T67 l0 x5_1).f0.f0.f1)) ∧ w'.cell? ⟨(ad305.add ((x5_1).toNat * 6)).block, (ad305.add ((x5_1).toNat * 6)).off + 2, none⟩ = some (.int .i64 ((rd_T67 l0 x5_1).f0.f0.f2)) ∧ w'.cell? ⟨(ad305.add ((x5_1).toNat * 6)).block, (ad305.add ((x5_1).toNat * 6)).off + 3, none⟩ = some (.int .i64 ((rd_T67 l0 x5_1).f0.f1)) ∧ w'.cell? ⟨(ad305.add ((x5_1).toNat * 6)).block, (ad305.add ((x5_1).toNat * 6)).off + 4, none⟩ = some (.int .i64 ((rd_T67 l0 x5_1).f1)) ∧ w'.cell? ⟨(ad305.add ((x5_1).toNat * 6)).block, (ad305.add ((x5_1).toNat * 6)).off + 5, none⟩ = some (.slice A305_5 ((rd_T67 l0 x5_1).f2).length c305_5) ∧ w'.cell? (ad306.add ((x5_1).toNat * 6)) = some (.int .i64 ((rd_T67 l1 x5_1).f0.f0.f0)) ∧ w'.cell? ⟨(ad306.add ((x5_1).toNat * 6)).block, (ad306.add ((x5_1).toNat * 6)).off + 1, none⟩ = some (.int .i64 ((rd_T67 l1 x5_1).f0.f0.f1)) ∧ w'.cell? ⟨(ad306.add ((x5_1).toNat * 6)).block, (ad306.add ((x5_1).toNat * 6)).off + 2, none⟩ = some (.int .i64 ((rd_T67 l1 x5_1).f0.f0.f2)) ∧ w'.cell? ⟨(ad306.add ((x5_1).toNat * 6)).block, (ad306.add ((x5_1).toNat * 6)).off + 3, none⟩ = some (.int .i64 ((rd_T67 l1 x5_1).f0.f1)) ∧ w'.cell? ⟨(ad306.add ((x5_1).toNat * 6)).block, (ad306.add ((x5_1).toNat * 6)).off + 4, none⟩ = some (.int .i64 ((rd_T67 l1 x5_1).f1)) ∧ w'.cell? ⟨(ad306.add ((x5_1).toNat * 6)).block, (ad306.add ((x5_1).toNat * 6)).off + 5, none⟩ = some (.slice A306_5 ((rd_T67 l1 x5_1).f2).length c306_5) ∧ w'.cell? (ad305.add ((x5_1).toNat * 6)) = some (.int .i64 ((rd_T67 l0 x5_1).f0.f0.f0)) ∧ w'.cell? ⟨(ad305.add ((x5_1).toNat * 6)).block, (ad305.add ((x5_1).toNat * 6)).off + 1, none⟩ = some (.int .i64 ((rd_T67 l0 x5_1).f0.f0.f1)) ∧ w'.cell? ⟨(ad305.add ((x5_1).toNat * 6)).block, (ad305.add ((x5_1).toNat * 6)).off + 2, none⟩ = some (.int .i64 ((rd_T67 l0 x5_1).f0.f0.f2)) ∧ w'.cell? ⟨(ad305.add ((x5_1).toNat * 6)).block, (ad305.add ((x5_1).toNat * 6)).off + 3, none⟩ = some (.int .i64 ((rd_T67 l0 x5_1).f0.f1)) ∧ w'.cell? ⟨(ad305.add ((x5_1).toNat * 6)).block, (ad305.add ((x5_1).toNat * 6)).off + 4, none⟩ = some (.int .i64 ((rd_T67 l0 x5_1).f1)) ∧ w'.cell? ⟨(ad305.add ((x5_1).toNat * 6)).block, (ad305.add ((x5_1).toNat * 6)).off + 5, none⟩ = some (.slice A305_5 ((rd_T67 l0 x5_1).f2).length c305_5) ∧ w'.cell? (ad306.add ((x5_1).toNat * 6)) = some (.int .i64 ((rd_T67 l1 x5_1).f0.f0.f0)) ∧ w'.cell? ⟨(ad306.add ((x5_1).toNat * 6)).block, (ad306.add ((x5_1).toNat * 6)).off + 1, none⟩ = some (.int .i64 ((rd_T67 l1 x5_1).f0.f0.f1)) ∧ w'.cell? ⟨(ad306.add ((x5_1).toNat * 6)).block, (ad306.add ((x5_1).toNat * 6)).off + 2, none⟩ = some (.int .i64 ((rd_T67 l1 x5_1).f0.f0.f2)) ∧ w'.cell? ⟨(ad306.add ((x5_1).toNat * 6)).block, (ad306.add ((x5_1).toNat * 6)).off + 3, none⟩ = some (.int .i64 ((rd_T67 l1 x5_1).f0.f1)) ∧ w'.cell? ⟨(ad306.add ((x5_1).toNat * 6)).block, (ad306.add ((x5_1).toNat * 6)).off + 4, none⟩ = some (.int .i64 ((rd_T67 l1 x5_1).f1)) ∧ w'.cell? ⟨(ad306.add ((x5_1).toNat * 6)).block, (ad306.add ((x5_1).toNat * 6)).off + 5, none⟩ = some (.slice A306_5 ((rd_T67 l1 x5_1).f2).length c306_5)) (ds := []) #[O,O,O,O,O,O,O,O,O,O,O,O,O,O,O,O,O,O,O,O,O,O,O,O,O,O,O,O,O,O,O,O,O,O,O,O,O,O] (by kernel_rfl) rfl rfl ⟨((HB.out.cell (World.block_lt_of_cell? w _ hw305_0)).trans hw305_0), ((HB.out.cell (World.block_lt_of_cell? w _ hw305_1)).trans hw305_1), ((HB.out.cell (World.block_lt_of_cell? w _ hw305_2)).trans hw305_2), ((HB.out.cell (World.block_lt_of_cell? w _ hw305_3)).trans hw305_3), ((HB.out.cell (World.block_lt_of_cell? w _ hw305_4)).trans hw305_4), ((HB.out.cell (World.block_lt_of_cell? w _ hw305_5)).trans hw305_5), ((HB.out.cell (World.block_lt_of_cell? w _ hw306_0)).trans hw306_0), ((HB.out.cell (World.block_lt_of_cell? w _ hw306_1)).trans hw306_1), ((HB.out.cell (World.block_lt_of_cell? w _ hw306_2)).trans hw306_2), ((HB.out.cell (World.block_lt_of_cell? w _ hw306_3)).trans hw306_3), ((HB.out.cell (World.block_lt_of_cell? w _ hw306_4)).trans hw306_4), ((HB.out.cell (World.block_lt_of_cell? w _ hw306_5)).trans hw306_5), ((HB.out.cell (World.block_lt_of_cell? w _ hw307_0)).trans hw307_0), ((HB.out.cell (World.block_lt_of_cell? w _ hw307_1)).trans hw307_1), ((HB.out.cell (World.block_lt_of_cell? w _ hw307_2)).trans hw307_2), ((HB.out.cell (World.block_lt_of_cell? w _ hw307_3)).trans hw307_3), ((HB.out.cell (World.block_lt_of_cell? w _ hw307_4)).trans hw307_4), ((HB.out.cell (World.block_lt_of_cell? w _ hw307_5)).trans hw307_5), ((HB.out.cell (World.block_lt_of_cell? w _ hw308_0)).trans hw308_0), ((HB.out.cell (World.block_lt_of_cell? w _ hw308_1)).trans hw308_1), ((HB.out.cell (World.block_lt_of_cell? w _ hw308_2)).trans hw308_2), ((HB.out.cell (World.block_lt_of_cell? w _ hw308_3)).trans hw308_3), ((HB.out.cell (World.block_lt_of_cell? w _ hw308_4)).trans hw308_4), ((HB.out.cell (World.block_lt_of_cell? w _ hw308_5)).trans hw308_5)⟩ (fun hHeld => ?_); refine with_tabW ambidexterref23_Same.tab6 ambidexterref23_Same.bits6 (fun HT_ HW_ => ?_)
    generalize wr.drew = w14 at HB HR305_5 HR306_5 HR307_5 HR308_5 hx305_0 hx305_1 hx305_2 hx305_3 hx305_4 hx305_5 hx306_0 hx306_1 hx306_2 hx306_3 hx306_4 hx306_5 hx307_0 hx307_1 hx307_2 hx307_3 hx307_4 hx307_5 hx308_0 hx308_1 hx308_2 hx308_3 hx308_4 hx308_5 hHeld ⊢
    refine pq_ (i := 0) (N := some 17) #[I,O,O,O,O,O,O,O,O,O,O,O,O,O,O,O,O,O,O,O,O,O,O,O,O,O,O,O,O,O,O,O,O,O,O,O,O,O] HT_ ?_
    refine pq_ (i := 1) (N := some 18) #[I,I,O,O,O,O,O,O,O,O,O,O,O,O,O,O,O,O,O,O,O,O,O,O,O,O,O,O,O,O,O,O,O,O,O,O,O,O] HT_ ?_
    refine pq_ (i := 2) (N := some 19) #[I,I,I,O,O,O,O,O,O,O,O,O,O,O,O,O,O,O,O,O,O,O,O,O,O,O,O,O,O,O,O,O,O,O,O,O,O,O] HT_ ?_
    refine pq_ (i := 3) (N := some 20) #[I,I,I,I,O,O,O,O,O,O,O,O,O,O,O,O,O,O,O,O,O,O,O,O,O,O,O,O,O,O,O,O,O,O,O,O,O,O] HT_ ?_
    refine pq_ (i := 5) (N := some 22) #[I,I,I,I,O,I,O,O,O,O,O,O,O,O,O,O,O,O,O,O,O,O,O,O,O,O,O,O,O,O,O,O,O,O,O,O,O,O] HT_ ?_
    refine pq_ (i := 6) (N := some 23) #[I,I,I,I,O,I,I,O,O,O,O,O,O,O,O,O,O,O,O,O,O,O,O,O,O,O,O,O,O,O,O,O,O,O,O,O,O,O] HT_ ?_
    refine pq_ (i := 7) (N := some 24) #[I,I,I,I,O,I,I,I,O,O,O,O,O,O,O,O,O,O,O,O,O,O,O,O,O,O,O,O,O,O,O,O,O,O,O,O,O,O] HT_ ?_
    refine pq_ (i := 8) (N := some 25) #[I,I,I,I,O,I,I,I,I,O,O,O,O,O,O,O,O,O,O,O,O,O,O,O,O,O,O,O,O,O,O,O,O,O,O,O,O,O] HT_ ?_
    refine take_ (i := 4) (N := some 21) (v := ?_) (a' := ?_) #[I,I,I,I,I,I,I,I,I,O,O,O,O,O,O,O,O,O,O,O,O,O,O,O,O,O,O,O,O,O,O,O,O,O,O,O,O,O] rfl rfl (take_ofW HT_.out HW_.out (by kernel_rfl)) (fun _ _ _ h => h) (Or.inl ⟨by rfl, ?_⟩) hHeld ?_ ?_
    rotate_left; · (rintro w' ⟨s0, s1, s2, s3, s4, s5, s6, s7, s8, s9, s10, s11, s12, s13, s14, s15, s16, s17, s18, s19, s20, s21, s22, s23⟩; go_simp; with_reducible rfl)
    rotate_left; · (simp only [Act.put, List.setIfInBounds_toArray, List.set_cons_zero, List.set_cons_succ, i64_w, i32_w]; rfl)
    refine take_ (i := 9) (N := some 26) (v := ?_) (a' := ?_) #[I,I,I,I,I,I,I,I,I,I,O,O,O,O,O,O,O,O,O,O,O,O,O,O,O,O,O,O,O,O,O,O,O,O,O,O,O,O] rfl rfl (take_ofW HT_.out HW_.out (by kernel_rfl)) (fun _ _ _ h => h) (Or.inl ⟨by rfl, ?_⟩) hHeld ?_ ?_
    rotate_left; · (rintro w' ⟨s0, s1, s2, s3, s4, s5, s6, s7, s8, s9, s10, s11, s12, s13, s14, s15, s16, s17, s18, s19, s20, s21, s22, s23⟩; go_simp; with_reducible rfl)
    rotate_left; · (simp only [Act.put, List.setIfInBounds_toArray, List.set_cons_zero, List.set_cons_succ, i64_w, i32_w]; rfl)
    refine pq_ (i := 10) (N := some 27) #[I,I,I,I,I,I,I,I,I,I,I,O,O,O,O,O,O,O,O,O,O,O,O,O,O,O,O,O,O,O,O,O,O,O,O,O,O,O] HT_ ?_
    refine pq_ (i := 11) (N := some 28) #[I,I,I,I,I,I,I,I,I,I,I,I,O,O,O,O,O,O,O,O,O,O,O,O,O,O,O,O,O,O,O,O,O,O,O,O,O,O] HT_ ?_
    refine pq_ (i := 12) (N := some 29) #[I,I,I,I,I,I,I,I,I,I,I,I,I,O,O,O,O,O,O,O,O,O,O,O,O,O,O,O,O,O,O,O,O,O,O,O,O,O] HT_ ?_
    refine pq_ (i := 13) (N := some 30) #[I,I,I,I,I,I,I,I,I,I,I,I,I,I,O,O,O,O,O,O,O,O,O,O,O,O,O,O,O,O,O,O,O,O,O,O,O,O] HT_ ?_
    refine pq_ (i := 14) (N := some 31) #[I,I,I,I,I,I,I,I,I,I,I,I,I,I,I,O,O,O,O,O,O,O,O,O,O,O,O,O,O,O,O,O,O,O,O,O,O,O] HT_ ?_
    refine pq_ (i := 15) (N := some 32) #[I,I,I,I,I,I,I,I,I,I,I,I,I,I,I,I,O,O,O,O,O,O,O,O,O,O,O,O,O,O,O,O,O,O,O,O,O,O] HT_ ?_
    refine pq_ (i := 17) (N := some 34) #[I,I,I,I,I,I,I,I,I,I,I,I,I,I,I,I,O,I,O,O,O,O,O,O,O,O,O,O,O,O,O,O,O,O,O,O,O,O] HT_ ?_
    refine pq_ (i := 18) (N := some 35) #[I,I,I,I,I,I,I,I,I,I,I,I,I,I,I,I,O,I,I,O,O,O,O,O,O,O,O,O,O,O,O,O,O,O,O,O,O,O] HT_ ?_
    refine pq_ (i := 19) (N := some 36) #[I,I,I,I,I,I,I,I,I,I,I,I,I,I,I,I,O,I,I,I,O,O,O,O,O,O,O,O,O,O,O,O,O,O,O,O,O,O] HT_ ?_
    refine pq_ (i := 20) (N := some 37) #[I,I,I,I,I,I,I,I,I,I,I,I,I,I,I,I,O,I,I,I,I,O,O,O,O,O,O,O,O,O,O,O,O,O,O,O,O,O] HT_ ?_
    refine take_ (i := 16) (N := some 33) (v := ?_) (a' := ?_) #[I,I,I,I,I,I,I,I,I,I,I,I,I,I,I,I,I,I,I,I,I,O,O,O,O,O,O,O,O,O,O,O,O,O,O,O,O,O] rfl rfl (take_ofW HT_.out HW_.out (by kernel_rfl)) (fun _ _ _ h => h) (Or.inl ⟨by rfl, ?_⟩) hHeld ?_ ?_
    rotate_left; · (rintro w' ⟨s0, s1, s2, s3, s4, s5, s6, s7, s8, s9, s10, s11, s12, s13, s14, s15, s16, s17, s18, s19, s20, s21, s22, s23⟩; go_simp; with_reducible rfl)
    rotate_left; · (simp only [Act.put, List.setIfInBounds_toArray, List.set_cons_zero, List.set_cons_succ, i64_w, i32_w]; rfl)
    refine take_ (i := 21) (N := some 38) (v := ?_) (a' := ?_) #[I,I,I,I,I,I,I,I,I,I,I,I,I,I,I,I,I,I,I,I,I,I,O,O,O,O,O,O,O,O,O,O,O,O,O,O,O,O] rfl rfl (take_ofW HT_.out HW_.out (by kernel_rfl)) (fun _ _ _ h => h) (Or.inl ⟨by rfl, ?_⟩) hHeld ?_ ?_
    rotate_left; · (rintro w' ⟨s0, s1, s2, s3, s4, s5, s6, s7, s8, s9, s10, s11, s12, s13, s14, s15, s16, s17, s18, s19, s20, s21, s22, s23⟩; go_simp; with_reducible rfl)
    rotate_left; · (simp only [Act.put, List.setIfInBounds_toArray, List.set_cons_zero, List.set_cons_succ, i64_w, i32_w]; rfl)
    refine pq_ (i := 22) (N := some 39) #[I,I,I,I,I,I,I,I,I,I,I,I,I,I,I,I,I,I,I,I,I,I,I,O,O,O,O,O,O,O,O,O,O,O,O,O,O,O] HT_ ?_
    refine pq_ (i := 23) (N := some 40) #[I,I,I,I,I,I,I,I,I,I,I,I,I,I,I,I,I,I,I,I,I,I,I,I,O,O,O,O,O,O,O,O,O,O,O,O,O,O] HT_ ?_
    refine pq_ (i := 24) (N := some 41) #[I,I,I,I,I,I,I,I,I,I,I,I,I,I,I,I,I,I,I,I,I,I,I,I,I,O,O,O,O,O,O,O,O,O,O,O,O,O] HT_ ?_
    refine pu_ (i := 25) (N := some 42) #[I,I,I,I,I,I,I,I,I,I,I,I,I,I,I,I,I,I,I,I,I,I,I,I,I,I,O,O,O,O,O,O,O,O,O,O,O,O] HT_ ?_
    refine pu_ (i := 26) (N := some 43) #[I,I,I,I,I,I,I,I,I,I,I,I,I,I,I,I,I,I,I,I,I,I,I,I,I,I,I,O,O,O,O,O,O,O,O,O,O,O] HT_ ?_
    refine pu_ (i := 27) (N := some 44) #[I,I,I,I,I,I,I,I,I,I,I,I,I,I,I,I,I,I,I,I,I,I,I,I,I,I,I,I,O,O,O,O,O,O,O,O,O,O] HT_ ?_
    refine pu_ (i := 28) (N := some 45) #[I,I,I,I,I,I,I,I,I,I,I,I,I,I,I,I,I,I,I,I,I,I,I,I,I,I,I,I,I,O,O,O,O,O,O,O,O,O] HT_ ?_
    refine pu_ (i := 29) (N := some 46) #[I,I,I,I,I,I,I,I,I,I,I,I,I,I,I,I,I,I,I,I,I,I,I,I,I,I,I,I,I,I,O,O,O,O,O,O,O,O] HT_ ?_
    refine pu_ (i := 30) (N := some 47) #[I,I,I,I,I,I,I,I,I,I,I,I,I,I,I,I,I,I,I,I,I,I,I,I,I,I,I,I,I,I,I,O,O,O,O,O,O,O] HT_ ?_
    refine pu_ (i := 31) (N := some 48) #[I,I,I,I,I,I,I,I,I,I,I,I,I,I,I,I,I,I,I,I,I,I,I,I,I,I,I,I,I,I,I,I,O,O,O,O,O,O] HT_ ?_
    refine pu_ (i := 32) (N := some 49) #[I,I,I,I,I,I,I,I,I,I,I,I,I,I,I,I,I,I,I,I,I,I,I,I,I,I,I,I,I,I,I,I,I,O,O,O,O,O] HT_ ?_
    refine pu_ (i := 33) (N := some 50) #[I,I,I,I,I,I,I,I,I,I,I,I,I,I,I,I,I,I,I,I,I,I,I,I,I,I,I,I,I,I,I,I,I,I,O,O,O,O] HT_ ?_
    refine pu_ (i := 34) (N := some 51) #[I,I,I,I,I,I,I,I,I,I,I,I,I,I,I,I,I,I,I,I,I,I,I,I,I,I,I,I,I,I,I,I,I,I,I,O,O,O] HT_ ?_
    refine pu_ (i := 35) (N := some 52) #[I,I,I,I,I,I,I,I,I,I,I,I,I,I,I,I,I,I,I,I,I,I,I,I,I,I,I,I,I,I,I,I,I,I,I,I,O,O] HT_ ?_
    refine pu_ (i := 36) (N := some 53) #[I,I,I,I,I,I,I,I,I,I,I,I,I,I,I,I,I,I,I,I,I,I,I,I,I,I,I,I,I,I,I,I,I,I,I,I,I,O] HT_ ?_
    refine pq_ (i := 37) (N := some 54) #[I,I,I,I,I,I,I,I,I,I,I,I,I,I,I,I,I,I,I,I,I,I,I,I,I,I,I,I,I,I,I,I,I,I,I,I,I,I] HT_ ?_
    refine done_ (done_of HT_.out (by kernel_rfl)) ?_
    try go_wp2
    go_ret
    exact ⟨by first | rfl | (simp [errW_none, errW_some] <;> rfl) | (simp [*, errW_none, errW_some] <;> rfl), by repeat (first | (with_reducible first | exact HB.out | apply below_alloc | apply pw_below_drewN | apply below_drew1) | exact HB.out)⟩
   rw [if_pos c9] at H
   have c9b0 : (((rd_T67 l0 x5_1).f1) == ((rd_T67 l1 x5_1).f1)) = true := beq_iff_eq.mpr c9
   have c9b1 : (((rd_T67 l0 x5_1).f1) != ((rd_T67 l1 x5_1).f1)) = false := bne_eq_false_iff_eq.mpr c9
   clear c9
   replace H := Option.bind_eq_some_iff.mp H
   obtain ⟨t311, A100, H⟩ := H
   replace H : (if t311 = true then (ambidexterref23_Same.l0 k1 l0 l1 (wrap64 (x5_1 + 1))) else (some false)) = some r := H
   have A10 := Aside0.mk A100
   clear A100
   by_cases c11 : t311 = true
   case neg =>
    replace c11 := Bool.eq_false_iff.mpr c11
    subst c11
    have H1 : (some false) = some r := by rw [if_neg (show ¬ (false = true) by decide)] at H; exact H
    clear H
    have H := H1
    clear H1
    obtain rfl := Option.some.inj H
    try go_wp2
    have n0_ := Aside0.mk (below_drew1 HB.out)
    clear HB
    have HB := n0_
    clear n0_
    have p305 : 0 ≤ (x5_1 : Int) := od_
    have q305 : x5_1 < (l0.length : Int) := od_
    obtain ⟨ad305, A305_5, c305_5, e305, hx305_0, hx305_1, hx305_2, hx305_3, hx305_4, hx305_5, hl305_5, hi305_5⟩ := at_T67 HR0.out x5_1 p305 q305
    have hw305_5 := hx305_5
    have hw305_4 := hx305_4
    have hw305_3 := hx305_3
    have hw305_2 := hx305_2
    have hw305_1 := hx305_1
    have hw305_0 := hx305_0
    cases e305
    replace hx305_0 := (HB.out.cell (World.block_lt_of_cell? w _ hx305_0)).trans hx305_0
    replace hx305_1 := (HB.out.cell (World.block_lt_of_cell? w _ hx305_1)).trans hx305_1
    replace hx305_2 := (HB.out.cell (World.block_lt_of_cell? w _ hx305_2)).trans hx305_2
    replace hx305_3 := (HB.out.cell (World.block_lt_of_cell? w _ hx305_3)).trans hx305_3
    replace hx305_4 := (HB.out.cell (World.block_lt_of_cell? w _ hx305_4)).trans hx305_4
    replace hx305_5 := (HB.out.cell (World.block_lt_of_cell? w _ hx305_5)).trans hx305_5
    have HR305_5 := Aside0.mk hi305_5
    have HC305_5 := Aside0.mk hl305_5
    clear hi305_5 hl305_5
    replace p305 := eq_true p305
    replace q305 := eq_true q305
    have p306 : 0 ≤ (x5_1 : Int) := od_
    have q306 : x5_1 < (l1.length : Int) := od_
    obtain ⟨ad306, A306_5, c306_5, e306, hx306_0, hx306_1, hx306_2, hx306_3, hx306_4, hx306_5, hl306_5, hi306_5⟩ := at_T67 HR1.out x5_1 p306 q306
    have hw306_5 := hx306_5
    have hw306_4 := hx306_4
    have hw306_3 := hx306_3
    have hw306_2 := hx306_2
    have hw306_1 := hx306_1
    have hw306_0 := hx306_0
    cases e306
    replace hx306_0 := (HB.out.cell (World.block_lt_of_cell? w _ hx306_0)).trans hx306_0
    replace hx306_1 := (HB.out.cell (World.block_lt_of_cell? w _ hx306_1)).trans hx306_1
    replace hx306_2 := (HB.out.cell (World.block_lt_of_cell? w _ hx306_2)).trans hx306_2
    replace hx306_3 := (HB.out.cell (World.block_lt_of_cell? w _ hx306_3)).trans hx306_3
    replace hx306_4 := (HB.out.cell (World.block_lt_of_cell? w _ hx306_4)).trans hx306_4
    replace hx306_5 := (HB.out.cell (World.block_lt_of_cell? w _ hx306_5)).trans hx306_5
    have HR306_5 := Aside0.mk hi306_5
    have HC306_5 := Aside0.mk hl306_5
    clear hi306_5 hl306_5
    replace p306 := eq_true p306
    replace q306 := eq_true q306
    have p307 : 0 ≤ (x5_1 : Int) := od_
    have q307 : x5_1 < (l0.length : Int) := od_
    obtain ⟨ad307, A307_5, c307_5, e307, hx307_0, hx307_1, hx307_2, hx307_3, hx307_4, hx307_5, hl307_5, hi307_5⟩ := at_T67 HR0.out x5_1 p307 q307
    have hw307_5 := hx307_5
    have hw307_4 := hx307_4
    have hw307_3 := hx307_3
    have hw307_2 := hx307_2
    have hw307_1 := hx307_1
    have hw307_0 := hx307_0
    obtain rfl : ad305 = ad307 := (by injection e307)
    replace hx307_0 := (HB.out.cell (World.block_lt_of_cell? w _ hx307_0)).trans hx307_0
    replace hx307_1 := (HB.out.cell (World.block_lt_of_cell? w _ hx307_1)).trans hx307_1
    replace hx307_2 := (HB.out.cell (World.block_lt_of_cell? w _ hx307_2)).trans hx307_2
    replace hx307_3 := (HB.out.cell (World.block_lt_of_cell? w _ hx307_3)).trans hx307_3
    replace hx307_4 := (HB.out.cell (World.block_lt_of_cell? w _ hx307_4)).trans hx307_4
    replace hx307_5 := (HB.out.cell (World.block_lt_of_cell? w _ hx307_5)).trans hx307_5
    have HR307_5 := Aside0.mk hi307_5
    have HC307_5 := Aside0.mk hl307_5
    clear hi307_5 hl307_5
    replace p307 := eq_true p307
    replace q307 := eq_true q307
    have ea_ := Option.some.inj (hx305_5.symm.trans hx307_5)
    injection ea_ with ea_ en_ ec_
    subst ea_
    subst ec_
    clear en_
    have p308 : 0 ≤ (x5_1 : Int) := od_
    have q308 : x5_1 < (l1.length : Int) := od_
    obtain ⟨ad308, A308_5, c308_5, e308, hx308_0, hx308_1, hx308_2, hx308_3, hx308_4, hx308_5, hl308_5, hi308_5⟩ := at_T67 HR1.out x5_1 p308 q308
    have hw308_5 := hx308_5
    have hw308_4 := hx308_4
    have hw308_3 := hx308_3
    have hw308_2 := hx308_2
    have hw308_1 := hx308_1
    have hw308_0 := hx308_0
    obtain rfl : ad306 = ad308 := (by injection e308)
    replace hx308_0 := (HB.out.cell (World.block_lt_of_cell? w _ hx308_0)).trans hx308_0
    replace hx308_1 := (HB.out.cell (World.block_lt_of_cell? w _ hx308_1)).trans hx308_1
    replace hx308_2 := (HB.out.cell (World.block_lt_of_cell? w _ hx308_2)).trans hx308_2
    replace hx308_3 := (HB.out.cell (World.block_lt_of_cell? w _ hx308_3)).trans hx308_3
    replace hx308_4 := (HB.out.cell (World.block_lt_of_cell? w _ hx308_4)).trans hx308_4
    replace hx308_5 := (HB.out.cell (World.block_lt_of_cell? w _ hx308_5)).trans hx308_5
    have HR308_5 := Aside0.mk hi308_5
    have HC308_5 := Aside0.mk hl308_5
    clear hi308_5 hl308_5
    replace p308 := eq_true p308
    replace q308 := eq_true q308
    have ea_ := Option.some.inj (hx306_5.symm.trans hx308_5)
    injection ea_ with ea_ en_ ec_
    subst ea_
    subst ec_
    clear en_
    have p309 : 0 ≤ (x5_1 : Int) := od_
    have q309 : x5_1 < (l0.length : Int) := od_
    obtain ⟨ad309, A309_5, c309_5, e309, hx309_0, hx309_1, hx309_2, hx309_3, hx309_4, hx309_5, hl309_5, hi309_5⟩ := at_T67 HR0.out x5_1 p309 q309
    have hw309_5 := hx309_5
    have hw309_4 := hx309_4
    have hw309_3 := hx309_3
    have hw309_2 := hx309_2
    have hw309_1 := hx309_1
    have hw309_0 := hx309_0
    obtain rfl : ad305 = ad309 := (by injection e309)
    replace hx309_0 := (HB.out.cell (World.block_lt_of_cell? w _ hx309_0)).trans hx309_0
    replace hx309_1 := (HB.out.cell (World.block_lt_of_cell? w _ hx309_1)).trans hx309_1
    replace hx309_2 := (HB.out.cell (World.block_lt_of_cell? w _ hx309_2)).trans hx309_2
    replace hx309_3 := (HB.out.cell (World.block_lt_of_cell? w _ hx309_3)).trans hx309_3
    replace hx309_4 := (HB.out.cell (World.block_lt_of_cell? w _ hx309_4)).trans hx309_4
    replace hx309_5 := (HB.out.cell (World.block_lt_of_cell? w _ hx309_5)).trans hx309_5
    have HR309_5 := Aside0.mk hi309_5
    have HC309_5 := Aside0.mk hl309_5
    clear hi309_5 hl309_5
    replace p309 := eq_true p309
    replace q309 := eq_true q309
    have ea_ := Option.some.inj (hx305_5.symm.trans hx309_5)
    injection ea_ with ea_ en_ ec_
    subst ea_
    subst ec_
    clear en_
    have p310 : 0 ≤ (x5_1 : Int) := od_
    have q310 : x5_1 < (l1.length : Int) := od_
    obtain ⟨ad310, A310_5, c310_5, e310, hx310_0, hx310_1, hx310_2, hx310_3, hx310_4, hx310_5, hl310_5, hi310_5⟩ := at_T67 HR1.out x5_1 p310 q310
    have hw310_5 := hx310_5
    have hw310_4 := hx310_4
    have hw310_3 := hx310_3
    have hw310_2 := hx310_2
    have hw310_1 := hx310_1
    have hw310_0 := hx310_0
    obtain rfl : ad306 = ad310 := (by injection e310)
    replace hx310_0 := (HB.out.cell (World.block_lt_of_cell? w _ hx310_0)).trans hx310_0
    replace hx310_1 := (HB.out.cell (World.block_lt_of_cell? w _ hx310_1)).trans hx310_1
    replace hx310_2 := (HB.out.cell (World.block_lt_of_cell? w _ hx310_2)).trans hx310_2
    replace hx310_3 := (HB.out.cell (World.block_lt_of_cell? w _ hx310_3)).trans hx310_3
    replace hx310_4 := (HB.out.cell (World.block_lt_of_cell? w _ hx310_4)).trans hx310_4
    replace hx310_5 := (HB.out.cell (World.block_lt_of_cell? w _ hx310_5)).trans hx310_5
    have HR310_5 := Aside0.mk hi310_5
    have HC310_5 := Aside0.mk hl310_5
    clear hi310_5 hl310_5
    replace p310 := eq_true p310
    replace q310 := eq_true q310
    have ea_ := Option.some.inj (hx306_5.symm.trans hx310_5)
    injection ea_ with ea_ en_ ec_
    subst ea_
    subst ec_
    clear en_
    refine start_ (n := 38) (S := fun w' => w'.cell? (ad305.add ((x5_1).toNat * 6)) = some (.int .i64 ((rd_T67 l0 x5_1).f0.f0.f0)) ∧ w'.cell? ⟨(ad305.add ((x5_1).toNat * 6)).block, (ad305.add ((x5_1).toNat * 6)).off + 1, none⟩ = some (.int .i64 ((rd_T67 l0 x5_1).f0.f0.f1)) ∧ w'.cell? ⟨(ad305.add ((x5_1).toNat * 6)).block, (ad305.add ((x5_1).toNat * 6)).off + 2, none⟩ = some (.int .i64 ((rd_T67 l0 x5_1).f0.f0.f2)) ∧ w'.cell? ⟨(ad305.add ((x5_1).toNat * 6)).block, (ad305.add ((x5_1).toNat * 6)).off + 3, none⟩ = some (.int .i64 ((rd_T67 l0 x5_1).f0.f1)) ∧ w'.cell? ⟨(ad305.add ((x5_1).toNat * 6)).block, (ad305.add ((x5_1).toNat * 6)).off + 4, none⟩ = some (.int .i64 ((rd_T67 l0 x5_1).f1)) ∧ w'.cell? ⟨(ad305.add ((x5_1).toNat * 6)).block, (ad305.add ((x5_1).toNat * 6)).off + 5, none⟩ = some (.slice A305_5 ((rd_T67 l0 x5_1).f2).length c305_5) ∧ w'.cell? (ad306.add ((x5_1).toNat * 6)) = some (.int .i64 ((rd_T67 l1 x5_1).f0.f0.f0)) ∧ w'.cell? ⟨(ad306.add ((x5_1).toNat * 6)).block, (ad306.add ((x5_1).toNat * 6)).off + 1, none⟩ = some (.int .i64 ((rd_T67 l1 x5_1).f0.f0.f1)) ∧ w'.cell? ⟨(ad306.add ((x5_1).toNat * 6)).block, (ad306.add ((x5_1).toNat * 6)).off + 2, none⟩ = some (.int .i64 ((rd_T67 l1 x5_1).f0.f0.f2)) ∧ w'.cell? ⟨(ad306.add ((x5_1).toNat * 6)).block, (ad306.add ((x5_1).toNat * 6)).off + 3, none⟩ = some (.int .i64 ((rd_T67 l1 x5_1).f0.f1)) ∧ w'.cell? ⟨(ad306.add ((x5_1).toNat * 6)).block, (ad306.add ((x5_1).toNat * 6)).off + 4, none⟩ = some (.int .i64 ((rd_T67 l1 x5_1).f1)) ∧ w'.cell? ⟨(ad306.add ((x5_1).toNat * 6)).block, (ad306.add ((x5_1).toNat * 6)).off + 5, none⟩ = some (.slice A306_5 ((rd_T67 l1 x5_1).f2).length c306_5) ∧ w'.cell? (ad305.add ((x5_1).toNat * 6)) = some (.int .i64 ((rd_T67 l0 x5_1).f0.f0.f0)) ∧ w'.cell? ⟨(ad305.add ((x5_1).toNat * 6)).block, (ad305.add ((x5_1).toNat * 6)).off + 1, none⟩ = some (.int .i64 ((rd_T67 l0 x5_1).f0.f0.f1)) ∧ w'.cell? ⟨(ad305.add ((x5_1).toNat * 6)).block, (ad305.add ((x5_1).toNat * 6)).off + 2, none⟩ = some (.int .i64 ((rd_T67 l0 x5_1).f0.f0.f2)) ∧ w'.cell? ⟨(ad305.add ((x5_1).toNat * 6)).block, (ad305.add ((x5_1).toNat * 6)).off + 3, none⟩ = some (.int .i64 ((rd_T67 l0 x5_1).f0.f1)) ∧ w'.cell? ⟨(ad305.add ((x5_1).toNat * 6)).block, (ad305.add ((x5_1).toNat * 6)).off + 4, none⟩ = some (.int .i64 ((rd_T67 l0 x5_1).f1)) ∧ w'.cell? ⟨(ad305.add ((x5_1).toNat * 6)).block, (ad305.add ((x5_1).toNat * 6)).off + 5, none⟩ = some (.slice A305_5 ((rd_T67 l0 x5_1).f2).length c305_5) ∧ w'.cell? (ad306.add ((x5_1).toNat * 6)) = some (.int .i64 ((rd_T67 l1 x5_1).f0.f0.f0)) ∧ w'.cell? ⟨(ad306.add ((x5_1).toNat * 6)).block, (ad306.add ((x5_1).toNat * 6)).off + 1, none⟩ = some (.int .i64 ((rd_T67 l1 x5_1).f0.f0.f1)) ∧ w'.cell? ⟨(ad306.add ((x5_1).toNat * 6)).block, (ad306.add ((x5_1).toNat * 6)).off + 2, none⟩ = some (.int .i64 ((rd_T67 l1 x5_1).f0.f0.f2)) ∧ w'.cell? ⟨(ad306.add ((x5_1).toNat * 6)).block, (ad306.add ((x5_1).toNat * 6)).off + 3, none⟩ = some (.int .i64 ((rd_T67 l1 x5_1).f0.f1)) ∧ w'.cell? ⟨(ad306.add ((x5_1).toNat * 6)).block, (ad306.add ((x5_1).toNat * 6)).off + 4, none⟩ = some (.int .i64 ((rd_T67 l1 x5_1).f1)) ∧ w'.cell? ⟨(ad306.add ((x5_1).toNat * 6)).block, (ad306.add ((x5_1).toNat * 6)).off + 5, none⟩ = some (.slice A306_5 ((rd_T67 l1 x5_1).f2).length c306_5) ∧ w'.cell? (ad305.add ((x5_1).toNat * 6)) = some (.int .i64 ((rd_T67 l0 x5_1).f0.f0.f0)) ∧ w'.cell? ⟨(ad305.add ((x5_1).toNat * 6)).block, (ad305.add ((x5_1).toNat * 6)).off + 1, none⟩ = some (.int .i64 ((rd_T67 l0 x5_1).f0.f0.f1)) ∧ w'.cell? ⟨(ad305.add ((x5_1).toNat * 6)).block, (ad305.add ((x5_1).toNat * 6)).off + 2, none⟩ = some (.int .i64 ((rd_T67 l0 x5_1).f0.f0.f2)) ∧ w'.cell? ⟨(ad305.add ((x5_1).toNat * 6)).block, (ad305.add ((x5_1).toNat * 6)).off + 3, none⟩ = some (.int .i64 ((rd_T67 l0 x5_1).f0.f1)) ∧ w'.cell? ⟨(ad305.add ((x5_1).toNat * 6)).block, (ad305.add ((x5_1).toNat * 6)).off + 4, none⟩ = some (.int .i64 ((rd_T67 l0 x5_1).f1)) ∧ w'.cell? ⟨(ad305.add ((x5_1).toNat * 6)).block, (ad305.add ((x5_1).toNat * 6)).off + 5, none⟩ = some (.slice A305_5 ((rd_T67 l0 x5_1).f2).length c305_5) ∧ w'.cell? (ad306.add ((x5_1).toNat * 6)) = some (.int .i64 ((rd_T67 l1 x5_1).f0.f0.f0)) ∧ w'.cell? ⟨(ad306.add ((x5_1).toNat * 6)).block, (ad306.add ((x5_1).toNat * 6)).off + 1, none⟩ = some (.int .i64 ((rd_T67 l1 x5_1).f0.f0.f1)) ∧ w'.cell? ⟨(ad306.add ((x5_1).toNat * 6)).block, (ad306.add ((x5_1).toNat * 6)).off + 2, none⟩ = some (.int .i64 ((rd_T67 l1 x5_1).f0.f0.f2)) ∧ w'.cell? ⟨(ad306.add ((x5_1).toNat * 6)).block, (ad306.add ((x5_1).toNat * 6)).off + 3, none⟩ = some (.int .i64 ((rd_T67 l1 x5_1).f0.f1)) ∧ w'.cell? ⟨(ad306.add ((x5_1).toNat * 6)).block, (ad306.add ((x5_1).toNat * 6)).off + 4, none⟩ = some (.int .i64 ((rd_T67 l1 x5_1).f1)) ∧ w'.cell? ⟨(ad306.add ((x5_1).toNat * 6)).block, (ad306.add ((x5_1).toNat * 6)).off + 5, none⟩ = some (.slice A306_5 ((rd_T67 l1 x5_1).f2).length c306_5)) (ds := []) #[O,O,O,O,O,O,O,O,O,O,O,O,O,O,O,O,O,O,O,O,O,O,O,O,O,O,O,O,O,O,O,O,O,O,O,O,O,O] (by kernel_rfl) rfl rfl ⟨((HB.out.cell (World.block_lt_of_cell? w _ hw305_0)).trans hw305_0), ((HB.out.cell (World.block_lt_of_cell? w _ hw305_1)).trans hw305_1), ((HB.out.cell (World.block_lt_of_cell? w _ hw305_2)).trans hw305_2), ((HB.out.cell (World.block_lt_of_cell? w _ hw305_3)).trans hw305_3), ((HB.out.cell (World.block_lt_of_cell? w _ hw305_4)).trans hw305_4), ((HB.out.cell (World.block_lt_of_cell? w _ hw305_5)).trans hw305_5), ((HB.out.cell (World.block_lt_of_cell? w _ hw306_0)).trans hw306_0), ((HB.out.cell (World.block_lt_of_cell? w _ hw306_1)).trans hw306_1), ((HB.out.cell (World.block_lt_of_cell? w _ hw306_2)).trans hw306_2), ((HB.out.cell (World.block_lt_of_cell? w _ hw306_3)).trans hw306_3), ((HB.out.cell (World.block_lt_of_cell? w _ hw306_4)).trans hw306_4), ((HB.out.cell (World.block_lt_of_cell? w _ hw306_5)).trans hw306_5), ((HB.out.cell (World.block_lt_of_cell? w _ hw307_0)).trans hw307_0), ((HB.out.cell (World.block_lt_of_cell? w _ hw307_1)).trans hw307_1), ((HB.out.cell (World.block_lt_of_cell? w _ hw307_2)).trans hw307_2), ((HB.out.cell (World.block_lt_of_cell? w _ hw307_3)).trans hw307_3), ((HB.out.cell (World.block_lt_of_cell? w _ hw307_4)).trans hw307_4), ((HB.out.cell (World.block_lt_of_cell? w _ hw307_5)).trans hw307_5), ((HB.out.cell (World.block_lt_of_cell? w _ hw308_0)).trans hw308_0), ((HB.out.cell (World.block_lt_of_cell? w _ hw308_1)).trans hw308_1), ((HB.out.cell (World.block_lt_of_cell? w _ hw308_2)).trans hw308_2), ((HB.out.cell (World.block_lt_of_cell? w _ hw308_3)).trans hw308_3), ((HB.out.cell (World.block_lt_of_cell? w _ hw308_4)).trans hw308_4), ((HB.out.cell (World.block_lt_of_cell? w _ hw308_5)).trans hw308_5), ((HB.out.cell (World.block_lt_of_cell? w _ hw309_0)).trans hw309_0), ((HB.out.cell (World.block_lt_of_cell? w _ hw309_1)).trans hw309_1), ((HB.out.cell (World.block_lt_of_cell? w _ hw309_2)).trans hw309_2), ((HB.out.cell (World.block_lt_of_cell? w _ hw309_3)).trans hw309_3), ((HB.out.cell (World.block_lt_of_cell? w _ hw309_4)).trans hw309_4), ((HB.out.cell (World.block_lt_of_cell? w _ hw309_5)).trans hw309_5), ((HB.out.cell (World.block_lt_of_cell? w _ hw310_0)).trans hw310_0), ((HB.out.cell (World.block_lt_of_cell? w _ hw310_1)).trans hw310_1), ((HB.out.cell (World.block_lt_of_cell? w _ hw310_2)).trans hw310_2), ((HB.out.cell (World.block_lt_of_cell? w _ hw310_3)).trans hw310_3), ((HB.out.cell (World.block_lt_of_cell? w _ hw310_4)).trans hw310_4), ((HB.out.cell (World.block_lt_of_cell? w _ hw310_5)).trans hw310_5)⟩ (fun hHeld => ?_); refine with_tabW ambidexterref23_Same.tab6 ambidexterref23_Same.bits6 (fun HT_ HW_ => ?_)
    generalize wr.drew = w13 at HB HR305_5 HR306_5 HR307_5 HR308_5 HR309_5 HR310_5 hx305_0 hx305_1 hx305_2 hx305_3 hx305_4 hx305_5 hx306_0 hx306_1 hx306_2 hx306_3 hx306_4 hx306_5 hx307_0 hx307_1 hx307_2 hx307_3 hx307_4 hx307_5 hx308_0 hx308_1 hx308_2 hx308_3 hx308_4 hx308_5 hx309_0 hx309_1 hx309_2 hx309_3 hx309_4 hx309_5 hx310_0 hx310_1 hx310_2 hx310_3 hx310_4 hx310_5 hHeld ⊢
    refine pq_ (i := 0) (N := some 17) #[I,O,O,O,O,O,O,O,O,O,O,O,O,O,O,O,O,O,O,O,O,O,O,O,O,O,O,O,O,O,O,O,O,O,O,O,O,O] HT_ ?_
    refine pq_ (i := 1) (N := some 18) #[I,I,O,O,O,O,O,O,O,O,O,O,O,O,O,O,O,O,O,O,O,O,O,O,O,O,O,O,O,O,O,O,O,O,O,O,O,O] HT_ ?_
    refine pq_ (i := 2) (N := some 19) #[I,I,I,O,O,O,O,O,O,O,O,O,O,O,O,O,O,O,O,O,O,O,O,O,O,O,O,O,O,O,O,O,O,O,O,O,O,O] HT_ ?_
    refine pq_ (i := 3) (N := some 20) #[I,I,I,I,O,O,O,O,O,O,O,O,O,O,O,O,O,O,O,O,O,O,O,O,O,O,O,O,O,O,O,O,O,O,O,O,O,O] HT_ ?_
    refine pq_ (i := 5) (N := some 22) #[I,I,I,I,O,I,O,O,O,O,O,O,O,O,O,O,O,O,O,O,O,O,O,O,O,O,O,O,O,O,O,O,O,O,O,O,O,O] HT_ ?_
    refine pq_ (i := 6) (N := some 23) #[I,I,I,I,O,I,I,O,O,O,O,O,O,O,O,O,O,O,O,O,O,O,O,O,O,O,O,O,O,O,O,O,O,O,O,O,O,O] HT_ ?_
    refine pq_ (i := 7) (N := some 24) #[I,I,I,I,O,I,I,I,O,O,O,O,O,O,O,O,O,O,O,O,O,O,O,O,O,O,O,O,O,O,O,O,O,O,O,O,O,O] HT_ ?_
    refine pq_ (i := 8) (N := some 25) #[I,I,I,I,O,I,I,I,I,O,O,O,O,O,O,O,O,O,O,O,O,O,O,O,O,O,O,O,O,O,O,O,O,O,O,O,O,O] HT_ ?_
    refine take_ (i := 4) (N := some 21) (v := ?_) (a' := ?_) #[I,I,I,I,I,I,I,I,I,O,O,O,O,O,O,O,O,O,O,O,O,O,O,O,O,O,O,O,O,O,O,O,O,O,O,O,O,O] rfl rfl (take_ofW HT_.out HW_.out (by kernel_rfl)) (fun _ _ _ h => h) (Or.inl ⟨by rfl, ?_⟩) hHeld ?_ ?_
    rotate_left; · (rintro w' ⟨s0, s1, s2, s3, s4, s5, s6, s7, s8, s9, s10, s11, s12, s13, s14, s15, s16, s17, s18, s19, s20, s21, s22, s23, s24, s25, s26, s27, s28, s29, s30, s31, s32, s33, s34, s35⟩; go_simp; with_reducible rfl)
    rotate_left; · (simp only [Act.put, List.setIfInBounds_toArray, List.set_cons_zero, List.set_cons_succ, i64_w, i32_w]; rfl)
    refine take_ (i := 9) (N := some 26) (v := ?_) (a' := ?_) #[I,I,I,I,I,I,I,I,I,I,O,O,O,O,O,O,O,O,O,O,O,O,O,O,O,O,O,O,O,O,O,O,O,O,O,O,O,O] rfl rfl (take_ofW HT_.out HW_.out (by kernel_rfl)) (fun _ _ _ h => h) (Or.inl ⟨by rfl, ?_⟩) hHeld ?_ ?_
    rotate_left; · (rintro w' ⟨s0, s1, s2, s3, s4, s5, s6, s7, s8, s9, s10, s11, s12, s13, s14, s15, s16, s17, s18, s19, s20, s21, s22, s23, s24, s25, s26, s27, s28, s29, s30, s31, s32, s33, s34, s35⟩; go_simp; with_reducible rfl)
    rotate_left; · (simp only [Act.put, List.setIfInBounds_toArray, List.set_cons_zero, List.set_cons_succ, i64_w, i32_w]; rfl)
    refine pq_ (i := 10) (N := some 27) #[I,I,I,I,I,I,I,I,I,I,I,O,O,O,O,O,O,O,O,O,O,O,O,O,O,O,O,O,O,O,O,O,O,O,O,O,O,O] HT_ ?_
    refine pq_ (i := 11) (N := some 28) #[I,I,I,I,I,I,I,I,I,I,I,I,O,O,O,O,O,O,O,O,O,O,O,O,O,O,O,O,O,O,O,O,O,O,O,O,O,O] HT_ ?_
    refine pq_ (i := 12) (N := some 29) #[I,I,I,I,I,I,I,I,I,I,I,I,I,O,O,O,O,O,O,O,O,O,O,O,O,O,O,O,O,O,O,O,O,O,O,O,O,O] HT_ ?_
    refine pq_ (i := 13) (N := some 30) #[I,I,I,I,I,I,I,I,I,I,I,I,I,I,O,O,O,O,O,O,O,O,O,O,O,O,O,O,O,O,O,O,O,O,O,O,O,O] HT_ ?_
    refine pq_ (i := 14) (N := some 31) #[I,I,I,I,I,I,I,I,I,I,I,I,I,I,I,O,O,O,O,O,O,O,O,O,O,O,O,O,O,O,O,O,O,O,O,O,O,O] HT_ ?_
    refine pq_ (i := 15) (N := some 32) #[I,I,I,I,I,I,I,I,I,I,I,I,I,I,I,I,O,O,O,O,O,O,O,O,O,O,O,O,O,O,O,O,O,O,O,O,O,O] HT_ ?_
    refine pq_ (i := 17) (N := some 34) #[I,I,I,I,I,I,I,I,I,I,I,I,I,I,I,I,O,I,O,O,O,O,O,O,O,O,O,O,O,O,O,O,O,O,O,O,O,O] HT_ ?_
    refine pq_ (i := 18) (N := some 35) #[I,I,I,I,I,I,I,I,I,I,I,I,I,I,I,I,O,I,I,O,O,O,O,O,O,O,O,O,O,O,O,O,O,O,O,O,O,O] HT_ ?_
    refine pq_ (i := 19) (N := some 36) #[I,I,I,I,I,I,I,I,I,I,I,I,I,I,I,I,O,I,I,I,O,O,O,O,O,O,O,O,O,O,O,O,O,O,O,O,O,O] HT_ ?_
    refine pq_ (i := 20) (N := some 37) #[I,I,I,I,I,I,I,I,I,I,I,I,I,I,I,I,O,I,I,I,I,O,O,O,O,O,O,O,O,O,O,O,O,O,O,O,O,O] HT_ ?_
    refine take_ (i := 16) (N := some 33) (v := ?_) (a' := ?_) #[I,I,I,I,I,I,I,I,I,I,I,I,I,I,I,I,I,I,I,I,I,O,O,O,O,O,O,O,O,O,O,O,O,O,O,O,O,O] rfl rfl (take_ofW HT_.out HW_.out (by kernel_rfl)) (fun _ _ _ h => h) (Or.inl ⟨by rfl, ?_⟩) hHeld ?_ ?_
    rotate_left; · (rintro w' ⟨s0, s1, s2, s3, s4, s5, s6, s7, s8, s9, s10, s11, s12, s13, s14, s15, s16, s17, s18, s19, s20, s21, s22, s23, s24, s25, s26, s27, s28, s29, s30, s31, s32, s33, s34, s35⟩; go_simp; with_reducible rfl)
    rotate_left; · (simp only [Act.put, List.setIfInBounds_toArray, List.set_cons_zero, List.set_cons_succ, i64_w, i32_w]; rfl)
    refine take_ (i := 21) (N := some 38) (v := ?_) (a' := ?_) #[I,I,I,I,I,I,I,I,I,I,I,I,I,I,I,I,I,I,I,I,I,I,O,O,O,O,O,O,O,O,O,O,O,O,O,O,O,O] rfl rfl (take_ofW HT_.out HW_.out (by kernel_rfl)) (fun _ _ _ h => h) (Or.inl ⟨by rfl, ?_⟩) hHeld ?_ ?_
    rotate_left; · (rintro w' ⟨s0, s1, s2, s3, s4, s5, s6, s7, s8, s9, s10, s11, s12, s13, s14, s15, s16, s17, s18, s19, s20, s21, s22, s23, s24, s25, s26, s27, s28, s29, s30, s31, s32, s33, s34, s35⟩; go_simp; with_reducible rfl)
    rotate_left; · (simp only [Act.put, List.setIfInBounds_toArray, List.set_cons_zero, List.set_cons_succ, i64_w, i32_w]; rfl)
    refine pq_ (i := 22) (N := some 39) #[I,I,I,I,I,I,I,I,I,I,I,I,I,I,I,I,I,I,I,I,I,I,I,O,O,O,O,O,O,O,O,O,O,O,O,O,O,O] HT_ ?_
    refine pq_ (i := 23) (N := some 40) #[I,I,I,I,I,I,I,I,I,I,I,I,I,I,I,I,I,I,I,I,I,I,I,I,O,O,O,O,O,O,O,O,O,O,O,O,O,O] HT_ ?_
    refine pq_ (i := 24) (N := some 41) #[I,I,I,I,I,I,I,I,I,I,I,I,I,I,I,I,I,I,I,I,I,I,I,I,I,O,O,O,O,O,O,O,O,O,O,O,O,O] HT_ ?_
    refine pq_ (i := 25) (N := some 42) #[I,I,I,I,I,I,I,I,I,I,I,I,I,I,I,I,I,I,I,I,I,I,I,I,I,I,O,O,O,O,O,O,O,O,O,O,O,O] HT_ ?_
    refine pq_ (i := 26) (N := some 43) #[I,I,I,I,I,I,I,I,I,I,I,I,I,I,I,I,I,I,I,I,I,I,I,I,I,I,I,O,O,O,O,O,O,O,O,O,O,O] HT_ ?_
    refine pq_ (i := 27) (N := some 44) #[I,I,I,I,I,I,I,I,I,I,I,I,I,I,I,I,I,I,I,I,I,I,I,I,I,I,I,I,O,O,O,O,O,O,O,O,O,O] HT_ ?_
    refine pq_ (i := 28) (N := some 45) #[I,I,I,I,I,I,I,I,I,I,I,I,I,I,I,I,I,I,I,I,I,I,I,I,I,I,I,I,I,O,O,O,O,O,O,O,O,O] HT_ ?_
    refine pq_ (i := 30) (N := some 47) #[I,I,I,I,I,I,I,I,I,I,I,I,I,I,I,I,I,I,I,I,I,I,I,I,I,I,I,I,I,O,I,O,O,O,O,O,O,O] HT_ ?_
    refine pq_ (i := 31) (N := some 48) #[I,I,I,I,I,I,I,I,I,I,I,I,I,I,I,I,I,I,I,I,I,I,I,I,I,I,I,I,I,O,I,I,O,O,O,O,O,O] HT_ ?_
    refine pq_ (i := 32) (N := some 49) #[I,I,I,I,I,I,I,I,I,I,I,I,I,I,I,I,I,I,I,I,I,I,I,I,I,I,I,I,I,O,I,I,I,O,O,O,O,O] HT_ ?_
    refine pq_ (i := 33) (N := some 50) #[I,I,I,I,I,I,I,I,I,I,I,I,I,I,I,I,I,I,I,I,I,I,I,I,I,I,I,I,I,O,I,I,I,I,O,O,O,O] HT_ ?_
    refine take_ (i := 29) (N := some 46) (v := ?_) (a' := ?_) #[I,I,I,I,I,I,I,I,I,I,I,I,I,I,I,I,I,I,I,I,I,I,I,I,I,I,I,I,I,I,I,I,I,I,O,O,O,O] rfl rfl (take_ofW HT_.out HW_.out (by kernel_rfl)) (fun _ _ _ h => h) (Or.inl ⟨by rfl, ?_⟩) hHeld ?_ ?_
    rotate_left; · (rintro w' ⟨s0, s1, s2, s3, s4, s5, s6, s7, s8, s9, s10, s11, s12, s13, s14, s15, s16, s17, s18, s19, s20, s21, s22, s23, s24, s25, s26, s27, s28, s29, s30, s31, s32, s33, s34, s35⟩; go_simp; with_reducible rfl)
    rotate_left; · (simp only [Act.put, List.setIfInBounds_toArray, List.set_cons_zero, List.set_cons_succ, i64_w, i32_w]; rfl)
    refine take_ (i := 34) (N := some 51) (v := ?_) (a' := ?_) #[I,I,I,I,I,I,I,I,I,I,I,I,I,I,I,I,I,I,I,I,I,I,I,I,I,I,I,I,I,I,I,I,I,I,I,O,O,O] rfl rfl (take_ofW HT_.out HW_.out (by kernel_rfl)) (fun _ _ _ h => h) (Or.inl ⟨by rfl, ?_⟩) hHeld ?_ ?_
    rotate_left; · (rintro w' ⟨s0, s1, s2, s3, s4, s5, s6, s7, s8, s9, s10, s11, s12, s13, s14, s15, s16, s17, s18, s19, s20, s21, s22, s23, s24, s25, s26, s27, s28, s29, s30, s31, s32, s33, s34, s35⟩; go_simp; with_reducible rfl)
    rotate_left; · (simp only [Act.put, List.setIfInBounds_toArray, List.set_cons_zero, List.set_cons_succ, i64_w, i32_w]; rfl)
    refine one_ (i := 35) (N := some 52) #[I,I,I,I,I,I,I,I,I,I,I,I,I,I,I,I,I,I,I,I,I,I,I,I,I,I,I,I,I,I,I,I,I,I,I,I,O,O] rfl rfl (one_of HT_.out (by kernel_rfl)) (by decide) (fun K hK => ?_)
    refine goes_ Try.func71 (by kernel_rfl) rfl #[.slice A305_5 ((rd_T67 l0 x5_1).f2).length c305_5, .slice A306_5 ((rd_T67 l1 x5_1).f2).length c306_5] (by rfl) rfl rfl (by (try simp only [List.map_toArray, List.map_cons, List.map_nil]); first | done | rfl | (simp only [List.length_drop, List.length_take]; rfl)) ?_
    with_reducible refine (ambidexterref22_Same.calls k1 _ _ ((rd_T67 l0 x5_1).f2) _ _ ((rd_T67 l1 x5_1).f2) false _ ?side1 ?side2 ?side3 ?side4 A10.out).mono ?_
    (case side1 => repeat (first | exact (Kd.C_below HR309_5.out HB.out) | (with_reducible refine Kd.C_alloc ?_ _) | (with_reducible refine Kd.C_drewN ?_ _) | (with_reducible refine Kd.C_drew ?_)))
    (case side2 => exact HC309_5.out)
    (case side3 => repeat (first | exact (Kd.C_below HR310_5.out HB.out) | (with_reducible refine Kd.C_alloc ?_ _) | (with_reducible refine Kd.C_drewN ?_ _) | (with_reducible refine Kd.C_drew ?_)))
    (case side4 => exact HC310_5.out)
    rintro e w' ⟨rfl, ⟨nd, rfl⟩⟩
    refine ⟨_, rfl, ?_⟩
    refine hK.out _ _ ⟨((HB.out.cell (World.block_lt_of_cell? w _ hw305_0)).trans hw305_0), ((HB.out.cell (World.block_lt_of_cell? w _ hw305_1)).trans hw305_1), ((HB.out.cell (World.block_lt_of_cell? w _ hw305_2)).trans hw305_2), ((HB.out.cell (World.block_lt_of_cell? w _ hw305_3)).trans hw305_3), ((HB.out.cell (World.block_lt_of_cell? w _ hw305_4)).trans hw305_4), ((HB.out.cell (World.block_lt_of_cell? w _ hw305_5)).trans hw305_5), ((HB.out.cell (World.block_lt_of_cell? w _ hw306_0)).trans hw306_0), ((HB.out.cell (World.block_lt_of_cell? w _ hw306_1)).trans hw306_1), ((HB.out.cell (World.block_lt_of_cell? w _ hw306_2)).trans hw306_2), ((HB.out.cell (World.block_lt_of_cell? w _ hw306_3)).trans hw306_3), ((HB.out.cell (World.block_lt_of_cell? w _ hw306_4)).trans hw306_4), ((HB.out.cell (World.block_lt_of_cell? w _ hw306_5)).trans hw306_5), ((HB.out.cell (World.block_lt_of_cell? w _ hw307_0)).trans hw307_0), ((HB.out.cell (World.block_lt_of_cell? w _ hw307_1)).trans hw307_1), ((HB.out.cell (World.block_lt_of_cell? w _ hw307_2)).trans hw307_2), ((HB.out.cell (World.block_lt_of_cell? w _ hw307_3)).trans hw307_3), ((HB.out.cell (World.block_lt_of_cell? w _ hw307_4)).trans hw307_4), ((HB.out.cell (World.block_lt_of_cell? w _ hw307_5)).trans hw307_5), ((HB.out.cell (World.block_lt_of_cell? w _ hw308_0)).trans hw308_0), ((HB.out.cell (World.block_lt_of_cell? w _ hw308_1)).trans hw308_1), ((HB.out.cell (World.block_lt_of_cell? w _ hw308_2)).trans hw308_2), ((HB.out.cell (World.block_lt_of_cell? w _ hw308_3)).trans hw308_3), ((HB.out.cell (World.block_lt_of_cell? w _ hw308_4)).trans hw308_4), ((HB.out.cell (World.block_lt_of_cell? w _ hw308_5)).trans hw308_5), ((HB.out.cell (World.block_lt_of_cell? w _ hw309_0)).trans hw309_0), ((HB.out.cell (World.block_lt_of_cell? w _ hw309_1)).trans hw309_1), ((HB.out.cell (World.block_lt_of_cell? w _ hw309_2)).trans hw309_2), ((HB.out.cell (World.block_lt_of_cell? w _ hw309_3)).trans hw309_3), ((HB.out.cell (World.block_lt_of_cell? w _ hw309_4)).trans hw309_4), ((HB.out.cell (World.block_lt_of_cell? w _ hw309_5)).trans hw309_5), ((HB.out.cell (World.block_lt_of_cell? w _ hw310_0)).trans hw310_0), ((HB.out.cell (World.block_lt_of_cell? w _ hw310_1)).trans hw310_1), ((HB.out.cell (World.block_lt_of_cell? w _ hw310_2)).trans hw310_2), ((HB.out.cell (World.block_lt_of_cell? w _ hw310_3)).trans hw310_3), ((HB.out.cell (World.block_lt_of_cell? w _ hw310_4)).trans hw310_4), ((HB.out.cell (World.block_lt_of_cell? w _ hw310_5)).trans hw310_5)⟩ (fun hHeld => ?_)
    clear hK K
    refine norm_ (a' := ?_) ?_ ?_
    rotate_left
    ·
     show Act.put _ (some 52) _ = _
     simp only [Act.put, List.setIfInBounds_toArray, List.set_cons_zero, List.set_cons_succ, i64_w, i32_w]
     rfl
    refine pq_ (i := 36) (N := some 53) #[I,I,I,I,I,I,I,I,I,I,I,I,I,I,I,I,I,I,I,I,I,I,I,I,I,I,I,I,I,I,I,I,I,I,I,I,I,O] HT_ ?_
    refine pq_ (i := 37) (N := some 54) #[I,I,I,I,I,I,I,I,I,I,I,I,I,I,I,I,I,I,I,I,I,I,I,I,I,I,I,I,I,I,I,I,I,I,I,I,I,I] HT_ ?_
    refine done_ (done_of HT_.out (by kernel_rfl)) ?_
    try go_wp2
    go_ret
    exact ⟨by first | rfl | (simp [errW_none, errW_some] <;> rfl) | (simp [*, errW_none, errW_some] <;> rfl), by repeat (first | (with_reducible first | exact HB.out | apply below_alloc | apply pw_below_drewN | apply below_drew1) | exact HB.out)⟩
   subst c11
   have H1 : (ambidexterref23_Same.l0 k1 l0 l1 (wrap64 (x5_1 + 1))) = some r := by rw [if_pos rfl] at H; exact H
   clear H
   have H := H1
   clear H1
   have H' := Aside0.mk H
   clear H
   try go_wp2
   have n0_ := Aside0.mk (below_drew1 HB.out)
   clear HB
   have HB := n0_
   clear n0_
   have p305 : 0 ≤ (x5_1 : Int) := od_
   have q305 : x5_1 < (l0.length : Int) := od_
   obtain ⟨ad305, A305_5, c305_5, e305, hx305_0, hx305_1, hx305_2, hx305_3, hx305_4, hx305_5, hl305_5, hi305_5⟩ := at_T67 HR0.out x5_1 p305 q305
   have hw305_5 := hx305_5
   have hw305_4 := hx305_4
   have hw305_3 := hx305_3
   have hw305_2 := hx305_2
   have hw305_1 := hx305_1
   have hw305_0 := hx305_0
   cases e305
   replace hx305_0 := (HB.out.cell (World.block_lt_of_cell? w _ hx305_0)).trans hx305_0
   replace hx305_1 := (HB.out.cell (World.block_lt_of_cell? w _ hx305_1)).trans hx305_1
   replace hx305_2 := (HB.out.cell (World.block_lt_of_cell? w _ hx305_2)).trans hx305_2
   replace hx305_3 := (HB.out.cell (World.block_lt_of_cell? w _ hx305_3)).trans hx305_3
   replace hx305_4 := (HB.out.cell (World.block_lt_of_cell? w _ hx305_4)).trans hx305_4
   replace hx305_5 := (HB.out.cell (World.block_lt_of_cell? w _ hx305_5)).trans hx305_5
   have HR305_5 := Aside0.mk hi305_5
   have HC305_5 := Aside0.mk hl305_5
   clear hi305_5 hl305_5
   replace p305 := eq_true p305
   replace q305 := eq_true q305
   have p306 : 0 ≤ (x5_1 : Int) := od_
   have q306 : x5_1 < (l1.length : Int) := od_
   obtain ⟨ad306, A306_5, c306_5, e306, hx306_0, hx306_1, hx306_2, hx306_3, hx306_4, hx306_5, hl306_5, hi306_5⟩ := at_T67 HR1.out x5_1 p306 q306
   have hw306_5 := hx306_5
   have hw306_4 := hx306_4
   have hw306_3 := hx306_3
   have hw306_2 := hx306_2
   have hw306_1 := hx306_1
   have hw306_0 := hx306_0
   cases e306
   replace hx306_0 := (HB.out.cell (World.block_lt_of_cell? w _ hx306_0)).trans hx306_0
   replace hx306_1 := (HB.out.cell (World.block_lt_of_cell? w _ hx306_1)).trans hx306_1
   replace hx306_2 := (HB.out.cell (World.block_lt_of_cell? w _ hx306_2)).trans hx306_2
   replace hx306_3 := (HB.out.cell (World.block_lt_of_cell? w _ hx306_3)).trans hx306_3
   replace hx306_4 := (HB.out.cell (World.block_lt_of_cell? w _ hx306_4)).trans hx306_4
   replace hx306_5 := (HB.out.cell (World.block_lt_of_cell? w _ hx306_5)).trans hx306_5
   have HR306_5 := Aside0.mk hi306_5
   have HC306_5 := Aside0.mk hl306_5
   clear hi306_5 hl306_5
   replace p306 := eq_true p306
   replace q306 := eq_true q306
   have p307 : 0 ≤ (x5_1 : Int) := od_
   have q307 : x5_1 < (l0.length : Int) := od_
   obtain ⟨ad307, A307_5, c307_5, e307, hx307_0, hx307_1, hx307_2, hx307_3, hx307_4, hx307_5, hl307_5, hi307_5⟩ := at_T67 HR0.out x5_1 p307 q307
   have hw307_5 := hx307_5
   have hw307_4 := hx307_4
   have hw307_3 := hx307_3
   have hw307_2 := hx307_2
   have hw307_1 := hx307_1
   have hw307_0 := hx307_0
   obtain rfl : ad305 = ad307 := (by injection e307)
   replace hx307_0 := (HB.out.cell (World.block_lt_of_cell? w _ hx307_0)).trans hx307_0
   replace hx307_1 := (HB.out.cell (World.block_lt_of_cell? w _ hx307_1)).trans hx307_1
   replace hx307_2 := (HB.out.cell (World.block_lt_of_cell? w _ hx307_2)).trans hx307_2
   replace hx307_3 := (HB.out.cell (World.block_lt_of_cell? w _ hx307_3)).trans hx307_3
   replace hx307_4 := (HB.out.cell (World.block_lt_of_cell? w _ hx307_4)).trans hx307_4
   replace hx307_5 := (HB.out.cell (World.block_lt_of_cell? w _ hx307_5)).trans hx307_5
   have HR307_5 := Aside0.mk hi307_5
   have HC307_5 := Aside0.mk hl307_5
   clear hi307_5 hl307_5
   replace p307 := eq_true p307
   replace q307 := eq_true q307
   have ea_ := Option.some.inj (hx305_5.symm.trans hx307_5)
   injection ea_ with ea_ en_ ec_
   subst ea_
   subst ec_
   clear en_
   have p308 : 0 ≤ (x5_1 : Int) := od_
   have q308 : x5_1 < (l1.length : Int) := od_
   obtain ⟨ad308, A308_5, c308_5, e308, hx308_0, hx308_1, hx308_2, hx308_3, hx308_4, hx308_5, hl308_5, hi308_5⟩ := at_T67 HR1.out x5_1 p308 q308
   have hw308_5 := hx308_5
   have hw308_4 := hx308_4
   have hw308_3 := hx308_3
   have hw308_2 := hx308_2
   have hw308_1 := hx308_1
   have hw308_0 := hx308_0
   obtain rfl : ad306 = ad308 := (by injection e308)
   replace hx308_0 := (HB.out.cell (World.block_lt_of_cell? w _ hx308_0)).trans hx308_0
   replace hx308_1 := (HB.out.cell (World.block_lt_of_cell? w _ hx308_1)).trans hx308_1
   replace hx308_2 := (HB.out.cell (World.block_lt_of_cell? w _ hx308_2)).trans hx308_2
   replace hx308_3 := (HB.out.cell (World.block_lt_of_cell? w _ hx308_3)).trans hx308_3
   replace hx308_4 := (HB.out.cell (World.block_lt_of_cell? w _ hx308_4)).trans hx308_4
   replace hx308_5 := (HB.out.cell (World.block_lt_of_cell? w _ hx308_5)).trans hx308_5
   have HR308_5 := Aside0.mk hi308_5
   have HC308_5 := Aside0.mk hl308_5
   clear hi308_5 hl308_5
   replace p308 := eq_true p308
   replace q308 := eq_true q308
   have ea_ := Option.some.inj (hx306_5.symm.trans hx308_5)
   injection ea_ with ea_ en_ ec_
   subst ea_
   subst ec_
   clear en_
   have p309 : 0 ≤ (x5_1 : Int) := od_
   have q309 : x5_1 < (l0.length : Int) := od_
   obtain ⟨ad309, A309_5, c309_5, e309, hx309_0, hx309_1, hx309_2, hx309_3, hx309_4, hx309_5, hl309_5, hi309_5⟩ := at_T67 HR0.out x5_1 p309 q309
   have hw309_5 := hx309_5
   have hw309_4 := hx309_4
   have hw309_3 := hx309_3
   have hw309_2 := hx309_2
   have hw309_1 := hx309_1
   have hw309_0 := hx309_0
   obtain rfl : ad305 = ad309 := (by injection e309)
   replace hx309_0 := (HB.out.cell (World.block_lt_of_cell? w _ hx309_0)).trans hx309_0
   replace hx309_1 := (HB.out.cell (World.block_lt_of_cell? w _ hx309_1)).trans hx309_1
   replace hx309_2 := (HB.out.cell (World.block_lt_of_cell? w _ hx309_2)).trans hx309_2
   replace hx309_3 := (HB.out.cell (World.block_lt_of_cell? w _ hx309_3)).trans hx309_3
   replace hx309_4 := (HB.out.cell (World.block_lt_of_cell? w _ hx309_4)).trans hx309_4
   replace hx309_5 := (HB.out.cell (World.block_lt_of_cell? w _ hx309_5)).trans hx309_5
   have HR309_5 := Aside0.mk hi309_5
   have HC309_5 := Aside0.mk hl309_5
   clear hi309_5 hl309_5
   replace p309 := eq_true p309
   replace q309 := eq_true q309
   have ea_ := Option.some.inj (hx305_5.symm.trans hx309_5)
   injection ea_ with ea_ en_ ec_
   subst ea_
   subst ec_
   clear en_
   have p310 : 0 ≤ (x5_1 : Int) := od_
   have q310 : x5_1 < (l1.length : Int) := od_
   obtain ⟨ad310, A310_5, c310_5, e310, hx310_0, hx310_1, hx310_2, hx310_3, hx310_4, hx310_5, hl310_5, hi310_5⟩ := at_T67 HR1.out x5_1 p310 q310
   have hw310_5 := hx310_5
   have hw310_4 := hx310_4
   have hw310_3 := hx310_3
   have hw310_2 := hx310_2
   have hw310_1 := hx310_1
   have hw310_0 := hx310_0
   obtain rfl : ad306 = ad310 := (by injection e310)
   replace hx310_0 := (HB.out.cell (World.block_lt_of_cell? w _ hx310_0)).trans hx310_0
   replace hx310_1 := (HB.out.cell (World.block_lt_of_cell? w _ hx310_1)).trans hx310_1
   replace hx310_2 := (HB.out.cell (World.block_lt_of_cell? w _ hx310_2)).trans hx310_2
   replace hx310_3 := (HB.out.cell (World.block_lt_of_cell? w _ hx310_3)).trans hx310_3
   replace hx310_4 := (HB.out.cell (World.block_lt_of_cell? w _ hx310_4)).trans hx310_4
   replace hx310_5 := (HB.out.cell (World.block_lt_of_cell? w _ hx310_5)).trans hx310_5
   have HR310_5 := Aside0.mk hi310_5
   have HC310_5 := Aside0.mk hl310_5
   clear hi310_5 hl310_5
   replace p310 := eq_true p310
   replace q310 := eq_true q310
   have ea_ := Option.some.inj (hx306_5.symm.trans hx310_5)
   injection ea_ with ea_ en_ ec_
   subst ea_
   subst ec_
   clear en_
   refine start_ (n := 38) (S := fun w' => w'.cell? (ad305.add ((x5_1).toNat * 6)) = some (.int .i64 ((rd_T67 l0 x5_1).f0.f0.f0)) ∧ w'.cell? ⟨(ad305.add ((x5_1).toNat * 6)).block, (ad305.add ((x5_1).toNat * 6)).off + 1, none⟩ = some (.int .i64 ((rd_T67 l0 x5_1).f0.f0.f1)) ∧ w'.cell? ⟨(ad305.add ((x5_1).toNat * 6)).block, (ad305.add ((x5_1).toNat * 6)).off + 2, none⟩ = some (.int .i64 ((rd_T67 l0 x5_1).f0.f0.f2)) ∧ w'.cell? ⟨(ad305.add ((x5_1).toNat * 6)).block, (ad305.add ((x5_1).toNat * 6)).off + 3, none⟩ = some (.int .i64 ((rd_T67 l0 x5_1).f0.f1)) ∧ w'.cell? ⟨(ad305.add ((x5_1).toNat * 6)).block, (ad305.add ((x5_1).toNat * 6)).off + 4, none⟩ = some (.int .i64 ((rd_T67 l0 x5_1).f1)) ∧ w'.cell? ⟨(ad305.add ((x5_1).toNat * 6)).block, (ad305.add ((x5_1).toNat * 6)).off + 5, none⟩ = some (.slice A305_5 ((rd_T67 l0 x5_1).f2).length c305_5) ∧ w'.cell? (ad306.add ((x5_1).toNat * 6)) = some (.int .i64 ((rd_T67 l1 x5_1).f0.f0.f0)) ∧ w'.cell? ⟨(ad306.add ((x5_1).toNat * 6)).block, (ad306.add ((x5_1).toNat * 6)).off + 1, none⟩ = some (.int .i64 ((rd_T67 l1 x5_1).f0.f0.f1)) ∧ w'.cell? ⟨(ad306.add ((x5_1).toNat * 6)).block, (ad306.add ((x5_1).toNat * 6)).off + 2, none⟩ = some (.int .i64 ((rd_T67 l1 x5_1).f0.f0.f2)) ∧ w'.cell? ⟨(ad306.add ((x5_1).toNat * 6)).block, (ad306.add ((x5_1).toNat * 6)).off + 3, none⟩ = some (.int .i64 ((rd_T67 l1 x5_1).f0.f1)) ∧ w'.cell? ⟨(ad306.add ((x5_1).toNat * 6)).block, (ad306.add ((x5_1).toNat * 6)).off + 4, none⟩ = some (.int .i64 ((rd_T67 l1 x5_1).f1)) ∧ w'.cell? ⟨(ad306.add ((x5_1).toNat * 6)).block, (ad306.add ((x5_1).toNat * 6)).off + 5, none⟩ = some (.slice A306_5 ((rd_T67 l1 x5_1).f2).length c306_5) ∧ w'.cell? (ad305.add ((x5_1).toNat * 6)) = some (.int .i64 ((rd_T67 l0 x5_1).f0.f0.f0)) ∧ w'.cell? ⟨(ad305.add ((x5_1).toNat * 6)).block, (ad305.add ((x5_1).toNat * 6)).off + 1, none⟩ = some (.int .i64 ((rd_T67 l0 x5_1).f0.f0.f1)) ∧ w'.cell? ⟨(ad305.add ((x5_1).toNat * 6)).block, (ad305.add ((x5_1).toNat * 6)).off + 2, none⟩ = some (.int .i64 ((rd_T67 l0 x5_1).f0.f0.f2)) ∧ w'.cell? ⟨(ad305.add ((x5_1).toNat * 6)).block, (ad305.add ((x5_1).toNat * 6)).off + 3, none⟩ = some (.int .i64 ((rd_T67 l0 x5_1).f0.f1)) ∧ w'.cell? ⟨(ad305.add ((x5_1).toNat * 6)).block, (ad305.add ((x5_1).toNat * 6)).off + 4, none⟩ = some (.int .i64 ((rd_T67 l0 x5_1).f1)) ∧ w'.cell? ⟨(ad305.add ((x5_1).toNat * 6)).block, (ad305.add ((x5_1).toNat * 6)).off + 5, none⟩ = some (.slice A305_5 ((rd_T67 l0 x5_1).f2).length c305_5) ∧ w'.cell? (ad306.add ((x5_1).toNat * 6)) = some (.int .i64 ((rd_T67 l1 x5_1).f0.f0.f0)) ∧ w'.cell? ⟨(ad306.add ((x5_1).toNat * 6)).block, (ad306.add ((x5_1).toNat * 6)).off + 1, none⟩ = some (.int .i64 ((rd_T67 l1 x5_1).f0.f0.f1)) ∧ w'.cell? ⟨(ad306.add ((x5_1).toNat * 6)).block, (ad306.add ((x5_1).toNat * 6)).off + 2, none⟩ = some (.int .i64 ((rd_T67 l1 x5_1).f0.f0.f2)) ∧ w'.cell? ⟨(ad306.add ((x5_1).toNat * 6)).block, (ad306.add ((x5_1).toNat * 6)).off + 3, none⟩ = some (.int .i64 ((rd_T67 l1 x5_1).f0.f1)) ∧ w'.cell? ⟨(ad306.add ((x5_1).toNat * 6)).block, (ad306.add ((x5_1).toNat * 6)).off + 4, none⟩ = some (.int .i64 ((rd_T67 l1 x5_1).f1)) ∧ w'.cell? ⟨(ad306.add ((x5_1).toNat * 6)).block, (ad306.add ((x5_1).toNat * 6)).off + 5, none⟩ = some (.slice A306_5 ((rd_T67 l1 x5_1).f2).length c306_5) ∧ w'.cell? (ad305.add ((x5_1).toNat * 6)) = some (.int .i64 ((rd_T67 l0 x5_1).f0.f0.f0)) ∧ w'.cell? ⟨(ad305.add ((x5_1).toNat * 6)).block, (ad305.add ((x5_1).toNat * 6)).off + 1, none⟩ = some (.int .i64 ((rd_T67 l0 x5_1).f0.f0.f1)) ∧ w'.cell? ⟨(ad305.add ((x5_1).toNat * 6)).block, (ad305.add ((x5_1).toNat * 6)).off + 2, none⟩ = some (.int .i64 ((rd_T67 l0 x5_1).f0.f0.f2)) ∧ w'.cell? ⟨(ad305.add ((x5_1).toNat * 6)).block, (ad305.add ((x5_1).toNat * 6)).off + 3, none⟩ = some (.int .i64 ((rd_T67 l0 x5_1).f0.f1)) ∧ w'.cell? ⟨(ad305.add ((x5_1).toNat * 6)).block, (ad305.add ((x5_1).toNat * 6)).off + 4, none⟩ = some (.int .i64 ((rd_T67 l0 x5_1).f1)) ∧ w'.cell? ⟨(ad305.add ((x5_1).toNat * 6)).block, (ad305.add ((x5_1).toNat * 6)).off + 5, none⟩ = some (.slice A305_5 ((rd_T67 l0 x5_1).f2).length c305_5) ∧ w'.cell? (ad306.add ((x5_1).toNat * 6)) = some (.int .i64 ((rd_T67 l1 x5_1).f0.f0.f0)) ∧ w'.cell? ⟨(ad306.add ((x5_1).toNat * 6)).block, (ad306.add ((x5_1).toNat * 6)).off + 1, none⟩ = some (.int .i64 ((rd_T67 l1 x5_1).f0.f0.f1)) ∧ w'.cell? ⟨(ad306.add ((x5_1).toNat * 6)).block, (ad306.add ((x5_1).toNat * 6)).off + 2, none⟩ = some (.int .i64 ((rd_T67 l1 x5_1).f0.f0.f2)) ∧ w'.cell? ⟨(ad306.add ((x5_1).toNat * 6)).block, (ad306.add ((x5_1).toNat * 6)).off + 3, none⟩ = some (.int .i64 ((rd_T67 l1 x5_1).f0.f1)) ∧ w'.cell? ⟨(ad306.add ((x5_1).toNat * 6)).block, (ad306.add ((x5_1).toNat * 6)).off + 4, none⟩ = some (.int .i64 ((rd_T67 l1 x5_1).f1)) ∧ w'.cell? ⟨(ad306.add ((x5_1).toNat * 6)).block, (ad306.add ((x5_1).toNat * 6)).off + 5, none⟩ = some (.slice A306_5 ((rd_T67 l1 x5_1).f2).length c306_5)) (ds := []) #[O,O,O,O,O,O,O,O,O,O,O,O,O,O,O,O,O,O,O,O,O,O,O,O,O,O,O,O,O,O,O,O,O,O,O,O,O,O] (by kernel_rfl) rfl rfl ⟨((HB.out.cell (World.block_lt_of_cell? w _ hw305_0)).trans hw305_0), ((HB.out.cell (World.block_lt_of_cell? w _ hw305_1)).trans hw305_1), ((HB.out.cell (World.block_lt_of_cell? w _ hw305_2)).trans hw305_2), ((HB.out.cell (World.block_lt_of_cell? w _ hw305_3)).trans hw305_3), ((HB.out.cell (World.block_lt_of_cell? w _ hw305_4)).trans hw305_4), ((HB.out.cell (World.block_lt_of_cell? w _ hw305_5)).trans hw305_5), ((HB.out.cell (World.block_lt_of_cell? w _ hw306_0)).trans hw306_0), ((HB.out.cell (World.block_lt_of_cell? w _ hw306_1)).trans hw306_1), ((HB.out.cell (World.block_lt_of_cell? w _ hw306_2)).trans hw306_2), ((HB.out.cell (World.block_lt_of_cell? w _ hw306_3)).trans hw306_3), ((HB.out.cell (World.block_lt_of_cell? w _ hw306_4)).trans hw306_4), ((HB.out.cell (World.block_lt_of_cell? w _ hw306_5)).trans hw306_5), ((HB.out.cell (World.block_lt_of_cell? w _ hw307_0)).trans hw307_0), ((HB.out.cell (World.block_lt_of_cell? w _ hw307_1)).trans hw307_1), ((HB.out.cell (World.block_lt_of_cell? w _ hw307_2)).trans hw307_2), ((HB.out.cell (World.block_lt_of_cell? w _ hw307_3)).trans hw307_3), ((HB.out.cell (World.block_lt_of_cell? w _ hw307_4)).trans hw307_4), ((HB.out.cell (World.block_lt_of_cell? w _ hw307_5)).trans hw307_5), ((HB.out.cell (World.block_lt_of_cell? w _ hw308_0)).trans hw308_0), ((HB.out.cell (World.block_lt_of_cell? w _ hw308_1)).trans hw308_1), ((HB.out.cell (World.block_lt_of_cell? w _ hw308_2)).trans hw308_2), ((HB.out.cell (World.block_lt_of_cell? w _ hw308_3)).trans hw308_3), ((HB.out.cell (World.block_lt_of_cell? w _ hw308_4)).trans hw308_4), ((HB.out.cell (World.block_lt_of_cell? w _ hw308_5)).trans hw308_5), ((HB.out.cell (World.block_lt_of_cell? w _ hw309_0)).trans hw309_0), ((HB.out.cell (World.block_lt_of_cell? w _ hw309_1)).trans hw309_1), ((HB.out.cell (World.block_lt_of_cell? w _ hw309_2)).trans hw309_2), ((HB.out.cell (World.block_lt_of_cell? w _ hw309_3)).trans hw309_3), ((HB.out.cell (World.block_lt_of_cell? w _ hw309_4)).trans hw309_4), ((HB.out.cell (World.block_lt_of_cell? w _ hw309_5)).trans hw309_5), ((HB.out.cell (World.block_lt_of_cell? w _ hw310_0)).trans hw310_0), ((HB.out.cell (World.block_lt_of_cell? w _ hw310_1)).trans hw310_1), ((HB.out.cell (World.block_lt_of_cell? w _ hw310_2)).trans hw310_2), ((HB.out.cell (World.block_lt_of_cell? w _ hw310_3)).trans hw310_3), ((HB.out.cell (World.block_lt_of_cell? w _ hw310_4)).trans hw310_4), ((HB.out.cell (World.block_lt_of_cell? w _ hw310_5)).trans hw310_5)⟩ (fun hHeld => ?_); refine with_tabW ambidexterref23_Same.tab6 ambidexterref23_Same.bits6 (fun HT_ HW_ => ?_)
   generalize wr.drew = w12 at HB HR305_5 HR306_5 HR307_5 HR308_5 HR309_5 HR310_5 hx305_0 hx305_1 hx305_2 hx305_3 hx305_4 hx305_5 hx306_0 hx306_1 hx306_2 hx306_3 hx306_4 hx306_5 hx307_0 hx307_1 hx307_2 hx307_3 hx307_4 hx307_5 hx308_0 hx308_1 hx308_2 hx308_3 hx308_4 hx308_5 hx309_0 hx309_1 hx309_2 hx309_3 hx309_4 hx309_5 hx310_0 hx310_1 hx310_2 hx310_3 hx310_4 hx310_5 hHeld ⊢
   refine pq_ (i := 0) (N := some 17) #[I,O,O,O,O,O,O,O,O,O,O,O,O,O,O,O,O,O,O,O,O,O,O,O,O,O,O,O,O,O,O,O,O,O,O,O,O,O] HT_ ?_
   refine pq_ (i := 1) (N := some 18) #[I,I,O,O,O,O,O,O,O,O,O,O,O,O,O,O,O,O,O,O,O,O,O,O,O,O,O,O,O,O,O,O,O,O,O,O,O,O] HT_ ?_
   refine pq_ (i := 2) (N := some 19) #[I,I,I,O,O,O,O,O,O,O,O,O,O,O,O,O,O,O,O,O,O,O,O,O,O,O,O,O,O,O,O,O,O,O,O,O,O,O] HT_ ?_
   refine pq_ (i := 3) (N := some 20) #[I,I,I,I,O,O,O,O,O,O,O,O,O,O,O,O,O,O,O,O,O,O,O,O,O,O,O,O,O,O,O,O,O,O,O,O,O,O] HT_ ?_
   refine pq_ (i := 5) (N := some 22) #[I,I,I,I,O,I,O,O,O,O,O,O,O,O,O,O,O,O,O,O,O,O,O,O,O,O,O,O,O,O,O,O,O,O,O,O,O,O] HT_ ?_
   refine pq_ (i := 6) (N := some 23) #[I,I,I,I,O,I,I,O,O,O,O,O,O,O,O,O,O,O,O,O,O,O,O,O,O,O,O,O,O,O,O,O,O,O,O,O,O,O] HT_ ?_
   refine pq_ (i := 7) (N := some 24) #[I,I,I,I,O,I,I,I,O,O,O,O,O,O,O,O,O,O,O,O,O,O,O,O,O,O,O,O,O,O,O,O,O,O,O,O,O,O] HT_ ?_
   refine pq_ (i := 8) (N := some 25) #[I,I,I,I,O,I,I,I,I,O,O,O,O,O,O,O,O,O,O,O,O,O,O,O,O,O,O,O,O,O,O,O,O,O,O,O,O,O] HT_ ?_
   refine take_ (i := 4) (N := some 21) (v := ?_) (a' := ?_) #[I,I,I,I,I,I,I,I,I,O,O,O,O,O,O,O,O,O,O,O,O,O,O,O,O,O,O,O,O,O,O,O,O,O,O,O,O,O] rfl rfl (take_ofW HT_.out HW_.out (by kernel_rfl)) (fun _ _ _ h => h) (Or.inl ⟨by rfl, ?_⟩) hHeld ?_ ?_
   rotate_left; · (rintro w' ⟨s0, s1, s2, s3, s4, s5, s6, s7, s8, s9, s10, s11, s12, s13, s14, s15, s16, s17, s18, s19, s20, s21, s22, s23, s24, s25, s26, s27, s28, s29, s30, s31, s32, s33, s34, s35⟩; go_simp; with_reducible rfl)
   rotate_left; · (simp only [Act.put, List.setIfInBounds_toArray, List.set_cons_zero, List.set_cons_succ, i64_w, i32_w]; rfl)
   refine take_ (i := 9) (N := some 26) (v := ?_) (a' := ?_) #[I,I,I,I,I,I,I,I,I,I,O,O,O,O,O,O,O,O,O,O,O,O,O,O,O,O,O,O,O,O,O,O,O,O,O,O,O,O] rfl rfl (take_ofW HT_.out HW_.out (by kernel_rfl)) (fun _ _ _ h => h) (Or.inl ⟨by rfl, ?_⟩) hHeld ?_ ?_
   rotate_left; · (rintro w' ⟨s0, s1, s2, s3, s4, s5, s6, s7, s8, s9, s10, s11, s12, s13, s14, s15, s16, s17, s18, s19, s20, s21, s22, s23, s24, s25, s26, s27, s28, s29, s30, s31, s32, s33, s34, s35⟩; go_simp; with_reducible rfl)
   rotate_left; · (simp only [Act.put, List.setIfInBounds_toArray, List.set_cons_zero, List.set_cons_succ, i64_w, i32_w]; rfl)
   refine pq_ (i := 10) (N := some 27) #[I,I,I,I,I,I,I,I,I,I,I,O,O,O,O,O,O,O,O,O,O,O,O,O,O,O,O,O,O,O,O,O,O,O,O,O,O,O] HT_ ?_
   refine pq_ (i := 11) (N := some 28) #[I,I,I,I,I,I,I,I,I,I,I,I,O,O,O,O,O,O,O,O,O,O,O,O,O,O,O,O,O,O,O,O,O,O,O,O,O,O] HT_ ?_
   refine pq_ (i := 12) (N := some 29) #[I,I,I,I,I,I,I,I,I,I,I,I,I,O,O,O,O,O,O,O,O,O,O,O,O,O,O,O,O,O,O,O,O,O,O,O,O,O] HT_ ?_
   refine pq_ (i := 13) (N := some 30) #[I,I,I,I,I,I,I,I,I,I,I,I,I,I,O,O,O,O,O,O,O,O,O,O,O,O,O,O,O,O,O,O,O,O,O,O,O,O] HT_ ?_
   refine pq_ (i := 14) (N := some 31) #[I,I,I,I,I,I,I,I,I,I,I,I,I,I,I,O,O,O,O,O,O,O,O,O,O,O,O,O,O,O,O,O,O,O,O,O,O,O] HT_ ?_
   refine pq_ (i := 15) (N := some 32) #[I,I,I,I,I,I,I,I,I,I,I,I,I,I,I,I,O,O,O,O,O,O,O,O,O,O,O,O,O,O,O,O,O,O,O,O,O,O] HT_ ?_
   refine pq_ (i := 17) (N := some 34) #[I,I,I,I,I,I,I,I,I,I,I,I,I,I,I,I,O,I,O,O,O,O,O,O,O,O,O,O,O,O,O,O,O,O,O,O,O,O] HT_ ?_
   refine pq_ (i := 18) (N := some 35) #[I,I,I,I,I,I,I,I,I,I,I,I,I,I,I,I,O,I,I,O,O,O,O,O,O,O,O,O,O,O,O,O,O,O,O,O,O,O] HT_ ?_
   refine pq_ (i := 19) (N := some 36) #[I,I,I,I,I,I,I,I,I,I,I,I,I,I,I,I,O,I,I,I,O,O,O,O,O,O,O,O,O,O,O,O,O,O,O,O,O,O] HT_ ?_
   refine pq_ (i := 20) (N := some 37) #[I,I,I,I,I,I,I,I,I,I,I,I,I,I,I,I,O,I,I,I,I,O,O,O,O,O,O,O,O,O,O,O,O,O,O,O,O,O] HT_ ?_
   refine take_ (i := 16) (N := some 33) (v := ?_) (a' := ?_) #[I,I,I,I,I,I,I,I,I,I,I,I,I,I,I,I,I,I,I,I,I,O,O,O,O,O,O,O,O,O,O,O,O,O,O,O,O,O] rfl rfl (take_ofW HT_.out HW_.out (by kernel_rfl)) (fun _ _ _ h => h) (Or.inl ⟨by rfl, ?_⟩) hHeld ?_ ?_
   rotate_left; · (rintro w' ⟨s0, s1, s2, s3, s4, s5, s6, s7, s8, s9, s10, s11, s12, s13, s14, s15, s16, s17, s18, s19, s20, s21, s22, s23, s24, s25, s26, s27, s28, s29, s30, s31, s32, s33, s34, s35⟩; go_simp; with_reducible rfl)
   rotate_left; · (simp only [Act.put, List.setIfInBounds_toArray, List.set_cons_zero, List.set_cons_succ, i64_w, i32_w]; rfl)
   refine take_ (i := 21) (N := some 38) (v := ?_) (a' := ?_) #[I,I,I,I,I,I,I,I,I,I,I,I,I,I,I,I,I,I,I,I,I,I,O,O,O,O,O,O,O,O,O,O,O,O,O,O,O,O] rfl rfl (take_ofW HT_.out HW_.out (by kernel_rfl)) (fun _ _ _ h => h) (Or.inl ⟨by rfl, ?_⟩) hHeld ?_ ?_
   rotate_left; · (rintro w' ⟨s0, s1, s2, s3, s4, s5, s6, s7, s8, s9, s10, s11, s12, s13, s14, s15, s16, s17, s18, s19, s20, s21, s22, s23, s24, s25, s26, s27, s28, s29, s30, s31, s32, s33, s34, s35⟩; go_simp; with_reducible rfl)
   rotate_left; · (simp only [Act.put, List.setIfInBounds_toArray, List.set_cons_zero, List.set_cons_succ, i64_w, i32_w]; rfl)
   refine pq_ (i := 22) (N := some 39) #[I,I,I,I,I,I,I,I,I,I,I,I,I,I,I,I,I,I,I,I,I,I,I,O,O,O,O,O,O,O,O,O,O,O,O,O,O,O] HT_ ?_
   refine pq_ (i := 23) (N := some 40) #[I,I,I,I,I,I,I,I,I,I,I,I,I,I,I,I,I,I,I,I,I,I,I,I,O,O,O,O,O,O,O,O,O,O,O,O,O,O] HT_ ?_
   refine pq_ (i := 24) (N := some 41) #[I,I,I,I,I,I,I,I,I,I,I,I,I,I,I,I,I,I,I,I,I,I,I,I,I,O,O,O,O,O,O,O,O,O,O,O,O,O] HT_ ?_
   refine pq_ (i := 25) (N := some 42) #[I,I,I,I,I,I,I,I,I,I,I,I,I,I,I,I,I,I,I,I,I,I,I,I,I,I,O,O,O,O,O,O,O,O,O,O,O,O] HT_ ?_
   refine pq_ (i := 26) (N := some 43) #[I,I,I,I,I,I,I,I,I,I,I,I,I,I,I,I,I,I,I,I,I,I,I,I,I,I,I,O,O,O,O,O,O,O,O,O,O,O] HT_ ?_
   refine pq_ (i := 27) (N := some 44) #[I,I,I,I,I,I,I,I,I,I,I,I,I,I,I,I,I,I,I,I,I,I,I,I,I,I,I,I,O,O,O,O,O,O,O,O,O,O] HT_ ?_
   refine pq_ (i := 28) (N := some 45) #[I,I,I,I,I,I,I,I,I,I,I,I,I,I,I,I,I,I,I,I,I,I,I,I,I,I,I,I,I,O,O,O,O,O,O,O,O,O] HT_ ?_
   refine pq_ (i := 30) (N := some 47) #[I,I,I,I,I,I,I,I,I,I,I,I,I,I,I,I,I,I,I,I,I,I,I,I,I,I,I,I,I,O,I,O,O,O,O,O,O,O] HT_ ?_
   refine pq_ (i := 31) (N := some 48) #[I,I,I,I,I,I,I,I,I,I,I,I,I,I,I,I,I,I,I,I,I,I,I,I,I,I,I,I,I,O,I,I,O,O,O,O,O,O] HT_ ?_
   refine pq_ (i := 32) (N := some 49) #[I,I,I,I,I,I,I,I,I,I,I,I,I,I,I,I,I,I,I,I,I,I,I,I,I,I,I,I,I,O,I,I,I,O,O,O,O,O] HT_ ?_
   refine pq_ (i := 33) (N := some 50) #[I,I,I,I,I,I,I,I,I,I,I,I,I,I,I,I,I,I,I,I,I,I,I,I,I,I,I,I,I,O,I,I,I,I,O,O,O,O] HT_ ?_
   refine take_ (i := 29) (N := some 46) (v := ?_) (a' := ?_) #[I,I,I,I,I,I,I,I,I,I,I,I,I,I,I,I,I,I,I,I,I,I,I,I,I,I,I,I,I,I,I,I,I,I,O,O,O,O] rfl rfl (take_ofW HT_.out HW_.out (by kernel_rfl)) (fun _ _ _ h => h) (Or.inl ⟨by rfl, ?_⟩) hHeld ?_ ?_
   rotate_left; · (rintro w' ⟨s0, s1, s2, s3, s4, s5, s6, s7, s8, s9, s10, s11, s12, s13, s14, s15, s16, s17, s18, s19, s20, s21, s22, s23, s24, s25, s26, s27, s28, s29, s30, s31, s32, s33, s34, s35⟩; go_simp; with_reducible rfl)
   rotate_left; · (simp only [Act.put, List.setIfInBounds_toArray, List.set_cons_zero, List.set_cons_succ, i64_w, i32_w]; rfl)
   refine take_ (i := 34) (N := some 51) (v := ?_) (a' := ?_) #[I,I,I,I,I,I,I,I,I,I,I,I,I,I,I,I,I,I,I,I,I,I,I,I,I,I,I,I,I,I,I,I,I,I,I,O,O,O] rfl rfl (take_ofW HT_.out HW_.out (by kernel_rfl)) (fun _ _ _ h => h) (Or.inl ⟨by rfl, ?_⟩) hHeld ?_ ?_
   rotate_left; · (rintro w' ⟨s0, s1, s2, s3, s4, s5, s6, s7, s8, s9, s10, s11, s12, s13, s14, s15, s16, s17, s18, s19, s20, s21, s22, s23, s24, s25, s26, s27, s28, s29, s30, s31, s32, s33, s34, s35⟩; go_simp; with_reducible rfl)
   rotate_left; · (simp only [Act.put, List.setIfInBounds_toArray, List.set_cons_zero, List.set_cons_succ, i64_w, i32_w]; rfl)
   refine one_ (i := 35) (N := some 52) #[I,I,I,I,I,I,I,I,I,I,I,I,I,I,I,I,I,I,I,I,I,I,I,I,I,I,I,I,I,I,I,I,I,I,I,I,O,O] rfl rfl (one_of HT_.out (by kernel_rfl)) (by decide) (fun K hK => ?_)
   refine goes_ Try.func71 (by kernel_rfl) rfl #[.slice A305_5 ((rd_T67 l0 x5_1).f2).length c305_5, .slice A306_5 ((rd_T67 l1 x5_1).f2).length c306_5] (by rfl) rfl rfl (by (try simp only [List.map_toArray, List.map_cons, List.map_nil]); first | done | rfl | (simp only [List.length_drop, List.length_take]; rfl)) ?_
   with_reducible refine (ambidexterref22_Same.calls k1 _ _ ((rd_T67 l0 x5_1).f2) _ _ ((rd_T67 l1 x5_1).f2) true _ ?side1 ?side2 ?side3 ?side4 A10.out).mono ?_
   (case side1 => repeat (first | exact (Kd.C_below HR309_5.out HB.out) | (with_reducible refine Kd.C_alloc ?_ _) | (with_reducible refine Kd.C_drewN ?_ _) | (with_reducible refine Kd.C_drew ?_)))
   (case side2 => exact HC309_5.out)
   (case side3 => repeat (first | exact (Kd.C_below HR310_5.out HB.out) | (with_reducible refine Kd.C_alloc ?_ _) | (with_reducible refine Kd.C_drewN ?_ _) | (with_reducible refine Kd.C_drew ?_)))
   (case side4 => exact HC310_5.out)
   rintro e w' ⟨rfl, ⟨nd, rfl⟩⟩
   refine ⟨_, rfl, ?_⟩
   refine hK.out _ _ ⟨((HB.out.cell (World.block_lt_of_cell? w _ hw305_0)).trans hw305_0), ((HB.out.cell (World.block_lt_of_cell? w _ hw305_1)).trans hw305_1), ((HB.out.cell (World.block_lt_of_cell? w _ hw305_2)).trans hw305_2), ((HB.out.cell (World.block_lt_of_cell? w _ hw305_3)).trans hw305_3), ((HB.out.cell (World.block_lt_of_cell? w _ hw305_4)).trans hw305_4), ((HB.out.cell (World.block_lt_of_cell? w _ hw305_5)).trans hw305_5), ((HB.out.cell (World.block_lt_of_cell? w _ hw306_0)).trans hw306_0), ((HB.out.cell (World.block_lt_of_cell? w _ hw306_1)).trans hw306_1), ((HB.out.cell (World.block_lt_of_cell? w _ hw306_2)).trans hw306_2), ((HB.out.cell (World.block_lt_of_cell? w _ hw306_3)).trans hw306_3), ((HB.out.cell (World.block_lt_of_cell? w _ hw306_4)).trans hw306_4), ((HB.out.cell (World.block_lt_of_cell? w _ hw306_5)).trans hw306_5), ((HB.out.cell (World.block_lt_of_cell? w _ hw307_0)).trans hw307_0), ((HB.out.cell (World.block_lt_of_cell? w _ hw307_1)).trans hw307_1), ((HB.out.cell (World.block_lt_of_cell? w _ hw307_2)).trans hw307_2), ((HB.out.cell (World.block_lt_of_cell? w _ hw307_3)).trans hw307_3), ((HB.out.cell (World.block_lt_of_cell? w _ hw307_4)).trans hw307_4), ((HB.out.cell (World.block_lt_of_cell? w _ hw307_5)).trans hw307_5), ((HB.out.cell (World.block_lt_of_cell? w _ hw308_0)).trans hw308_0), ((HB.out.cell (World.block_lt_of_cell? w _ hw308_1)).trans hw308_1), ((HB.out.cell (World.block_lt_of_cell? w _ hw308_2)).trans hw308_2), ((HB.out.cell (World.block_lt_of_cell? w _ hw308_3)).trans hw308_3), ((HB.out.cell (World.block_lt_of_cell? w _ hw308_4)).trans hw308_4), ((HB.out.cell (World.block_lt_of_cell? w _ hw308_5)).trans hw308_5), ((HB.out.cell (World.block_lt_of_cell? w _ hw309_0)).trans hw309_0), ((HB.out.cell (World.block_lt_of_cell? w _ hw309_1)).trans hw309_1), ((HB.out.cell (World.block_lt_of_cell? w _ hw309_2)).trans hw309_2), ((HB.out.cell (World.block_lt_of_cell? w _ hw309_3)).trans hw309_3), ((HB.out.cell (World.block_lt_of_cell? w _ hw309_4)).trans hw309_4), ((HB.out.cell (World.block_lt_of_cell? w _ hw309_5)).trans hw309_5), ((HB.out.cell (World.block_lt_of_cell? w _ hw310_0)).trans hw310_0), ((HB.out.cell (World.block_lt_of_cell? w _ hw310_1)).trans hw310_1), ((HB.out.cell (World.block_lt_of_cell? w _ hw310_2)).trans hw310_2), ((HB.out.cell (World.block_lt_of_cell? w _ hw310_3)).trans hw310_3), ((HB.out.cell (World.block_lt_of_cell? w _ hw310_4)).trans hw310_4), ((HB.out.cell (World.block_lt_of_cell? w _ hw310_5)).trans hw310_5)⟩ (fun hHeld => ?_)
   clear hK K
   refine norm_ (a' := ?_) ?_ ?_
   rotate_left
   ·
    show Act.put _ (some 52) _ = _
    simp only [Act.put, List.setIfInBounds_toArray, List.set_cons_zero, List.set_cons_succ, i64_w, i32_w]
    rfl
   refine pq_ (i := 36) (N := some 53) #[I,I,I,I,I,I,I,I,I,I,I,I,I,I,I,I,I,I,I,I,I,I,I,I,I,I,I,I,I,I,I,I,I,I,I,I,I,O] HT_ ?_
   refine pq_ (i := 37) (N := some 54) #[I,I,I,I,I,I,I,I,I,I,I,I,I,I,I,I,I,I,I,I,I,I,I,I,I,I,I,I,I,I,I,I,I,I,I,I,I,I] HT_ ?_
   refine done_ (done_of HT_.out (by kernel_rfl)) ?_
   try go_wp2
   go_roundg k1
   case measure => have := HK1.out; omega
   case rel => exact ⟨(wrap64 (x5_1 + 1)), (by first | rfl | (simp; done) | (simp [*]; done)), H', ⟨by have := HK1.out; omega⟩, ⟨by repeat (first | (with_reducible first | exact HB.out | apply below_alloc | apply pw_below_drewN | apply below_drew1) | exact HB.out)⟩⟩
end Go.Proofs.Ytmmaodlngnjmlaa.P
