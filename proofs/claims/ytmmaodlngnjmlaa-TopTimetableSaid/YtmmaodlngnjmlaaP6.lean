-- Written by this session's own program, for this seat. Lean checks it.
import Derived.Test.YtmmaodlngnjmlaaP0
import Derived.Test.YtmmaodlngnjmlaaP1
import Derived.Test.YtmmaodlngnjmlaaXShorts
namespace Go.Proofs.Ytmmaodlngnjmlaa.P
open Go.RowKit Go.Proofs.YtmmaodlngnjmlaaW.PrintWords Go.Proofs.YtmmaodlngnjmlaaW.PrintLast Go.Proofs.YtmmaodlngnjmlaaW.PrintMore
attribute [local go_sem] max2_int min2_int max_two min_two max_three min_three max_four min_four   -- for this text's walks alone
set_option linter.unusedVariables false
set_option linter.unusedSimpArgs false

attribute [local go_sem high] eqA63

/-! ### ambidexterref23_Runs: function 28 -/
mutual
def ambidexterref23_Runs.l0 : Nat → List (S63) → List (S65) → Int → Option ((List (S65)))
 | 0, _, _, _ => none
 | k + 1, x0, x3, x4 => if x4 < (x0.length : Int) then (ambidexterref23_Runs.l1 k x0 x3 x4 1) else (some x3)
def ambidexterref23_Runs.l1 : Nat → List (S63) → List (S65) → Int → Int → Option ((List (S65)))
 | 0, _, _, _, _ => none
 | k + 1, x0, x3, x4, x5 => if (wrap64 (x4 + x5)) < (x0.length : Int) then (if 0 ≤ (wrap64 (x4 + x5)) then (if 0 ≤ x4 then (if x4 < (x0.length : Int) then (if (((rd_T63 x0 (wrap64 (x4 + x5))).f0) == ((rd_T63 x0 x4).f0) && (((rd_T63 x0 (wrap64 (x4 + x5))).f1) == ((rd_T63 x0 x4).f1) && (((rd_T63 x0 (wrap64 (x4 + x5))).f2) == ((rd_T63 x0 x4).f2)))) = true then (ambidexterref23_Runs.l1 k x0 x3 x4 (wrap64 (x5 + 1))) else (if x3.length < 4398046511104 then (ambidexterref23_Runs.l0 k x0 (x3 ++ [(⟨(⟨(rd_T63 x0 x4).f0, (rd_T63 x0 x4).f1, (rd_T63 x0 x4).f2⟩ : S63), x5⟩ : S65)]) (wrap64 (x4 + x5))) else (none))) else (none)) else (none)) else (none)) else (if 0 ≤ x4 then (if x4 < (x0.length : Int) then (if x3.length < 4398046511104 then (ambidexterref23_Runs.l0 k x0 (x3 ++ [(⟨(⟨(rd_T63 x0 x4).f0, (rd_T63 x0 x4).f1, (rd_T63 x0 x4).f2⟩ : S63), x5⟩ : S65)]) (wrap64 (x4 + x5))) else (none)) else (none)) else (none))
end
def ambidexterref23_Runs.f (k : Nat) (l0 : List (S63)) : Option ((List (S65))) := ambidexterref23_Runs.l0 k l0 (([] : List (S65))) 0
theorem ambidexterref23_Runs.mono_l : ∀ k, (∀ y0 y1 y2, LeO (ambidexterref23_Runs.l0 k y0 y1 y2) (ambidexterref23_Runs.l0 (k + 1) y0 y1 y2)) ∧ (∀ y0 y1 y2 y3, LeO (ambidexterref23_Runs.l1 k y0 y1 y2 y3) (ambidexterref23_Runs.l1 (k + 1) y0 y1 y2 y3))
 | 0 => ⟨fun _ _ _ r h => by simp [ambidexterref23_Runs.l0] at h, fun _ _ _ _ r h => by simp [ambidexterref23_Runs.l1] at h⟩
 | k + 1 => by
  obtain ⟨ih0, ih1⟩ := ambidexterref23_Runs.mono_l k
  refine ⟨?_, ?_⟩
  ·
   intro y0 y1 y2
   unfold ambidexterref23_Runs.l0
   repeat' first
   | (with_reducible exact ih0 _ _ _)
   | (with_reducible exact ih1 _ _ _ _)
   | (with_reducible exact LeO.refl _)
   | (with_reducible exact LeO.none _)
   | (with_reducible refine LeO.ite ?_ ?_)
   | (with_reducible refine LeO.bind ?_ (fun _ => ?_))
   | exact ih0 _ _ _
   | exact ih1 _ _ _ _
   | exact LeO.none _
   | refine LeO.ite ?_ ?_
   | refine LeO.bind ?_ (fun _ => ?_)
  ·
   intro y0 y1 y2 y3
   unfold ambidexterref23_Runs.l1
   repeat' first
   | (with_reducible exact ih0 _ _ _)
   | (with_reducible exact ih1 _ _ _ _)
   | (with_reducible exact LeO.refl _)
   | (with_reducible exact LeO.none _)
   | (with_reducible refine LeO.ite ?_ ?_)
   | (with_reducible refine LeO.bind ?_ (fun _ => ?_))
   | exact ih0 _ _ _
   | exact ih1 _ _ _ _
   | exact LeO.none _
   | refine LeO.ite ?_ ?_
   | refine LeO.bind ?_ (fun _ => ?_)
theorem ambidexterref23_Runs.mono : ∀ a0 k, LeO (ambidexterref23_Runs.f k a0) (ambidexterref23_Runs.f (k + 1) a0) := by
 intro a0 k
 obtain ⟨ih0, ih1⟩ := ambidexterref23_Runs.mono_l k
 unfold ambidexterref23_Runs.f
 repeat' first
   | (with_reducible exact ih0 _ _ _)
   | (with_reducible exact ih1 _ _ _ _)
   | (with_reducible exact LeO.refl _)
   | (with_reducible exact LeO.none _)
   | (with_reducible refine LeO.ite ?_ ?_)
   | (with_reducible refine LeO.bind ?_ (fun _ => ?_))
   | exact ih0 _ _ _
   | exact ih1 _ _ _ _
   | exact LeO.none _
   | refine LeO.ite ?_ ?_
   | refine LeO.bind ?_ (fun _ => ?_)
set_option maxHeartbeats 8000000 in
set_option maxRecDepth 100000 in
theorem ambidexterref23_Runs.calls (k : Nat) (A0 : Option Addr) (c0 : Nat) (l0 : List (S63)) (r : List (S65)) (w : World) (hr0 : Kd.C k63 w A0 l0.length l0) (hc0 : l0.length ≤ c0) (h : ambidexterref23_Runs.f k l0 = some r) :
  Calls Try.prog 28 #[.slice A0 l0.length c0] w fun e w' => ∃ v0_ : Value, e = .returned (v0_) ∧ Kd.R k65 65 w' w.heap.size (fun _ => True) v0_ r ∧ Below w.heap.size w w' := by
 have hu63 := Try.underlying63
 have hu65 := Try.underlying65
 have HR0 := Aside0.mk hr0
 have HC0 := Aside0.mk hc0
 clear hr0 hc0
 have HB := Aside0.mk (Below.refl w.heap.size w)
 have H : (ambidexterref23_Runs.l0 k l0 (([] : List (S65))) 0) = some r := h
 clear h
 obtain ⟨y239, hy239⟩ : ∃ y_ : List (S65), y_ = (([] : List (S65))) := ⟨_, rfl⟩
 replace H : (ambidexterref23_Runs.l0 k l0 y239 0) = some r := by first | (rw [hy239]; with_reducible exact H) | (have H2_ := (Option.bind_some _ _).symm.trans H; rw [hy239]; with_reducible exact H2_) | (have H2_ := (Option.bind_some _ _).symm.trans H; with_reducible exact H2_) | with_reducible exact H | (rw [hy239]; exact H) | exact H
 have Ny239 := Aside0.mk hy239
 clear hy239
 have H' := Aside0.mk H
 clear H
 go_enter Try.func28, Try.ntmps28
 go_wp2_with (first | ((with_reducible refine gate_dst (N := 6) rfl ?_); refine Kd.R_lit k65 _ 65 ?hg (N := 6) ?hd (xs := ([] : List (S65))) (inner := []) (ok := fun _ => True) (okp := fun _ => True) ?hr ?hp (fun _ hk => hk) trivial (Below.refl _ _) (Nat.le_refl _) (by simp) ?_; (case hd => rfl); (case hg => rfl); (case hr => first | (go_simp; done) | (go_simp; rfl)); (case hp => exact (Reps.none _ _)); intro v240 w2 ho3 hb hg_ hnew_; clear hg_ hnew_; (first | rw [← Ny239.out] at ho3 | (simp only [Int.reduceToNat] at ho3; rw [← Ny239.out] at ho3)); have n0_ := Aside0.mk (Kd.R_lower ho3 (below_size hb_)); have n1_ := Aside0.mk (below_step hb_ hb); clear HB; have HO241 := n0_; have HB := n1_; clear n0_ n1_; clear hb ho3))
 repeat (go_quiet (first | ((with_reducible refine gate_dst (N := 6) rfl ?_); refine Kd.R_lit k65 _ 65 ?hg (N := 6) ?hd (xs := ([] : List (S65))) (inner := []) (ok := fun _ => True) (okp := fun _ => True) ?hr ?hp (fun _ hk => hk) trivial (Below.refl _ _) (Nat.le_refl _) (by simp) ?_; (case hd => rfl); (case hg => rfl); (case hr => first | (go_simp; done) | (go_simp; rfl)); (case hp => exact (Reps.none _ _)); intro v240 w2 ho3 hb hg_ hnew_; clear hg_ hnew_; (first | rw [← Ny239.out] at ho3 | (simp only [Int.reduceToNat] at ho3; rw [← Ny239.out] at ho3)); have n0_ := Aside0.mk (Kd.R_lower ho3 (below_size hb_)); have n1_ := Aside0.mk (below_step hb_ hb); clear HB; have HO241 := n0_; have HB := n1_; clear n0_ n1_; clear hb ho3)); try go_wp2_with (first | ((with_reducible refine gate_dst (N := 6) rfl ?_); refine Kd.R_lit k65 _ 65 ?hg (N := 6) ?hd (xs := ([] : List (S65))) (inner := []) (ok := fun _ => True) (okp := fun _ => True) ?hr ?hp (fun _ hk => hk) trivial (Below.refl _ _) (Nat.le_refl _) (by simp) ?_; (case hd => rfl); (case hg => rfl); (case hr => first | (go_simp; done) | (go_simp; rfl)); (case hp => exact (Reps.none _ _)); intro v240 w2 ho3 hb hg_ hnew_; clear hg_ hnew_; (first | rw [← Ny239.out] at ho3 | (simp only [Int.reduceToNat] at ho3; rw [← Ny239.out] at ho3)); have n0_ := Aside0.mk (Kd.R_lower ho3 (below_size hb_)); have n1_ := Aside0.mk (below_step hb_ hb); clear HB; have HO241 := n0_; have HB := n1_; clear n0_ n1_; clear hb ho3)))
 go_loopg [3, 4] k (fun kq v3 v4 w' => ∃ (x3_1 : List (S65)) (x4_1 : Int), v4 = .int .i64 x4_1 ∧ Aside0 (ambidexterref23_Runs.l0 kq l0 x3_1 x4_1 = some r) ∧ Aside0 (kq ≤ k) ∧ Aside0 (Kd.R k65 65 w' w.heap.size (fun _ => True) v3 x3_1) ∧ Aside0 (Below w.heap.size w w'))
 case atStart => exact ⟨(y239), (0), (by first | rfl | (simp; done) | (simp [*]; done)), H', ⟨Nat.le_refl _⟩, ⟨by (with_reducible repeat (first | apply Kd.R_alloc | apply Kd.R_drewN | apply Kd.R_drew)); exact HO241.out⟩, ⟨by repeat (first | (with_reducible first | exact HB.out | apply below_alloc | apply pw_below_drewN | apply below_drew1) | exact HB.out)⟩⟩
 case round =>
  clear H'
  try clear c2
  try clear p2
  obtain ⟨x3_1, x4_1, rfl, HA, HK1, HO_3, HB⟩ := hrel
  cases gk with
  | zero => exact absurd HA.out (by simp [ambidexterref23_Runs.l0])
  | succ k1 =>
   have H := HA.out
   clear HA
   simp only [ambidexterref23_Runs.l0] at H
   by_cases c4 : x4_1 < (l0.length : Int)
   ·
    rw [if_pos c4] at H
    have c4b0 : decide (x4_1 < (l0.length : Int)) = true := decide_eq_true c4
    clear c4
    have H' := Aside0.mk H
    clear H
    go_wp2
    repeat (go_quiet (fail); try go_wp2)
    go_loopg [5] k1 (fun kq v5 w' => ∃ (x5_2 : Int), v5 = .int .i64 x5_2 ∧ Aside0 (ambidexterref23_Runs.l1 kq l0 x3_1 x4_1 x5_2 = some r) ∧ Aside0 (kq ≤ k1) ∧ Aside0 (Kd.R k65 65 w' w.heap.size (fun _ => True) u3 x3_1) ∧ Aside0 (Below w.heap.size w w'))
    case atStart => exact ⟨(1), (by first | rfl | (simp; done) | (simp [*]; done)), H', ⟨Nat.le_refl _⟩, ⟨by (with_reducible repeat (first | apply Kd.R_alloc | apply Kd.R_drewN | apply Kd.R_drew)); exact HO_3.out⟩, ⟨by repeat (first | (with_reducible first | exact HB.out | apply below_alloc | apply pw_below_drewN | apply below_drew1) | exact HB.out)⟩⟩
    case round =>
     clear H'
     try clear c2
     try clear p2
     try clear c4
     try clear c4b0
     try clear p2
     obtain ⟨x5_2, rfl, HA, HK2, HO_3, HB⟩ := hrel
     cases gk with
     | zero => exact absurd HA.out (by simp [ambidexterref23_Runs.l1])
     | succ k2 =>
      have H := HA.out
      clear HA
      simp only [ambidexterref23_Runs.l1] at H
      by_cases c5 : (wrap64 (x4_1 + x5_2)) < (l0.length : Int)
      ·
       rw [if_pos c5] at H
       have c5b0 : decide ((wrap64 (x4_1 + x5_2)) < (l0.length : Int)) = true := decide_eq_true c5
       clear c5
       obtain ⟨ji6, hji6⟩ : ∃ j_ : Int, (wrap64 (x4_1 + x5_2)) = j_ := ⟨_, rfl⟩
       replace H : (if 0 ≤ (ji6) then (if 0 ≤ x4_1 then (if x4_1 < (l0.length : Int) then (if (((rd_T63 l0 (ji6)).f0) == ((rd_T63 l0 x4_1).f0) && (((rd_T63 l0 (ji6)).f1) == ((rd_T63 l0 x4_1).f1) && (((rd_T63 l0 (ji6)).f2) == ((rd_T63 l0 x4_1).f2)))) = true then (ambidexterref23_Runs.l1 k2 l0 x3_1 x4_1 (wrap64 (x5_2 + 1))) else (if x3_1.length < 4398046511104 then (ambidexterref23_Runs.l0 k2 l0 (x3_1 ++ [(⟨(⟨(rd_T63 l0 x4_1).f0, (rd_T63 l0 x4_1).f1, (rd_T63 l0 x4_1).f2⟩ : S63), x5_2⟩ : S65)]) ji6) else (none))) else (none)) else (none)) else (none)) = some r := by first | (rw [hji6] at H; exact H) | (simp only [hji6] at H ⊢; exact H)
       (try rw [hji6] at c5b0)
       have hji6w : (IntKind.i64.wrap (x4_1 + x5_2)) = ji6 := (i64_w _).trans hji6
       by_cases c7 : 0 ≤ (ji6)
       ·
        rw [if_pos c7] at H
        have c7b0 : decide (0 ≤ (ji6)) = true := decide_eq_true c7
        clear c7
        by_cases c8 : 0 ≤ x4_1
        ·
         rw [if_pos c8] at H
         have c8b0 : decide (0 ≤ x4_1) = true := decide_eq_true c8
         clear c8
         by_cases c9 : x4_1 < (l0.length : Int)
         ·
          rw [if_pos c9] at H
          have c9b0 : decide (x4_1 < (l0.length : Int)) = true := decide_eq_true c9
          clear c9
          by_cases c10 : (((rd_T63 l0 (ji6)).f0) == ((rd_T63 l0 x4_1).f0) && (((rd_T63 l0 (ji6)).f1) == ((rd_T63 l0 x4_1).f1) && (((rd_T63 l0 (ji6)).f2) == ((rd_T63 l0 x4_1).f2)))) = true
          ·
           rw [if_pos c10] at H
           have c10b0 : (((rd_T63 l0 (ji6)).f0) == ((rd_T63 l0 x4_1).f0) && (((rd_T63 l0 (ji6)).f1) == ((rd_T63 l0 x4_1).f1) && (((rd_T63 l0 (ji6)).f2) == ((rd_T63 l0 x4_1).f2)))) = true := c10
           clear c10
           have H' := Aside0.mk H
           clear H
           have p242 : 0 ≤ ((ji6) : Int) := od_
           have q242 : (ji6) < (l0.length : Int) := od_
           obtain ⟨ad242, e242, hx242_0, hx242_1, hx242_2⟩ := at_T63 HR0.out (ji6) p242 q242
           cases e242
           replace hx242_0 := (HB.out.cell (World.block_lt_of_cell? w _ hx242_0)).trans hx242_0
           replace hx242_1 := (HB.out.cell (World.block_lt_of_cell? w _ hx242_1)).trans hx242_1
           replace hx242_2 := (HB.out.cell (World.block_lt_of_cell? w _ hx242_2)).trans hx242_2
           replace p242 := eq_true p242
           replace q242 := eq_true q242
           have p243 : 0 ≤ (x4_1 : Int) := od_
           have q243 : x4_1 < (l0.length : Int) := od_
           obtain ⟨ad243, e243, hx243_0, hx243_1, hx243_2⟩ := at_T63 HR0.out x4_1 p243 q243
           obtain rfl : ad242 = ad243 := (by injection e243)
           replace hx243_0 := (HB.out.cell (World.block_lt_of_cell? w _ hx243_0)).trans hx243_0
           replace hx243_1 := (HB.out.cell (World.block_lt_of_cell? w _ hx243_1)).trans hx243_1
           replace hx243_2 := (HB.out.cell (World.block_lt_of_cell? w _ hx243_2)).trans hx243_2
           replace p243 := eq_true p243
           replace q243 := eq_true q243
           go_wp2
           repeat (go_quiet (fail); try go_wp2)
           go_roundg k2
           case measure => have := HK1.out; have := HK2.out; omega
           case rel => exact ⟨(wrap64 (x5_2 + 1)), (by first | rfl | (simp; done) | (simp [*]; done)), H', ⟨by have := HK1.out; have := HK2.out; omega⟩, ⟨by (with_reducible repeat (first | apply Kd.R_alloc | apply Kd.R_drewN | apply Kd.R_drew)); exact HO_3.out⟩, ⟨by repeat (first | (with_reducible first | exact HB.out | apply below_alloc | apply pw_below_drewN | apply below_drew1) | exact HB.out)⟩⟩
          ·
           rw [if_neg c10] at H
           have c10b0 : (((rd_T63 l0 (ji6)).f0) == ((rd_T63 l0 x4_1).f0) && (((rd_T63 l0 (ji6)).f1) == ((rd_T63 l0 x4_1).f1) && (((rd_T63 l0 (ji6)).f2) == ((rd_T63 l0 x4_1).f2)))) = false := by simpa using c10
           clear c10
           by_cases c11 : x3_1.length < 4398046511104
           ·
            rw [if_pos c11] at H
            have LMc11 := Aside0.mk c11
            clear c11
            obtain ⟨y245, hy245⟩ : ∃ y_ : List (S65), y_ = (x3_1 ++ [(⟨(⟨(rd_T63 l0 x4_1).f0, (rd_T63 l0 x4_1).f1, (rd_T63 l0 x4_1).f2⟩ : S63), x5_2⟩ : S65)]) := ⟨_, rfl⟩
            replace H : (ambidexterref23_Runs.l0 k2 l0 y245 ji6) = some r := by first | (rw [hy245]; with_reducible exact H) | (have H2_ := (Option.bind_some _ _).symm.trans H; rw [hy245]; with_reducible exact H2_) | (have H2_ := (Option.bind_some _ _).symm.trans H; with_reducible exact H2_) | with_reducible exact H | (rw [hy245]; exact H) | exact H
            have Ny245 := Aside0.mk hy245
            clear hy245
            have H' := Aside0.mk H
            clear H
            have p242 : 0 ≤ ((ji6) : Int) := od_
            have q242 : (ji6) < (l0.length : Int) := od_
            obtain ⟨ad242, e242, hx242_0, hx242_1, hx242_2⟩ := at_T63 HR0.out (ji6) p242 q242
            cases e242
            replace hx242_0 := (HB.out.cell (World.block_lt_of_cell? w _ hx242_0)).trans hx242_0
            replace hx242_1 := (HB.out.cell (World.block_lt_of_cell? w _ hx242_1)).trans hx242_1
            replace hx242_2 := (HB.out.cell (World.block_lt_of_cell? w _ hx242_2)).trans hx242_2
            replace p242 := eq_true p242
            replace q242 := eq_true q242
            have p243 : 0 ≤ (x4_1 : Int) := od_
            have q243 : x4_1 < (l0.length : Int) := od_
            obtain ⟨ad243, e243, hx243_0, hx243_1, hx243_2⟩ := at_T63 HR0.out x4_1 p243 q243
            obtain rfl : ad242 = ad243 := (by injection e243)
            replace hx243_0 := (HB.out.cell (World.block_lt_of_cell? w _ hx243_0)).trans hx243_0
            replace hx243_1 := (HB.out.cell (World.block_lt_of_cell? w _ hx243_1)).trans hx243_1
            replace hx243_2 := (HB.out.cell (World.block_lt_of_cell? w _ hx243_2)).trans hx243_2
            replace p243 := eq_true p243
            replace q243 := eq_true q243
            have p244 : 0 ≤ (x4_1 : Int) := od_
            have q244 : x4_1 < (l0.length : Int) := od_
            obtain ⟨ad244, e244, hx244_0, hx244_1, hx244_2⟩ := at_T63 HR0.out x4_1 p244 q244
            obtain rfl : ad242 = ad244 := (by injection e244)
            replace hx244_0 := (HB.out.cell (World.block_lt_of_cell? w _ hx244_0)).trans hx244_0
            replace hx244_1 := (HB.out.cell (World.block_lt_of_cell? w _ hx244_1)).trans hx244_1
            replace hx244_2 := (HB.out.cell (World.block_lt_of_cell? w _ hx244_2)).trans hx244_2
            replace p244 := eq_true p244
            replace q244 := eq_true q244
            go_wp2_with (first | ((with_reducible refine gate_builtin (b := .append) (xs := #[.tmp 32, .tmp 39]) rfl ?_); at_builtin; refine Kd.R_append k65 (w0 := w) w.heap.size rfl (.tmp 32) (.tmp 39) 60 65 (.agg #[(.int .i64 0), (.int .i64 0), (.int .i64 0), (.int .i64 0)]) 32 rfl Try.underlying60 info65 rfl (by decide) (by omega) u3 x3_1 (⟨(⟨(rd_T63 l0 x4_1).f0, (rd_T63 l0 x4_1).f1, (rd_T63 l0 x4_1).f2⟩ : S63), x5_2⟩ : S65) [.int .i64 ((rd_T63 l0 x4_1).f0), .int .i64 ((rd_T63 l0 x4_1).f1), .int .i64 ((rd_T63 l0 x4_1).f2), .int .i64 x5_2] (fun _ => True) (fun _ => False) rfl rfl ?aP (fun _ hk => hk.elim) ?aF ?aO ?aB ?aS ?aL ?_; (case aP => exact k65_mkM _ _ _ (⟨(⟨(rd_T63 l0 x4_1).f0, (rd_T63 l0 x4_1).f1, (rd_T63 l0 x4_1).f2⟩ : S63), x5_2⟩ : S65)); (case aB => exact hb_); (case aF => exact (fun _ _ => trivial)); (case aO => exact (rk_ HO_3.out)); (case aS => exact (below_size hb_)); (case aL => have := LMc11.out; omega); intro v246 w12 ho hb hg hat; rw [← Ny245.out] at ho; have n0_ := Aside0.mk (hb); have n1_ := Aside0.mk (ho); clear HB; clear HO_3; have HB := n0_; have HO247 := n1_; clear n0_ n1_; clear ho hb hg hat))
            repeat (go_quiet (first | ((with_reducible refine gate_builtin (b := .append) (xs := #[.tmp 32, .tmp 39]) rfl ?_); at_builtin; refine Kd.R_append k65 (w0 := w) w.heap.size rfl (.tmp 32) (.tmp 39) 60 65 (.agg #[(.int .i64 0), (.int .i64 0), (.int .i64 0), (.int .i64 0)]) 32 rfl Try.underlying60 info65 rfl (by decide) (by omega) u3 x3_1 (⟨(⟨(rd_T63 l0 x4_1).f0, (rd_T63 l0 x4_1).f1, (rd_T63 l0 x4_1).f2⟩ : S63), x5_2⟩ : S65) [.int .i64 ((rd_T63 l0 x4_1).f0), .int .i64 ((rd_T63 l0 x4_1).f1), .int .i64 ((rd_T63 l0 x4_1).f2), .int .i64 x5_2] (fun _ => True) (fun _ => False) rfl rfl ?aP (fun _ hk => hk.elim) ?aF ?aO ?aB ?aS ?aL ?_; (case aP => exact k65_mkM _ _ _ (⟨(⟨(rd_T63 l0 x4_1).f0, (rd_T63 l0 x4_1).f1, (rd_T63 l0 x4_1).f2⟩ : S63), x5_2⟩ : S65)); (case aB => exact hb_); (case aF => exact (fun _ _ => trivial)); (case aO => exact (rk_ HO_3.out)); (case aS => exact (below_size hb_)); (case aL => have := LMc11.out; omega); intro v246 w12 ho hb hg hat; rw [← Ny245.out] at ho; have n0_ := Aside0.mk (hb); have n1_ := Aside0.mk (ho); clear HB; clear HO_3; have HB := n0_; have HO247 := n1_; clear n0_ n1_; clear ho hb hg hat)); try go_wp2_with (first | ((with_reducible refine gate_builtin (b := .append) (xs := #[.tmp 32, .tmp 39]) rfl ?_); at_builtin; refine Kd.R_append k65 (w0 := w) w.heap.size rfl (.tmp 32) (.tmp 39) 60 65 (.agg #[(.int .i64 0), (.int .i64 0), (.int .i64 0), (.int .i64 0)]) 32 rfl Try.underlying60 info65 rfl (by decide) (by omega) u3 x3_1 (⟨(⟨(rd_T63 l0 x4_1).f0, (rd_T63 l0 x4_1).f1, (rd_T63 l0 x4_1).f2⟩ : S63), x5_2⟩ : S65) [.int .i64 ((rd_T63 l0 x4_1).f0), .int .i64 ((rd_T63 l0 x4_1).f1), .int .i64 ((rd_T63 l0 x4_1).f2), .int .i64 x5_2] (fun _ => True) (fun _ => False) rfl rfl ?aP (fun _ hk => hk.elim) ?aF ?aO ?aB ?aS ?aL ?_; (case aP => exact k65_mkM _ _ _ (⟨(⟨(rd_T63 l0 x4_1).f0, (rd_T63 l0 x4_1).f1, (rd_T63 l0 x4_1).f2⟩ : S63), x5_2⟩ : S65)); (case aB => exact hb_); (case aF => exact (fun _ _ => trivial)); (case aO => exact (rk_ HO_3.out)); (case aS => exact (below_size hb_)); (case aL => have := LMc11.out; omega); intro v246 w12 ho hb hg hat; rw [← Ny245.out] at ho; have n0_ := Aside0.mk (hb); have n1_ := Aside0.mk (ho); clear HB; clear HO_3; have HB := n0_; have HO247 := n1_; clear n0_ n1_; clear ho hb hg hat)))
            go_roundg k2
            case measure => have := HK1.out; have := HK2.out; omega
            case rel => exact ⟨(y245), (ji6), (by first | rfl | (simp; done) | (simp only [← hji6] <;> (first | rfl | simp)) | (simp [*]; done)), H', ⟨by have := HK1.out; have := HK2.out; omega⟩, ⟨by (with_reducible repeat (first | apply Kd.R_alloc | apply Kd.R_drewN | apply Kd.R_drew)); exact HO247.out⟩, ⟨by repeat (first | (with_reducible first | exact HB.out | apply below_alloc | apply pw_below_drewN | apply below_drew1) | exact HB.out)⟩⟩
           ·
            rw [if_neg c11] at H
            exact absurd H (by simp)
         ·
          rw [if_neg c9] at H
          exact absurd H (by simp)
        ·
         rw [if_neg c8] at H
         exact absurd H (by simp)
       ·
        rw [if_neg c7] at H
        exact absurd H (by simp)
      ·
       rw [if_neg c5] at H
       have c5b0 : decide ((wrap64 (x4_1 + x5_2)) < (l0.length : Int)) = false := decide_eq_false c5
       clear c5
       by_cases c13 : 0 ≤ x4_1
       ·
        rw [if_pos c13] at H
        have c13b0 : decide (0 ≤ x4_1) = true := decide_eq_true c13
        clear c13
        by_cases c14 : x4_1 < (l0.length : Int)
        ·
         rw [if_pos c14] at H
         have c14b0 : decide (x4_1 < (l0.length : Int)) = true := decide_eq_true c14
         clear c14
         by_cases c15 : x3_1.length < 4398046511104
         ·
          rw [if_pos c15] at H
          have LMc15 := Aside0.mk c15
          clear c15
          obtain ⟨y249, hy249⟩ : ∃ y_ : List (S65), y_ = (x3_1 ++ [(⟨(⟨(rd_T63 l0 x4_1).f0, (rd_T63 l0 x4_1).f1, (rd_T63 l0 x4_1).f2⟩ : S63), x5_2⟩ : S65)]) := ⟨_, rfl⟩
          replace H : (ambidexterref23_Runs.l0 k2 l0 y249 (wrap64 (x4_1 + x5_2))) = some r := by first | (rw [hy249]; with_reducible exact H) | (have H2_ := (Option.bind_some _ _).symm.trans H; rw [hy249]; with_reducible exact H2_) | (have H2_ := (Option.bind_some _ _).symm.trans H; with_reducible exact H2_) | with_reducible exact H | (rw [hy249]; exact H) | exact H
          have Ny249 := Aside0.mk hy249
          clear hy249
          have H' := Aside0.mk H
          clear H
          have p248 : 0 ≤ (x4_1 : Int) := od_
          have q248 : x4_1 < (l0.length : Int) := od_
          obtain ⟨ad248, e248, hx248_0, hx248_1, hx248_2⟩ := at_T63 HR0.out x4_1 p248 q248
          cases e248
          replace hx248_0 := (HB.out.cell (World.block_lt_of_cell? w _ hx248_0)).trans hx248_0
          replace hx248_1 := (HB.out.cell (World.block_lt_of_cell? w _ hx248_1)).trans hx248_1
          replace hx248_2 := (HB.out.cell (World.block_lt_of_cell? w _ hx248_2)).trans hx248_2
          replace p248 := eq_true p248
          replace q248 := eq_true q248
          go_wp2_with (first | ((with_reducible refine gate_builtin (b := .append) (xs := #[.tmp 32, .tmp 39]) rfl ?_); at_builtin; refine Kd.R_append k65 (w0 := w) w.heap.size rfl (.tmp 32) (.tmp 39) 60 65 (.agg #[(.int .i64 0), (.int .i64 0), (.int .i64 0), (.int .i64 0)]) 32 rfl Try.underlying60 info65 rfl (by decide) (by omega) u3 x3_1 (⟨(⟨(rd_T63 l0 x4_1).f0, (rd_T63 l0 x4_1).f1, (rd_T63 l0 x4_1).f2⟩ : S63), x5_2⟩ : S65) [.int .i64 ((rd_T63 l0 x4_1).f0), .int .i64 ((rd_T63 l0 x4_1).f1), .int .i64 ((rd_T63 l0 x4_1).f2), .int .i64 x5_2] (fun _ => True) (fun _ => False) rfl rfl ?aP (fun _ hk => hk.elim) ?aF ?aO ?aB ?aS ?aL ?_; (case aP => exact k65_mkM _ _ _ (⟨(⟨(rd_T63 l0 x4_1).f0, (rd_T63 l0 x4_1).f1, (rd_T63 l0 x4_1).f2⟩ : S63), x5_2⟩ : S65)); (case aB => exact hb_); (case aF => exact (fun _ _ => trivial)); (case aO => exact (rk_ HO_3.out)); (case aS => exact (below_size hb_)); (case aL => have := LMc15.out; omega); intro v250 w16 ho hb hg hat; rw [← Ny249.out] at ho; have n0_ := Aside0.mk (hb); have n1_ := Aside0.mk (ho); clear HB; clear HO_3; have HB := n0_; have HO251 := n1_; clear n0_ n1_; clear ho hb hg hat))
          repeat (go_quiet (first | ((with_reducible refine gate_builtin (b := .append) (xs := #[.tmp 32, .tmp 39]) rfl ?_); at_builtin; refine Kd.R_append k65 (w0 := w) w.heap.size rfl (.tmp 32) (.tmp 39) 60 65 (.agg #[(.int .i64 0), (.int .i64 0), (.int .i64 0), (.int .i64 0)]) 32 rfl Try.underlying60 info65 rfl (by decide) (by omega) u3 x3_1 (⟨(⟨(rd_T63 l0 x4_1).f0, (rd_T63 l0 x4_1).f1, (rd_T63 l0 x4_1).f2⟩ : S63), x5_2⟩ : S65) [.int .i64 ((rd_T63 l0 x4_1).f0), .int .i64 ((rd_T63 l0 x4_1).f1), .int .i64 ((rd_T63 l0 x4_1).f2), .int .i64 x5_2] (fun _ => True) (fun _ => False) rfl rfl ?aP (fun _ hk => hk.elim) ?aF ?aO ?aB ?aS ?aL ?_; (case aP => exact k65_mkM _ _ _ (⟨(⟨(rd_T63 l0 x4_1).f0, (rd_T63 l0 x4_1).f1, (rd_T63 l0 x4_1).f2⟩ : S63), x5_2⟩ : S65)); (case aB => exact hb_); (case aF => exact (fun _ _ => trivial)); (case aO => exact (rk_ HO_3.out)); (case aS => exact (below_size hb_)); (case aL => have := LMc15.out; omega); intro v250 w16 ho hb hg hat; rw [← Ny249.out] at ho; have n0_ := Aside0.mk (hb); have n1_ := Aside0.mk (ho); clear HB; clear HO_3; have HB := n0_; have HO251 := n1_; clear n0_ n1_; clear ho hb hg hat)); try go_wp2_with (first | ((with_reducible refine gate_builtin (b := .append) (xs := #[.tmp 32, .tmp 39]) rfl ?_); at_builtin; refine Kd.R_append k65 (w0 := w) w.heap.size rfl (.tmp 32) (.tmp 39) 60 65 (.agg #[(.int .i64 0), (.int .i64 0), (.int .i64 0), (.int .i64 0)]) 32 rfl Try.underlying60 info65 rfl (by decide) (by omega) u3 x3_1 (⟨(⟨(rd_T63 l0 x4_1).f0, (rd_T63 l0 x4_1).f1, (rd_T63 l0 x4_1).f2⟩ : S63), x5_2⟩ : S65) [.int .i64 ((rd_T63 l0 x4_1).f0), .int .i64 ((rd_T63 l0 x4_1).f1), .int .i64 ((rd_T63 l0 x4_1).f2), .int .i64 x5_2] (fun _ => True) (fun _ => False) rfl rfl ?aP (fun _ hk => hk.elim) ?aF ?aO ?aB ?aS ?aL ?_; (case aP => exact k65_mkM _ _ _ (⟨(⟨(rd_T63 l0 x4_1).f0, (rd_T63 l0 x4_1).f1, (rd_T63 l0 x4_1).f2⟩ : S63), x5_2⟩ : S65)); (case aB => exact hb_); (case aF => exact (fun _ _ => trivial)); (case aO => exact (rk_ HO_3.out)); (case aS => exact (below_size hb_)); (case aL => have := LMc15.out; omega); intro v250 w16 ho hb hg hat; rw [← Ny249.out] at ho; have n0_ := Aside0.mk (hb); have n1_ := Aside0.mk (ho); clear HB; clear HO_3; have HB := n0_; have HO251 := n1_; clear n0_ n1_; clear ho hb hg hat)))
          go_roundg k2
          case measure => have := HK1.out; have := HK2.out; omega
          case rel => exact ⟨(y249), (wrap64 (x4_1 + x5_2)), (by first | rfl | (simp; done) | (simp [*]; done)), H', ⟨by have := HK1.out; have := HK2.out; omega⟩, ⟨by (with_reducible repeat (first | apply Kd.R_alloc | apply Kd.R_drewN | apply Kd.R_drew)); exact HO251.out⟩, ⟨by repeat (first | (with_reducible first | exact HB.out | apply below_alloc | apply pw_below_drewN | apply below_drew1) | exact HB.out)⟩⟩
         ·
          rw [if_neg c15] at H
          exact absurd H (by simp)
        ·
         rw [if_neg c14] at H
         exact absurd H (by simp)
       ·
        rw [if_neg c13] at H
        exact absurd H (by simp)
   ·
    rw [if_neg c4] at H
    have c4b0 : decide (x4_1 < (l0.length : Int)) = false := decide_eq_false c4
    clear c4
    obtain rfl := Option.some.inj H
    go_wp2
    repeat (go_quiet (fail); try go_wp2)
    go_ret
    exact ⟨_, by first | rfl | (simp [errW_none, errW_some] <;> rfl) | (simp [*, errW_none, errW_some] <;> rfl), by (with_reducible repeat (first | apply Kd.R_alloc | apply Kd.R_drewN | apply Kd.R_drew)); exact HO_3.out, by repeat (first | (with_reducible first | exact HB.out | apply below_alloc | apply pw_below_drewN | apply below_drew1) | exact HB.out)⟩

end Go.Proofs.Ytmmaodlngnjmlaa.P
