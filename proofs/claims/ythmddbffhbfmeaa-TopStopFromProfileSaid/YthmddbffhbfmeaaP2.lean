-- Written by this session's own program, for this seat. Lean checks it.
import Derived.Test.YthmddbffhbfmeaaP0
import Derived.Test.YthmddbffhbfmeaaP1
import Derived.WalkMore
namespace Go.Proofs.Ythmddbffhbfmeaa.P
open Go.RowKit Go.Proofs.YthmddbffhbfmeaaW.PrintWords Go.Proofs.YthmddbffhbfmeaaW.PrintLast Go.Proofs.YthmddbffhbfmeaaW.PrintMore
attribute [local go_sem] max2_int min2_int max_two min_two max_three min_three max_four min_four   -- for this text's walks alone
set_option linter.unusedVariables false
set_option linter.unusedSimpArgs false

attribute [local go_sem high] eqA31

/-! ### mintime_space_left: function 36 -/
mutual
def mintime_space_left.l0 : Nat → List Int → List (S31) → Int → Int → Int → Int → Option (List Int)
 | 0, _, _, _, _, _, _ => none
 | k + 1, x3, x8, x146000, x146001, x146002, x146003 => if (x8.length : Int) > 0 then (if 0 < (x8.length : Int) then (if 1 ≤ (x8.length : Int) then ((mintime_space_of.f x146000 x146001 x146002 x146003 ((rd_T31 x8 0).f0) ((rd_T31 x8 0).f1) ((rd_T31 x8 0).f2)).bind fun bt162 => (mintime_space_left.l1 k x3 (x8.drop (1 : Int).toNat) bt162.1 (wrap64 (-x146002)) x146000 x146001 x146002 x146003 ((rd_T31 x8 0).f0) ((rd_T31 x8 0).f1) ((rd_T31 x8 0).f2))) else (none)) else (none)) else (some x3)
def mintime_space_left.l1 : Nat → List Int → List (S31) → Int → Int → Int → Int → Int → Int → Int → Int → Int → Option (List Int)
 | 0, _, _, _, _, _, _, _, _, _, _, _ => none
 | k + 1, x3, x8, x10, x12, x146000, x146001, x146002, x146003, x159000, x159001, x159002 => if x12 ≤ x146002 then ((mintime_ahead.f x159000 x159001 x159002 x12).bind fun bt164 => ((mintime_space_of.f x146000 x146001 x146002 x146003 bt164.1 bt164.2.1 bt164.2.2).bind fun bt168 => (if bt168.2 = true then (if 0 ≤ bt168.1 then (if bt168.1 < (x3.length : Int) then (mintime_space_left.j2 k x3 x8 x10 x12 bt168.1 (decide ((rd x3 bt168.1) > 0)) x146000 x146001 x146002 x146003 x159000 x159001 x159002 bt164.1 bt164.2.1 bt164.2.2) else (none)) else (none)) else (mintime_space_left.j2 k x3 x8 x10 x12 bt168.1 true x146000 x146001 x146002 x146003 x159000 x159001 x159002 bt164.1 bt164.2.1 bt164.2.2)))) else (mintime_space_left.l0 k x3 x8 x146000 x146001 x146002 x146003)
def mintime_space_left.j2 : Nat → List Int → List (S31) → Int → Int → Int → Bool → Int → Int → Int → Int → Int → Int → Int → Int → Int → Int → Option (List Int)
 | 0, _, _, _, _, _, _, _, _, _, _, _, _, _, _, _, _ => none
 | k + 1, x3, x8, x10, x12, x14, x77, x146000, x146001, x146002, x146003, x159000, x159001, x159002, x168000, x168001, x168002 => if x77 = true then (mintime_space_left.l1 k x3 x8 x10 (wrap64 (x12 + 1)) x146000 x146001 x146002 x146003 x159000 x159001 x159002) else (if 0 ≤ x10 then (if x10 < (x3.length : Int) then (if 0 ≤ x14 then (if x14 < (x3.length : Int) then ((some (x3.set (x14 : Int).toNat (wrap64 ((rd x3 x10) + 1)) : List Int)).bind fun y172 => (if (x168000 == 0 && (x168001 == 0 && (x168002 == 0))) = true then (some y172) else (if x8.length < 5864062014805 then (mintime_space_left.l1 k y172 (x8 ++ [(⟨x168000, x168001, x168002⟩ : S31)]) x10 (wrap64 (x12 + 1)) x146000 x146001 x146002 x146003 x159000 x159001 x159002) else (none)))) else (none)) else (none)) else (none)) else (none))
end
def mintime_space_left.f (k : Nat) (a0_0 : Int) (a0_1 : Int) (a0_2 : Int) (a0_3 : Int) : Option (List Int) := (mintime_space_many.f a0_0 a0_1 a0_2 a0_3).bind fun t146 => (if 0 ≤ t146 then (if (t146 : Int).toNat ≤ 35184372088832 then ((some (List.replicate (t146 : Int).toNat 0 : List Int)).bind fun y147 => ((mintime_space_of.f a0_0 a0_1 a0_2 a0_3 a0_3 0 0).bind fun bt151 => (if 0 ≤ bt151.1 then (if bt151.1 < (y147.length : Int) then (mintime_space_left.l0 k (y147.set (bt151.1 : Int).toNat 1) (([(⟨a0_3, 0, 0⟩ : S31)] : List (S31))) a0_0 a0_1 a0_2 a0_3) else (none)) else (none)))) else (none)) else (none))
theorem mintime_space_left.mono_l : ∀ k, (∀ y0 y1 y2 y3 y4 y5, LeO (mintime_space_left.l0 k y0 y1 y2 y3 y4 y5) (mintime_space_left.l0 (k + 1) y0 y1 y2 y3 y4 y5)) ∧ (∀ y0 y1 y2 y3 y4 y5 y6 y7 y8 y9 y10, LeO (mintime_space_left.l1 k y0 y1 y2 y3 y4 y5 y6 y7 y8 y9 y10) (mintime_space_left.l1 (k + 1) y0 y1 y2 y3 y4 y5 y6 y7 y8 y9 y10)) ∧ (∀ y0 y1 y2 y3 y4 y5 y6 y7 y8 y9 y10 y11 y12 y13 y14 y15, LeO (mintime_space_left.j2 k y0 y1 y2 y3 y4 y5 y6 y7 y8 y9 y10 y11 y12 y13 y14 y15) (mintime_space_left.j2 (k + 1) y0 y1 y2 y3 y4 y5 y6 y7 y8 y9 y10 y11 y12 y13 y14 y15))
 | 0 => ⟨fun _ _ _ _ _ _ r h => by simp [mintime_space_left.l0] at h, fun _ _ _ _ _ _ _ _ _ _ _ r h => by simp [mintime_space_left.l1] at h, fun _ _ _ _ _ _ _ _ _ _ _ _ _ _ _ _ r h => by simp [mintime_space_left.j2] at h⟩
 | k + 1 => by
  obtain ⟨ih0, ih1, ih2⟩ := mintime_space_left.mono_l k
  refine ⟨?_, ?_, ?_⟩
  ·
   intro y0 y1 y2 y3 y4 y5
   unfold mintime_space_left.l0
   repeat' first
   | (with_reducible exact ih0 _ _ _ _ _ _)
   | (with_reducible exact ih1 _ _ _ _ _ _ _ _ _ _ _)
   | (with_reducible exact ih2 _ _ _ _ _ _ _ _ _ _ _ _ _ _ _ _)
   | (with_reducible exact LeO.refl _)
   | (with_reducible exact LeO.none _)
   | (with_reducible refine LeO.ite ?_ ?_)
   | (with_reducible refine LeO.bind ?_ (fun _ => ?_))
   | exact ih0 _ _ _ _ _ _
   | exact ih1 _ _ _ _ _ _ _ _ _ _ _
   | exact ih2 _ _ _ _ _ _ _ _ _ _ _ _ _ _ _ _
   | exact LeO.none _
   | refine LeO.ite ?_ ?_
   | refine LeO.bind ?_ (fun _ => ?_)
  ·
   intro y0 y1 y2 y3 y4 y5 y6 y7 y8 y9 y10
   unfold mintime_space_left.l1
   repeat' first
   | (with_reducible exact ih0 _ _ _ _ _ _)
   | (with_reducible exact ih1 _ _ _ _ _ _ _ _ _ _ _)
   | (with_reducible exact ih2 _ _ _ _ _ _ _ _ _ _ _ _ _ _ _ _)
   | (with_reducible exact LeO.refl _)
   | (with_reducible exact LeO.none _)
   | (with_reducible refine LeO.ite ?_ ?_)
   | (with_reducible refine LeO.bind ?_ (fun _ => ?_))
   | exact ih0 _ _ _ _ _ _
   | exact ih1 _ _ _ _ _ _ _ _ _ _ _
   | exact ih2 _ _ _ _ _ _ _ _ _ _ _ _ _ _ _ _
   | exact LeO.none _
   | refine LeO.ite ?_ ?_
   | refine LeO.bind ?_ (fun _ => ?_)
  ·
   intro y0 y1 y2 y3 y4 y5 y6 y7 y8 y9 y10 y11 y12 y13 y14 y15
   unfold mintime_space_left.j2
   repeat' first
   | (with_reducible exact ih0 _ _ _ _ _ _)
   | (with_reducible exact ih1 _ _ _ _ _ _ _ _ _ _ _)
   | (with_reducible exact ih2 _ _ _ _ _ _ _ _ _ _ _ _ _ _ _ _)
   | (with_reducible exact LeO.refl _)
   | (with_reducible exact LeO.none _)
   | (with_reducible refine LeO.ite ?_ ?_)
   | (with_reducible refine LeO.bind ?_ (fun _ => ?_))
   | exact ih0 _ _ _ _ _ _
   | exact ih1 _ _ _ _ _ _ _ _ _ _ _
   | exact ih2 _ _ _ _ _ _ _ _ _ _ _ _ _ _ _ _
   | exact LeO.none _
   | refine LeO.ite ?_ ?_
   | refine LeO.bind ?_ (fun _ => ?_)
theorem mintime_space_left.mono : ∀ a0 a1 a2 a3 k, LeO (mintime_space_left.f k a0 a1 a2 a3) (mintime_space_left.f (k + 1) a0 a1 a2 a3) := by
 intro a0 a1 a2 a3 k
 obtain ⟨ih0, ih1, ih2⟩ := mintime_space_left.mono_l k
 unfold mintime_space_left.f
 repeat' first
   | (with_reducible exact ih0 _ _ _ _ _ _)
   | (with_reducible exact ih1 _ _ _ _ _ _ _ _ _ _ _)
   | (with_reducible exact ih2 _ _ _ _ _ _ _ _ _ _ _ _ _ _ _ _)
   | (with_reducible exact LeO.refl _)
   | (with_reducible exact LeO.none _)
   | (with_reducible refine LeO.ite ?_ ?_)
   | (with_reducible refine LeO.bind ?_ (fun _ => ?_))
   | exact ih0 _ _ _ _ _ _
   | exact ih1 _ _ _ _ _ _ _ _ _ _ _
   | exact ih2 _ _ _ _ _ _ _ _ _ _ _ _ _ _ _ _
   | exact LeO.none _
   | refine LeO.ite ?_ ?_
   | refine LeO.bind ?_ (fun _ => ?_)
set_option maxHeartbeats 8000000 in
set_option maxRecDepth 100000 in
theorem mintime_space_left.calls (k : Nat) (a0_0 : Int) (a0_1 : Int) (a0_2 : Int) (a0_3 : Int) (r : List Int) (w : World) (h : mintime_space_left.f k a0_0 a0_1 a0_2 a0_3 = some r) :
  Calls Try.prog 36 #[.agg #[.int .i64 a0_0, .int .i64 a0_1, .int .i64 a0_2, .int .i64 a0_3]] w fun e w' => ∃ v0_ : Value, e = .returned (v0_) ∧ Kd.R (Kd.int .i64) 3 w' w.heap.size (fun _ => True) v0_ r ∧ Below w.heap.size w w' := by
 have hu86 := Try.underlying86
 have hu31 := Try.underlying31
 have HB := Aside0.mk (Below.refl w.heap.size w)
 have H : ((mintime_space_many.f a0_0 a0_1 a0_2 a0_3).bind fun t146 => (if 0 ≤ t146 then (if (t146 : Int).toNat ≤ 35184372088832 then ((some (List.replicate (t146 : Int).toNat 0 : List Int)).bind fun y147 => ((mintime_space_of.f a0_0 a0_1 a0_2 a0_3 a0_3 0 0).bind fun bt151 => (if 0 ≤ bt151.1 then (if bt151.1 < (y147.length : Int) then (mintime_space_left.l0 k (y147.set (bt151.1 : Int).toNat 1) (([(⟨a0_3, 0, 0⟩ : S31)] : List (S31))) a0_0 a0_1 a0_2 a0_3) else (none)) else (none)))) else (none)) else (none))) = some r := h
 clear h
 replace H := Option.bind_eq_some_iff.mp H
 obtain ⟨t146, A20, H⟩ := H
 replace H : (if 0 ≤ t146 then (if (t146 : Int).toNat ≤ 35184372088832 then ((some (List.replicate (t146 : Int).toNat 0 : List Int)).bind fun y147 => ((mintime_space_of.f a0_0 a0_1 a0_2 a0_3 a0_3 0 0).bind fun bt151 => (if 0 ≤ bt151.1 then (if bt151.1 < (y147.length : Int) then (mintime_space_left.l0 k (y147.set (bt151.1 : Int).toNat 1) (([(⟨a0_3, 0, 0⟩ : S31)] : List (S31))) a0_0 a0_1 a0_2 a0_3) else (none)) else (none)))) else (none)) else (none)) = some r := H
 have A2 := Aside0.mk A20
 clear A20
 by_cases c3 : 0 ≤ t146
 ·
  rw [if_pos c3] at H
  have c3b0 := eq_true c3
  have c3b1 : decide (0 ≤ t146) = true := decide_eq_true c3
  clear c3
  by_cases c4 : (t146 : Int).toNat ≤ 35184372088832
  ·
   rw [if_pos c4] at H
   have c4b0 := eq_true c4
   have c4b1 : decide ((t146 : Int).toNat ≤ 35184372088832) = true := decide_eq_true c4
   clear c4
   obtain ⟨y147, hy147⟩ : ∃ y_ : List Int, y_ = (List.replicate (t146 : Int).toNat 0) := ⟨_, rfl⟩
   replace H : ((mintime_space_of.f a0_0 a0_1 a0_2 a0_3 a0_3 0 0).bind fun bt151 => (if 0 ≤ bt151.1 then (if bt151.1 < (y147.length : Int) then (mintime_space_left.l0 k (y147.set (bt151.1 : Int).toNat 1) (([(⟨a0_3, 0, 0⟩ : S31)] : List (S31))) a0_0 a0_1 a0_2 a0_3) else (none)) else (none))) = some r := by first | (rw [hy147]; with_reducible exact H) | (have H2_ := (Option.bind_some _ _).symm.trans H; rw [hy147]; with_reducible exact H2_) | (have H2_ := (Option.bind_some _ _).symm.trans H; with_reducible exact H2_) | with_reducible exact H | (rw [hy147]; exact H) | exact H
   have Ny147 := Aside0.mk hy147
   clear hy147
   replace H := Option.bind_eq_some_iff.mp H
   obtain ⟨⟨t151, t152⟩, A50, H⟩ := H
   replace H : (if 0 ≤ t151 then (if t151 < (y147.length : Int) then (mintime_space_left.l0 k (y147.set (t151 : Int).toNat 1) (([(⟨a0_3, 0, 0⟩ : S31)] : List (S31))) a0_0 a0_1 a0_2 a0_3) else (none)) else (none)) = some r := H
   have A5 := Aside0.mk A50
   clear A50
   by_cases c6 : 0 ≤ t151
   ·
    rw [if_pos c6] at H
    have c6b0 : decide (0 ≤ t151) = true := decide_eq_true c6
    clear c6
    by_cases c7 : t151 < (y147.length : Int)
    ·
     rw [if_pos c7] at H
     have c7b0 : decide (t151 < (y147.length : Int)) = true := decide_eq_true c7
     clear c7
     obtain ⟨y153, hy153⟩ : ∃ y_ : List Int, y_ = (y147.set (t151 : Int).toNat 1) := ⟨_, rfl⟩
     replace H : (mintime_space_left.l0 k y153 (([(⟨a0_3, 0, 0⟩ : S31)] : List (S31))) a0_0 a0_1 a0_2 a0_3) = some r := by first | (rw [hy153]; with_reducible exact H) | (have H2_ := (Option.bind_some _ _).symm.trans H; rw [hy153]; with_reducible exact H2_) | (have H2_ := (Option.bind_some _ _).symm.trans H; with_reducible exact H2_) | with_reducible exact H | (rw [hy153]; exact H) | exact H
     have Ny153 := Aside0.mk hy153
     clear hy153
     obtain ⟨y154, hy154⟩ : ∃ y_ : List (S31), y_ = (([(⟨a0_3, 0, 0⟩ : S31)] : List (S31))) := ⟨_, rfl⟩
     replace H : (mintime_space_left.l0 k y153 y154 a0_0 a0_1 a0_2 a0_3) = some r := by first | (rw [hy154]; with_reducible exact H) | (have H2_ := (Option.bind_some _ _).symm.trans H; rw [hy154]; with_reducible exact H2_) | (have H2_ := (Option.bind_some _ _).symm.trans H; with_reducible exact H2_) | with_reducible exact H | (rw [hy154]; exact H) | exact H
     have Ny154 := Aside0.mk hy154
     clear hy154
     have H' := Aside0.mk H
     clear H
     go_enter Try.func36, Try.ntmps36
     go_wp2_with (first | ((with_reducible refine gate_dst (N := 1) rfl ?_); refine box_event ?hg (N := 1) ?hd (cs := #[.int .i64 a0_0, .int .i64 a0_1, .int .i64 a0_2, .int .i64 a0_3]) (t := 86) ?hr ?_; (case hd => rfl); (case hg => rfl); (case hr => first | (go_simp; done) | (go_simp; rfl)); intro gb145 hg w9 hbox hb; have n0_ := Aside0.mk (below_step (by repeat (first | (with_reducible first | exact HB.out | apply below_alloc | apply pw_below_drewN | apply below_drew1) | exact HB.out)) hb); have n1_ := Aside0.mk (hbox); have n2_ := Aside0.mk ((by rw [hg]; exact (below_size (by repeat (first | (with_reducible first | exact HB.out | apply below_alloc | apply pw_below_drewN | apply below_drew1) | exact HB.out))) : w.heap.size ≤ gb145)); have n3_ := Aside0.mk ((by rw [hg]; exact (below_size (by repeat (first | (with_reducible first | exact HB.out | apply below_alloc | apply pw_below_drewN | apply below_drew1) | exact HB.out))) : w.heap.size ≤ gb145)); clear HB; have HB := n0_; have BK145 := n1_; have GW145 := n2_; have GE145 := n3_; clear n0_ n1_ n2_ n3_; clear hb hbox hg; have hcz10_0 : w9.cell? ⟨gb145, 0, none⟩ = some (.int .i64 a0_0) := (blk_cell BK145.out 0).trans rfl; have hcz10_1 : w9.cell? ⟨gb145, 1, none⟩ = some (.int .i64 a0_1) := (blk_cell BK145.out 1).trans rfl; have hcz10_2 : w9.cell? ⟨gb145, 2, none⟩ = some (.int .i64 a0_2) := (blk_cell BK145.out 2).trans rfl; have hcz10_3 : w9.cell? ⟨gb145, 3, none⟩ = some (.int .i64 a0_3) := (blk_cell BK145.out 3).trans rfl; have hfz10_0 := blk_frozen BK145.out 0; have hfz10_1 := blk_frozen BK145.out 1; have hfz10_2 := blk_frozen BK145.out 2; have hfz10_3 := blk_frozen BK145.out 3) | ((with_reducible refine gate_callee (f := 55) rfl ?_); refine goesL_ (some 17) rfl rfl Try.func55 (by kernel_rfl) rfl #[.agg #[.int .i64 a0_0, .int .i64 a0_1, .int .i64 a0_2, .int .i64 a0_3]] rfl (by (try simp only [List.map_toArray, List.map_cons, List.map_nil]); first | done | rfl | (simp only [List.length_drop, List.length_take]; rfl)) ?_; (with_reducible refine (mintime_space_many.calls a0_0 a0_1 a0_2 a0_3 t146 _ A2.out).mono ?_); rintro e w11 ⟨rfl, hb⟩; refine ⟨_, rfl, ?_⟩; have n0_ := Aside0.mk (blk_below (g := gb145) (o := .cells #[.int .i64 a0_0, .int .i64 a0_1, .int .i64 a0_2, .int .i64 a0_3] 86 (0, 0)) (by (with_reducible repeat (first | refine blk_drewN ?_ _ | refine blk_drew ?_ | refine blk_alloc ?_ _)); exact BK145.out) hb); have n1_ := Aside0.mk (below_step (by repeat (first | (with_reducible first | exact HB.out | apply below_alloc | apply pw_below_drewN | apply below_drew1 | refine below_set ?_ GE145.out) | exact HB.out)) hb); clear BK145; clear HB; have BK145 := n0_; have HB := n1_; clear n0_ n1_; (try clear hb); (try clear hb2); (try clear hk); (try clear hi)) | ((with_reducible refine gate_dst (N := 18) rfl ?_); refine Kd.R_make (Kd.int .i64) _ 3 rfl (N := 18) rfl 27 _ _ rfl t146 rfl rfl Try.underlying27 (.int .i64 0) 8 info3 rfl (by decide) (by omega) 0 (ok := fun _ => True) (okp := fun _ => True) rfl (fun _ hk => hk) trivial (of_decide_eq_true (by first | (with_reducible assumption) | assumption)) (Nat.le_trans (Nat.mul_le_mul_right _ (of_decide_eq_true (by first | (with_reducible assumption) | assumption) : t146.toNat ≤ 35184372088832)) (by omega)) (Below.refl _ _) (Nat.le_refl _) ?_; intro v148 w12 ho13 hb hg_ hnew_; clear hg_ hnew_; (first | rw [← Ny147.out] at ho13 | (simp only [Int.reduceToNat] at ho13; rw [← Ny147.out] at ho13)); have n0_ := Aside0.mk (Kd.R_lower ho13 (below_size (by repeat (first | (with_reducible first | exact HB.out | apply below_alloc | apply pw_below_drewN | apply below_drew1 | refine below_set ?_ GE145.out) | exact HB.out)))); have n1_ := Aside0.mk (blk_below (g := gb145) (o := .cells #[.int .i64 a0_0, .int .i64 a0_1, .int .i64 a0_2, .int .i64 a0_3] 86 (0, 0)) (by (with_reducible repeat (first | refine blk_drewN ?_ _ | refine blk_drew ?_ | refine blk_alloc ?_ _)); exact BK145.out) hb); have n2_ := Aside0.mk (below_step (by repeat (first | (with_reducible first | exact HB.out | apply below_alloc | apply pw_below_drewN | apply below_drew1 | refine below_set ?_ GE145.out) | exact HB.out)) hb); clear BK145; clear HB; have HO149 := n0_; have BK145 := n1_; have HB := n2_; clear n0_ n1_ n2_; clear hb ho13; have hcz14_0 : w12.cell? ⟨gb145, 0, none⟩ = some (.int .i64 a0_0) := (blk_cell BK145.out 0).trans rfl; have hcz14_1 : w12.cell? ⟨gb145, 1, none⟩ = some (.int .i64 a0_1) := (blk_cell BK145.out 1).trans rfl; have hcz14_2 : w12.cell? ⟨gb145, 2, none⟩ = some (.int .i64 a0_2) := (blk_cell BK145.out 2).trans rfl; have hcz14_3 : w12.cell? ⟨gb145, 3, none⟩ = some (.int .i64 a0_3) := (blk_cell BK145.out 3).trans rfl; have hfz14_0 := blk_frozen BK145.out 0; have hfz14_1 := blk_frozen BK145.out 1; have hfz14_2 := blk_frozen BK145.out 2; have hfz14_3 := blk_frozen BK145.out 3) | ((with_reducible refine gate_dst (N := 5) rfl ?_); refine box_event ?hg (N := 5) ?hd (cs := #[.int .i64 0, .int .i64 0, .int .i64 0]) (t := 31) ?hr ?_; (case hd => rfl); (case hg => rfl); (case hr => first | (go_simp; done) | (go_simp; rfl)); intro gb150 hg w15 hbox hb; have n0_ := Aside0.mk (Kd.R_below (by (with_reducible repeat (first | apply Kd.R_alloc | apply Kd.R_drewN | apply Kd.R_drew)); exact HO149.out) hb); have n1_ := Aside0.mk (blk_below (g := gb145) (o := .cells #[.int .i64 a0_0, .int .i64 a0_1, .int .i64 a0_2, .int .i64 a0_3] 86 (0, 0)) (by (with_reducible repeat (first | refine blk_drewN ?_ _ | refine blk_drew ?_ | refine blk_alloc ?_ _)); exact BK145.out) hb); have n2_ := Aside0.mk (below_step (by repeat (first | (with_reducible first | exact HB.out | apply below_alloc | apply pw_below_drewN | apply below_drew1 | refine below_set ?_ GE145.out) | exact HB.out)) hb); have n3_ := Aside0.mk (hbox); have n4_ := Aside0.mk ((by rw [hg]; exact (below_size (by repeat (first | (with_reducible first | exact HB.out | apply below_alloc | apply pw_below_drewN | apply below_drew1 | refine below_set ?_ GE145.out) | exact HB.out))) : w.heap.size ≤ gb150)); have n5_ := Aside0.mk ((by rw [hg]; exact (below_size (by repeat (first | (with_reducible first | exact HB.out | apply below_alloc | apply pw_below_drewN | apply below_drew1 | refine below_set ?_ GE145.out) | exact HB.out))) : w.heap.size ≤ gb150)); have n6_ := Aside0.mk ((by rw [hg]; exact Nat.ne_of_lt (blk_lt (g := gb145) (o := .cells #[.int .i64 a0_0, .int .i64 a0_1, .int .i64 a0_2, .int .i64 a0_3] 86 (0, 0)) (by (with_reducible repeat (first | refine blk_drewN ?_ _ | refine blk_drew ?_ | refine blk_alloc ?_ _)); exact BK145.out)) : gb145 ≠ gb150)); have n7_ := Aside0.mk ((by rw [hg]; exact Nat.ne_of_gt (blk_lt (g := gb145) (o := .cells #[.int .i64 a0_0, .int .i64 a0_1, .int .i64 a0_2, .int .i64 a0_3] 86 (0, 0)) (by (with_reducible repeat (first | refine blk_drewN ?_ _ | refine blk_drew ?_ | refine blk_alloc ?_ _)); exact BK145.out)) : gb150 ≠ gb145)); clear HO149; clear BK145; clear HB; have HO149 := n0_; have BK145 := n1_; have HB := n2_; have BK150 := n3_; have GW150 := n4_; have GE150 := n5_; have NB145_150 := n6_; have NB150_145 := n7_; clear n0_ n1_ n2_ n3_ n4_ n5_ n6_ n7_; clear hb hbox hg; have hnb16 := NB150_145.out; have hnc16 := NB145_150.out; have hcz17_0 : w15.cell? ⟨gb150, 0, none⟩ = some (.int .i64 0) := (blk_cell BK150.out 0).trans rfl; have hcz17_1 : w15.cell? ⟨gb150, 1, none⟩ = some (.int .i64 0) := (blk_cell BK150.out 1).trans rfl; have hcz17_2 : w15.cell? ⟨gb150, 2, none⟩ = some (.int .i64 0) := (blk_cell BK150.out 2).trans rfl; have hfz17_0 := blk_frozen BK150.out 0; have hfz17_1 := blk_frozen BK150.out 1; have hfz17_2 := blk_frozen BK150.out 2; have hcz18_0 : w15.cell? ⟨gb145, 0, none⟩ = some (.int .i64 a0_0) := (blk_cell BK145.out 0).trans rfl; have hcz18_1 : w15.cell? ⟨gb145, 1, none⟩ = some (.int .i64 a0_1) := (blk_cell BK145.out 1).trans rfl; have hcz18_2 : w15.cell? ⟨gb145, 2, none⟩ = some (.int .i64 a0_2) := (blk_cell BK145.out 2).trans rfl; have hcz18_3 : w15.cell? ⟨gb145, 3, none⟩ = some (.int .i64 a0_3) := (blk_cell BK145.out 3).trans rfl; have hfz18_0 := blk_frozen BK145.out 0; have hfz18_1 := blk_frozen BK145.out 1; have hfz18_2 := blk_frozen BK145.out 2; have hfz18_3 := blk_frozen BK145.out 3) | (go_at_call 37; (with_reducible refine (mintime_space_of.calls a0_0 a0_1 a0_2 a0_3 a0_3 0 0 t151 t152 _ A5.out).mono ?_); rintro e w19 ⟨rfl, hb⟩; have n0_ := Aside0.mk (Kd.R_below (by (with_reducible repeat (first | apply Kd.R_alloc | apply Kd.R_drewN | apply Kd.R_drew)); exact (Kd.R_mono (Kd.R_far (p := ⟨gb150, 2, none⟩) (Kd.R_far (p := ⟨gb150, 1, none⟩) (Kd.R_far (p := ⟨gb150, 0, none⟩) (Kd.R_types HO149.out BK150.out (by decide)) (fun _ hk => hk.2) (.int .i64 a0_3)) (fun _ hk => hk.2) (.int .i64 0)) (fun _ hk => hk.2) (.int .i64 0)) (fun _ h_ => h_.1))) hb); have n1_ := Aside0.mk (blk_below (g := gb145) (o := .cells #[.int .i64 a0_0, .int .i64 a0_1, .int .i64 a0_2, .int .i64 a0_3] 86 (0, 0)) (by (with_reducible repeat (first | refine blk_drewN ?_ _ | refine blk_drew ?_ | refine blk_alloc ?_ _)); refine blk_far ?_ NB145_150.out _; (with_reducible repeat (first | refine blk_drewN ?_ _ | refine blk_drew ?_ | refine blk_alloc ?_ _)); refine blk_far ?_ NB145_150.out _; (with_reducible repeat (first | refine blk_drewN ?_ _ | refine blk_drew ?_ | refine blk_alloc ?_ _)); refine blk_far ?_ NB145_150.out _; (with_reducible repeat (first | refine blk_drewN ?_ _ | refine blk_drew ?_ | refine blk_alloc ?_ _)); exact BK145.out) hb); have n2_ := Aside0.mk (blk_below (g := gb150) (o := .cells #[.int .i64 a0_3, .int .i64 0, .int .i64 0] 31 (0, 0)) (by (with_reducible repeat (first | refine blk_drewN ?_ _ | refine blk_drew ?_ | refine blk_alloc ?_ _)); refine blk_put (cs := #[.int .i64 a0_3, .int .i64 0, .int .i64 0]) ?_ 2 _ rfl; (with_reducible repeat (first | refine blk_drewN ?_ _ | refine blk_drew ?_ | refine blk_alloc ?_ _)); refine blk_put (cs := #[.int .i64 a0_3, .int .i64 0, .int .i64 0]) ?_ 1 _ rfl; (with_reducible repeat (first | refine blk_drewN ?_ _ | refine blk_drew ?_ | refine blk_alloc ?_ _)); refine blk_put (cs := #[.int .i64 0, .int .i64 0, .int .i64 0]) ?_ 0 _ rfl; (with_reducible repeat (first | refine blk_drewN ?_ _ | refine blk_drew ?_ | refine blk_alloc ?_ _)); exact BK150.out) hb); have n3_ := Aside0.mk (below_step (by repeat (first | (with_reducible first | exact HB.out | apply below_alloc | apply pw_below_drewN | apply below_drew1 | refine below_set ?_ GE145.out | refine below_set ?_ GE150.out) | exact HB.out)) hb); clear HO149; clear BK145; clear BK150; clear HB; have HO149 := n0_; have BK145 := n1_; have BK150 := n2_; have HB := n3_; clear n0_ n1_ n2_ n3_; (try clear hb); (try clear hb2); (try clear hk); (try clear hi); have p8 : 0 ≤ (t151 : Int) := of_decide_eq_true (by first | (with_reducible assumption) | assumption); have q8 : (t151 : Int) < ((y147.length : Int) : Int) := of_decide_eq_true (by first | (with_reducible assumption) | assumption); obtain ⟨go8, co8, eo8, gb8, gl8, cl8, HG8⟩ := Kd.R_form HO149.out (by omega); (first | cases eo8 | (injection eo8 with ea_ en_ ec_; (first | subst ea_ | (injection ea_ with ea_; subst ea_)); subst ec_; clear en_)); have GB8 := Aside0.mk gb8; have GG8 := Aside0.mk HG8; clear gb8 gl8 HG8; obtain ⟨hx8_0, hf8_0⟩ := Kd.R_celln 0 HO149.out (t151 : Int) p8 q8; replace p8 := eq_true p8; replace q8 := eq_true q8; obtain ⟨hy20_, hz20_⟩ := Kd.R_celln 0 HO149.out (t151 : Int) (of_decide_eq_true (by first | (with_reducible assumption) | assumption)) (of_decide_eq_true (by first | (with_reducible assumption) | assumption)); have HP20 := Kd.R_putg HO149.out (t151 : Int) 1) | ((with_reducible refine gate_store (t := 3) (p := 32) rfl ?_); refine store_event (t := 3) (p := 32) (v := ?vo_w21) (w1 := (w19.setCell ⟨go8, (t151 : Int).toNat, none⟩ (.int .i64 1))) ?hg ?ho ?hn ?hr ?_; (case ho => rfl); (case hg => rfl); (case hn => rfl); (case hr => first | (go_simp; done) | (go_simp; rfl)); intro w21 hw; have hg : w19.grownBy w21 (some go8) := (by rw [hw]; exact HP20.2); have hp_ : Kd.R (Kd.int .i64) 3 w21 w.heap.size (fun _ => True) (.slice (some ⟨go8, 0, none⟩) y147.length co8) y153 := (by rw [hw, Ny153.out]; exact HP20.1); clear HP20; have n0_ := Aside0.mk (blk_grown (g := gb145) (o := .cells #[.int .i64 a0_0, .int .i64 a0_1, .int .i64 a0_2, .int .i64 a0_3] 86 (0, 0)) (by (with_reducible repeat (first | refine blk_drewN ?_ _ | refine blk_drew ?_ | refine blk_alloc ?_ _)); exact BK145.out) hg (Kd.R_ne HO149.out BK145.out (by decide))); have n1_ := Aside0.mk (hp_); have n2_ := Aside0.mk (blk_grown (g := gb150) (o := .cells #[.int .i64 a0_3, .int .i64 0, .int .i64 0] 31 (0, 0)) (by (with_reducible repeat (first | refine blk_drewN ?_ _ | refine blk_drew ?_ | refine blk_alloc ?_ _)); exact BK150.out) hg (Kd.R_ne HO149.out BK150.out (by decide))); have n3_ := Aside0.mk ((by rw [hw]; exact below_set (HB.out) GB8.out : Below w.heap.size w w21)); clear BK145; clear HO149; clear BK150; clear HB; have BK145 := n0_; have HO149 := n1_; have BK150 := n2_; have HB := n3_; clear n0_ n1_ n2_ n3_; clear hg hw hp_; have hcz22_0 : w21.cell? ⟨gb150, 0, none⟩ = some (.int .i64 a0_3) := (blk_cell BK150.out 0).trans rfl; have hcz22_1 : w21.cell? ⟨gb150, 1, none⟩ = some (.int .i64 0) := (blk_cell BK150.out 1).trans rfl; have hcz22_2 : w21.cell? ⟨gb150, 2, none⟩ = some (.int .i64 0) := (blk_cell BK150.out 2).trans rfl; have hfz22_0 := blk_frozen BK150.out 0; have hfz22_1 := blk_frozen BK150.out 1; have hfz22_2 := blk_frozen BK150.out 2) | ((with_reducible refine gate_dst (N := 34) rfl ?_); refine Kd.R_lit k31 _ 31 ?hg (N := 34) ?hd (xs := ([(⟨a0_3, 0, 0⟩ : S31)] : List (S31))) (inner := [.int .i64 a0_3, .int .i64 0, .int .i64 0]) (ok := fun _ => True) (okp := fun _ => True) ?hr ?hp (fun _ hk => hk) trivial (Below.refl _ _) (Nat.le_refl _) (by simp) ?_; (case hd => rfl); (case hg => rfl); (case hr => first | (go_simp; done) | (go_simp; rfl)); (case hp => exact (Reps.c3 (show Kd.M k31 _ _ _ (⟨a0_3, 0, 0⟩ : S31) [.int .i64 a0_3, .int .i64 0, .int .i64 0] from (k31_mkM _ _ _ (⟨a0_3, 0, 0⟩ : S31) )) (Reps.none _ _))); intro v155 w23 ho24 hb hg_ hnew_; clear hg_ hnew_; (first | rw [← Ny154.out] at ho24 | (simp only [Int.reduceToNat] at ho24; rw [← Ny154.out] at ho24)); have n0_ := Aside0.mk (Kd.R_below (by (with_reducible repeat (first | apply Kd.R_alloc | apply Kd.R_drewN | apply Kd.R_drew)); exact HO149.out) hb); have n1_ := Aside0.mk (Kd.R_lower (Kd.R_newB ho24 (g := gb150) (o := .cells #[.int .i64 a0_3, .int .i64 0, .int .i64 0] 31 (0, 0)) (by (with_reducible repeat (first | refine blk_drewN ?_ _ | refine blk_drew ?_ | refine blk_alloc ?_ _)); exact BK150.out)) (below_size (by repeat (first | (with_reducible first | exact HB.out | apply below_alloc | apply pw_below_drewN | apply below_drew1 | refine below_set ?_ GE145.out | refine below_set ?_ GE150.out) | exact HB.out)))); have n2_ := Aside0.mk (blk_below (g := gb145) (o := .cells #[.int .i64 a0_0, .int .i64 a0_1, .int .i64 a0_2, .int .i64 a0_3] 86 (0, 0)) (by (with_reducible repeat (first | refine blk_drewN ?_ _ | refine blk_drew ?_ | refine blk_alloc ?_ _)); exact BK145.out) hb); have n3_ := Aside0.mk (blk_below (g := gb150) (o := .cells #[.int .i64 a0_3, .int .i64 0, .int .i64 0] 31 (0, 0)) (by (with_reducible repeat (first | refine blk_drewN ?_ _ | refine blk_drew ?_ | refine blk_alloc ?_ _)); exact BK150.out) hb); have n4_ := Aside0.mk (below_step (by repeat (first | (with_reducible first | exact HB.out | apply below_alloc | apply pw_below_drewN | apply below_drew1 | refine below_set ?_ GE145.out | refine below_set ?_ GE150.out) | exact HB.out)) hb); clear HO149; clear BK145; clear BK150; clear HB; have HO149 := n0_; have HO156 := n1_; have BK145 := n2_; have BK150 := n3_; have HB := n4_; clear n0_ n1_ n2_ n3_ n4_; clear hb ho24))
     apply wp_scope_straight
     go_wp2_with (first | ((with_reducible refine gate_dst (N := 1) rfl ?_); refine box_event ?hg (N := 1) ?hd (cs := #[.int .i64 a0_0, .int .i64 a0_1, .int .i64 a0_2, .int .i64 a0_3]) (t := 86) ?hr ?_; (case hd => rfl); (case hg => rfl); (case hr => first | (go_simp; done) | (go_simp; rfl)); intro gb145 hg w9 hbox hb; have n0_ := Aside0.mk (below_step (by repeat (first | (with_reducible first | exact HB.out | apply below_alloc | apply pw_below_drewN | apply below_drew1) | exact HB.out)) hb); have n1_ := Aside0.mk (hbox); have n2_ := Aside0.mk ((by rw [hg]; exact (below_size (by repeat (first | (with_reducible first | exact HB.out | apply below_alloc | apply pw_below_drewN | apply below_drew1) | exact HB.out))) : w.heap.size ≤ gb145)); have n3_ := Aside0.mk ((by rw [hg]; exact (below_size (by repeat (first | (with_reducible first | exact HB.out | apply below_alloc | apply pw_below_drewN | apply below_drew1) | exact HB.out))) : w.heap.size ≤ gb145)); clear HB; have HB := n0_; have BK145 := n1_; have GW145 := n2_; have GE145 := n3_; clear n0_ n1_ n2_ n3_; clear hb hbox hg; have hcz10_0 : w9.cell? ⟨gb145, 0, none⟩ = some (.int .i64 a0_0) := (blk_cell BK145.out 0).trans rfl; have hcz10_1 : w9.cell? ⟨gb145, 1, none⟩ = some (.int .i64 a0_1) := (blk_cell BK145.out 1).trans rfl; have hcz10_2 : w9.cell? ⟨gb145, 2, none⟩ = some (.int .i64 a0_2) := (blk_cell BK145.out 2).trans rfl; have hcz10_3 : w9.cell? ⟨gb145, 3, none⟩ = some (.int .i64 a0_3) := (blk_cell BK145.out 3).trans rfl; have hfz10_0 := blk_frozen BK145.out 0; have hfz10_1 := blk_frozen BK145.out 1; have hfz10_2 := blk_frozen BK145.out 2; have hfz10_3 := blk_frozen BK145.out 3) | ((with_reducible refine gate_callee (f := 55) rfl ?_); refine goesL_ (some 17) rfl rfl Try.func55 (by kernel_rfl) rfl #[.agg #[.int .i64 a0_0, .int .i64 a0_1, .int .i64 a0_2, .int .i64 a0_3]] rfl (by (try simp only [List.map_toArray, List.map_cons, List.map_nil]); first | done | rfl | (simp only [List.length_drop, List.length_take]; rfl)) ?_; (with_reducible refine (mintime_space_many.calls a0_0 a0_1 a0_2 a0_3 t146 _ A2.out).mono ?_); rintro e w11 ⟨rfl, hb⟩; refine ⟨_, rfl, ?_⟩; have n0_ := Aside0.mk (blk_below (g := gb145) (o := .cells #[.int .i64 a0_0, .int .i64 a0_1, .int .i64 a0_2, .int .i64 a0_3] 86 (0, 0)) (by (with_reducible repeat (first | refine blk_drewN ?_ _ | refine blk_drew ?_ | refine blk_alloc ?_ _)); exact BK145.out) hb); have n1_ := Aside0.mk (below_step (by repeat (first | (with_reducible first | exact HB.out | apply below_alloc | apply pw_below_drewN | apply below_drew1 | refine below_set ?_ GE145.out) | exact HB.out)) hb); clear BK145; clear HB; have BK145 := n0_; have HB := n1_; clear n0_ n1_; (try clear hb); (try clear hb2); (try clear hk); (try clear hi)) | ((with_reducible refine gate_dst (N := 18) rfl ?_); refine Kd.R_make (Kd.int .i64) _ 3 rfl (N := 18) rfl 27 _ _ rfl t146 rfl rfl Try.underlying27 (.int .i64 0) 8 info3 rfl (by decide) (by omega) 0 (ok := fun _ => True) (okp := fun _ => True) rfl (fun _ hk => hk) trivial (of_decide_eq_true (by first | (with_reducible assumption) | assumption)) (Nat.le_trans (Nat.mul_le_mul_right _ (of_decide_eq_true (by first | (with_reducible assumption) | assumption) : t146.toNat ≤ 35184372088832)) (by omega)) (Below.refl _ _) (Nat.le_refl _) ?_; intro v148 w12 ho13 hb hg_ hnew_; clear hg_ hnew_; (first | rw [← Ny147.out] at ho13 | (simp only [Int.reduceToNat] at ho13; rw [← Ny147.out] at ho13)); have n0_ := Aside0.mk (Kd.R_lower ho13 (below_size (by repeat (first | (with_reducible first | exact HB.out | apply below_alloc | apply pw_below_drewN | apply below_drew1 | refine below_set ?_ GE145.out) | exact HB.out)))); have n1_ := Aside0.mk (blk_below (g := gb145) (o := .cells #[.int .i64 a0_0, .int .i64 a0_1, .int .i64 a0_2, .int .i64 a0_3] 86 (0, 0)) (by (with_reducible repeat (first | refine blk_drewN ?_ _ | refine blk_drew ?_ | refine blk_alloc ?_ _)); exact BK145.out) hb); have n2_ := Aside0.mk (below_step (by repeat (first | (with_reducible first | exact HB.out | apply below_alloc | apply pw_below_drewN | apply below_drew1 | refine below_set ?_ GE145.out) | exact HB.out)) hb); clear BK145; clear HB; have HO149 := n0_; have BK145 := n1_; have HB := n2_; clear n0_ n1_ n2_; clear hb ho13; have hcz14_0 : w12.cell? ⟨gb145, 0, none⟩ = some (.int .i64 a0_0) := (blk_cell BK145.out 0).trans rfl; have hcz14_1 : w12.cell? ⟨gb145, 1, none⟩ = some (.int .i64 a0_1) := (blk_cell BK145.out 1).trans rfl; have hcz14_2 : w12.cell? ⟨gb145, 2, none⟩ = some (.int .i64 a0_2) := (blk_cell BK145.out 2).trans rfl; have hcz14_3 : w12.cell? ⟨gb145, 3, none⟩ = some (.int .i64 a0_3) := (blk_cell BK145.out 3).trans rfl; have hfz14_0 := blk_frozen BK145.out 0; have hfz14_1 := blk_frozen BK145.out 1; have hfz14_2 := blk_frozen BK145.out 2; have hfz14_3 := blk_frozen BK145.out 3) | ((with_reducible refine gate_dst (N := 5) rfl ?_); refine box_event ?hg (N := 5) ?hd (cs := #[.int .i64 0, .int .i64 0, .int .i64 0]) (t := 31) ?hr ?_; (case hd => rfl); (case hg => rfl); (case hr => first | (go_simp; done) | (go_simp; rfl)); intro gb150 hg w15 hbox hb; have n0_ := Aside0.mk (Kd.R_below (by (with_reducible repeat (first | apply Kd.R_alloc | apply Kd.R_drewN | apply Kd.R_drew)); exact HO149.out) hb); have n1_ := Aside0.mk (blk_below (g := gb145) (o := .cells #[.int .i64 a0_0, .int .i64 a0_1, .int .i64 a0_2, .int .i64 a0_3] 86 (0, 0)) (by (with_reducible repeat (first | refine blk_drewN ?_ _ | refine blk_drew ?_ | refine blk_alloc ?_ _)); exact BK145.out) hb); have n2_ := Aside0.mk (below_step (by repeat (first | (with_reducible first | exact HB.out | apply below_alloc | apply pw_below_drewN | apply below_drew1 | refine below_set ?_ GE145.out) | exact HB.out)) hb); have n3_ := Aside0.mk (hbox); have n4_ := Aside0.mk ((by rw [hg]; exact (below_size (by repeat (first | (with_reducible first | exact HB.out | apply below_alloc | apply pw_below_drewN | apply below_drew1 | refine below_set ?_ GE145.out) | exact HB.out))) : w.heap.size ≤ gb150)); have n5_ := Aside0.mk ((by rw [hg]; exact (below_size (by repeat (first | (with_reducible first | exact HB.out | apply below_alloc | apply pw_below_drewN | apply below_drew1 | refine below_set ?_ GE145.out) | exact HB.out))) : w.heap.size ≤ gb150)); have n6_ := Aside0.mk ((by rw [hg]; exact Nat.ne_of_lt (blk_lt (g := gb145) (o := .cells #[.int .i64 a0_0, .int .i64 a0_1, .int .i64 a0_2, .int .i64 a0_3] 86 (0, 0)) (by (with_reducible repeat (first | refine blk_drewN ?_ _ | refine blk_drew ?_ | refine blk_alloc ?_ _)); exact BK145.out)) : gb145 ≠ gb150)); have n7_ := Aside0.mk ((by rw [hg]; exact Nat.ne_of_gt (blk_lt (g := gb145) (o := .cells #[.int .i64 a0_0, .int .i64 a0_1, .int .i64 a0_2, .int .i64 a0_3] 86 (0, 0)) (by (with_reducible repeat (first | refine blk_drewN ?_ _ | refine blk_drew ?_ | refine blk_alloc ?_ _)); exact BK145.out)) : gb150 ≠ gb145)); clear HO149; clear BK145; clear HB; have HO149 := n0_; have BK145 := n1_; have HB := n2_; have BK150 := n3_; have GW150 := n4_; have GE150 := n5_; have NB145_150 := n6_; have NB150_145 := n7_; clear n0_ n1_ n2_ n3_ n4_ n5_ n6_ n7_; clear hb hbox hg; have hnb16 := NB150_145.out; have hnc16 := NB145_150.out; have hcz17_0 : w15.cell? ⟨gb150, 0, none⟩ = some (.int .i64 0) := (blk_cell BK150.out 0).trans rfl; have hcz17_1 : w15.cell? ⟨gb150, 1, none⟩ = some (.int .i64 0) := (blk_cell BK150.out 1).trans rfl; have hcz17_2 : w15.cell? ⟨gb150, 2, none⟩ = some (.int .i64 0) := (blk_cell BK150.out 2).trans rfl; have hfz17_0 := blk_frozen BK150.out 0; have hfz17_1 := blk_frozen BK150.out 1; have hfz17_2 := blk_frozen BK150.out 2; have hcz18_0 : w15.cell? ⟨gb145, 0, none⟩ = some (.int .i64 a0_0) := (blk_cell BK145.out 0).trans rfl; have hcz18_1 : w15.cell? ⟨gb145, 1, none⟩ = some (.int .i64 a0_1) := (blk_cell BK145.out 1).trans rfl; have hcz18_2 : w15.cell? ⟨gb145, 2, none⟩ = some (.int .i64 a0_2) := (blk_cell BK145.out 2).trans rfl; have hcz18_3 : w15.cell? ⟨gb145, 3, none⟩ = some (.int .i64 a0_3) := (blk_cell BK145.out 3).trans rfl; have hfz18_0 := blk_frozen BK145.out 0; have hfz18_1 := blk_frozen BK145.out 1; have hfz18_2 := blk_frozen BK145.out 2; have hfz18_3 := blk_frozen BK145.out 3) | (go_at_call 37; (with_reducible refine (mintime_space_of.calls a0_0 a0_1 a0_2 a0_3 a0_3 0 0 t151 t152 _ A5.out).mono ?_); rintro e w19 ⟨rfl, hb⟩; have n0_ := Aside0.mk (Kd.R_below (by (with_reducible repeat (first | apply Kd.R_alloc | apply Kd.R_drewN | apply Kd.R_drew)); exact (Kd.R_mono (Kd.R_far (p := ⟨gb150, 2, none⟩) (Kd.R_far (p := ⟨gb150, 1, none⟩) (Kd.R_far (p := ⟨gb150, 0, none⟩) (Kd.R_types HO149.out BK150.out (by decide)) (fun _ hk => hk.2) (.int .i64 a0_3)) (fun _ hk => hk.2) (.int .i64 0)) (fun _ hk => hk.2) (.int .i64 0)) (fun _ h_ => h_.1))) hb); have n1_ := Aside0.mk (blk_below (g := gb145) (o := .cells #[.int .i64 a0_0, .int .i64 a0_1, .int .i64 a0_2, .int .i64 a0_3] 86 (0, 0)) (by (with_reducible repeat (first | refine blk_drewN ?_ _ | refine blk_drew ?_ | refine blk_alloc ?_ _)); refine blk_far ?_ NB145_150.out _; (with_reducible repeat (first | refine blk_drewN ?_ _ | refine blk_drew ?_ | refine blk_alloc ?_ _)); refine blk_far ?_ NB145_150.out _; (with_reducible repeat (first | refine blk_drewN ?_ _ | refine blk_drew ?_ | refine blk_alloc ?_ _)); refine blk_far ?_ NB145_150.out _; (with_reducible repeat (first | refine blk_drewN ?_ _ | refine blk_drew ?_ | refine blk_alloc ?_ _)); exact BK145.out) hb); have n2_ := Aside0.mk (blk_below (g := gb150) (o := .cells #[.int .i64 a0_3, .int .i64 0, .int .i64 0] 31 (0, 0)) (by (with_reducible repeat (first | refine blk_drewN ?_ _ | refine blk_drew ?_ | refine blk_alloc ?_ _)); refine blk_put (cs := #[.int .i64 a0_3, .int .i64 0, .int .i64 0]) ?_ 2 _ rfl; (with_reducible repeat (first | refine blk_drewN ?_ _ | refine blk_drew ?_ | refine blk_alloc ?_ _)); refine blk_put (cs := #[.int .i64 a0_3, .int .i64 0, .int .i64 0]) ?_ 1 _ rfl; (with_reducible repeat (first | refine blk_drewN ?_ _ | refine blk_drew ?_ | refine blk_alloc ?_ _)); refine blk_put (cs := #[.int .i64 0, .int .i64 0, .int .i64 0]) ?_ 0 _ rfl; (with_reducible repeat (first | refine blk_drewN ?_ _ | refine blk_drew ?_ | refine blk_alloc ?_ _)); exact BK150.out) hb); have n3_ := Aside0.mk (below_step (by repeat (first | (with_reducible first | exact HB.out | apply below_alloc | apply pw_below_drewN | apply below_drew1 | refine below_set ?_ GE145.out | refine below_set ?_ GE150.out) | exact HB.out)) hb); clear HO149; clear BK145; clear BK150; clear HB; have HO149 := n0_; have BK145 := n1_; have BK150 := n2_; have HB := n3_; clear n0_ n1_ n2_ n3_; (try clear hb); (try clear hb2); (try clear hk); (try clear hi); have p8 : 0 ≤ (t151 : Int) := of_decide_eq_true (by first | (with_reducible assumption) | assumption); have q8 : (t151 : Int) < ((y147.length : Int) : Int) := of_decide_eq_true (by first | (with_reducible assumption) | assumption); obtain ⟨go8, co8, eo8, gb8, gl8, cl8, HG8⟩ := Kd.R_form HO149.out (by omega); (first | cases eo8 | (injection eo8 with ea_ en_ ec_; (first | subst ea_ | (injection ea_ with ea_; subst ea_)); subst ec_; clear en_)); have GB8 := Aside0.mk gb8; have GG8 := Aside0.mk HG8; clear gb8 gl8 HG8; obtain ⟨hx8_0, hf8_0⟩ := Kd.R_celln 0 HO149.out (t151 : Int) p8 q8; replace p8 := eq_true p8; replace q8 := eq_true q8; obtain ⟨hy20_, hz20_⟩ := Kd.R_celln 0 HO149.out (t151 : Int) (of_decide_eq_true (by first | (with_reducible assumption) | assumption)) (of_decide_eq_true (by first | (with_reducible assumption) | assumption)); have HP20 := Kd.R_putg HO149.out (t151 : Int) 1) | ((with_reducible refine gate_store (t := 3) (p := 32) rfl ?_); refine store_event (t := 3) (p := 32) (v := ?vo_w21) (w1 := (w19.setCell ⟨go8, (t151 : Int).toNat, none⟩ (.int .i64 1))) ?hg ?ho ?hn ?hr ?_; (case ho => rfl); (case hg => rfl); (case hn => rfl); (case hr => first | (go_simp; done) | (go_simp; rfl)); intro w21 hw; have hg : w19.grownBy w21 (some go8) := (by rw [hw]; exact HP20.2); have hp_ : Kd.R (Kd.int .i64) 3 w21 w.heap.size (fun _ => True) (.slice (some ⟨go8, 0, none⟩) y147.length co8) y153 := (by rw [hw, Ny153.out]; exact HP20.1); clear HP20; have n0_ := Aside0.mk (blk_grown (g := gb145) (o := .cells #[.int .i64 a0_0, .int .i64 a0_1, .int .i64 a0_2, .int .i64 a0_3] 86 (0, 0)) (by (with_reducible repeat (first | refine blk_drewN ?_ _ | refine blk_drew ?_ | refine blk_alloc ?_ _)); exact BK145.out) hg (Kd.R_ne HO149.out BK145.out (by decide))); have n1_ := Aside0.mk (hp_); have n2_ := Aside0.mk (blk_grown (g := gb150) (o := .cells #[.int .i64 a0_3, .int .i64 0, .int .i64 0] 31 (0, 0)) (by (with_reducible repeat (first | refine blk_drewN ?_ _ | refine blk_drew ?_ | refine blk_alloc ?_ _)); exact BK150.out) hg (Kd.R_ne HO149.out BK150.out (by decide))); have n3_ := Aside0.mk ((by rw [hw]; exact below_set (HB.out) GB8.out : Below w.heap.size w w21)); clear BK145; clear HO149; clear BK150; clear HB; have BK145 := n0_; have HO149 := n1_; have BK150 := n2_; have HB := n3_; clear n0_ n1_ n2_ n3_; clear hg hw hp_; have hcz22_0 : w21.cell? ⟨gb150, 0, none⟩ = some (.int .i64 a0_3) := (blk_cell BK150.out 0).trans rfl; have hcz22_1 : w21.cell? ⟨gb150, 1, none⟩ = some (.int .i64 0) := (blk_cell BK150.out 1).trans rfl; have hcz22_2 : w21.cell? ⟨gb150, 2, none⟩ = some (.int .i64 0) := (blk_cell BK150.out 2).trans rfl; have hfz22_0 := blk_frozen BK150.out 0; have hfz22_1 := blk_frozen BK150.out 1; have hfz22_2 := blk_frozen BK150.out 2) | ((with_reducible refine gate_dst (N := 34) rfl ?_); refine Kd.R_lit k31 _ 31 ?hg (N := 34) ?hd (xs := ([(⟨a0_3, 0, 0⟩ : S31)] : List (S31))) (inner := [.int .i64 a0_3, .int .i64 0, .int .i64 0]) (ok := fun _ => True) (okp := fun _ => True) ?hr ?hp (fun _ hk => hk) trivial (Below.refl _ _) (Nat.le_refl _) (by simp) ?_; (case hd => rfl); (case hg => rfl); (case hr => first | (go_simp; done) | (go_simp; rfl)); (case hp => exact (Reps.c3 (show Kd.M k31 _ _ _ (⟨a0_3, 0, 0⟩ : S31) [.int .i64 a0_3, .int .i64 0, .int .i64 0] from (k31_mkM _ _ _ (⟨a0_3, 0, 0⟩ : S31) )) (Reps.none _ _))); intro v155 w23 ho24 hb hg_ hnew_; clear hg_ hnew_; (first | rw [← Ny154.out] at ho24 | (simp only [Int.reduceToNat] at ho24; rw [← Ny154.out] at ho24)); have n0_ := Aside0.mk (Kd.R_below (by (with_reducible repeat (first | apply Kd.R_alloc | apply Kd.R_drewN | apply Kd.R_drew)); exact HO149.out) hb); have n1_ := Aside0.mk (Kd.R_lower (Kd.R_newB ho24 (g := gb150) (o := .cells #[.int .i64 a0_3, .int .i64 0, .int .i64 0] 31 (0, 0)) (by (with_reducible repeat (first | refine blk_drewN ?_ _ | refine blk_drew ?_ | refine blk_alloc ?_ _)); exact BK150.out)) (below_size (by repeat (first | (with_reducible first | exact HB.out | apply below_alloc | apply pw_below_drewN | apply below_drew1 | refine below_set ?_ GE145.out | refine below_set ?_ GE150.out) | exact HB.out)))); have n2_ := Aside0.mk (blk_below (g := gb145) (o := .cells #[.int .i64 a0_0, .int .i64 a0_1, .int .i64 a0_2, .int .i64 a0_3] 86 (0, 0)) (by (with_reducible repeat (first | refine blk_drewN ?_ _ | refine blk_drew ?_ | refine blk_alloc ?_ _)); exact BK145.out) hb); have n3_ := Aside0.mk (blk_below (g := gb150) (o := .cells #[.int .i64 a0_3, .int .i64 0, .int .i64 0] 31 (0, 0)) (by (with_reducible repeat (first | refine blk_drewN ?_ _ | refine blk_drew ?_ | refine blk_alloc ?_ _)); exact BK150.out) hb); have n4_ := Aside0.mk (below_step (by repeat (first | (with_reducible first | exact HB.out | apply below_alloc | apply pw_below_drewN | apply below_drew1 | refine below_set ?_ GE145.out | refine below_set ?_ GE150.out) | exact HB.out)) hb); clear HO149; clear BK145; clear BK150; clear HB; have HO149 := n0_; have HO156 := n1_; have BK145 := n2_; have BK150 := n3_; have HB := n4_; clear n0_ n1_ n2_ n3_ n4_; clear hb ho24))
     apply wp_label
     go_wp2
     go_loopg [8] k (fun kq v8 w' => ∃ (x3_1 : List Int) (x8_1 : List (S31)), Aside0 (mintime_space_left.l0 kq x3_1 x8_1 a0_0 a0_1 a0_2 a0_3 = some r) ∧ Aside0 (kq ≤ k) ∧ Aside0 (Kd.R (Kd.int .i64) 3 w' w.heap.size (fun _ => True) (.slice (some ⟨go8, 0, none⟩) y147.length co8) x3_1) ∧ Aside0 (Kd.Q k31 31 w' w.heap.size (fun k_ => k_ ≠ gb150) v8 x8_1) ∧ Aside0 (w'.heap[gb145]? = some (.cells #[.int .i64 a0_0, .int .i64 a0_1, .int .i64 a0_2, .int .i64 a0_3] 86 (0, 0))) ∧ Aside0 (w'.heap[gb150]? = some (.cells #[.int .i64 a0_3, .int .i64 0, .int .i64 0] 31 (0, 0))) ∧ Aside0 (Below w.heap.size w w'))
     case atStart => exact ⟨(y153), (y154), H', ⟨Nat.le_refl _⟩, ⟨by (with_reducible repeat (first | apply Kd.R_alloc | apply Kd.R_drewN | apply Kd.R_drew)); exact HO149.out⟩, ⟨Kd.Q_of_R (by (with_reducible repeat (first | apply Kd.R_alloc | apply Kd.R_drewN | apply Kd.R_drew)); exact Kd.R_mono HO156.out (fun _ hk => hk.2))⟩, ⟨by (with_reducible repeat (first | refine blk_drewN ?_ _ | refine blk_drew ?_ | refine blk_alloc ?_ _)); exact BK145.out⟩, ⟨by (with_reducible repeat (first | refine blk_drewN ?_ _ | refine blk_drew ?_ | refine blk_alloc ?_ _)); exact BK150.out⟩, ⟨by repeat (first | (with_reducible first | exact HB.out | apply below_alloc | apply pw_below_drewN | apply below_drew1 | refine below_set ?_ GE145.out | refine below_set ?_ GE150.out) | exact HB.out)⟩⟩
     case round =>
      clear H'
      try clear c1
      try clear p2
      try clear c3
      try clear c3b0
      try clear c3b1
      try clear c4
      try clear c4b0
      try clear c4b1
      try clear c5
      try clear c6
      try clear c6b0
      try clear c7
      try clear c7b0
      try clear p8
      try clear q8
      try clear hx8
      try clear hf8
      try clear c16
      try clear hcz10_0
      try clear hcz10_1
      try clear hcz10_2
      try clear hcz10_3
      try clear hcz14_0
      try clear hcz14_1
      try clear hcz14_2
      try clear hcz14_3
      try clear hcz17_0
      try clear hcz17_1
      try clear hcz17_2
      try clear hcz18_0
      try clear hcz18_1
      try clear hcz18_2
      try clear hcz18_3
      try clear hcz22_0
      try clear hcz22_1
      try clear hcz22_2
      try clear hfz10_0
      try clear hfz10_1
      try clear hfz10_2
      try clear hfz10_3
      try clear hfz14_0
      try clear hfz14_1
      try clear hfz14_2
      try clear hfz14_3
      try clear hfz17_0
      try clear hfz17_1
      try clear hfz17_2
      try clear hfz18_0
      try clear hfz18_1
      try clear hfz18_2
      try clear hfz18_3
      try clear hfz22_0
      try clear hfz22_1
      try clear hfz22_2
      try clear hx8_0
      try clear p8
      try clear q8
      obtain ⟨x3_1, x8_1, HA, HK1, HO_3, HO_8, BK145, BK150, HB⟩ := hrel
      have hl3_1 := (Kd.R_reads' HO_3.out).1
      rw [hl3_1] at HO_3
      (try simp only [hl3_1])
      (try simp only [hl3_1] at BK145)
      (try simp only [hl3_1] at BK150)
      (try simp only [hl3_1] at HO_8)
      cases gk with
      | zero => exact absurd HA.out (by simp [mintime_space_left.l0])
      | succ k1 =>
       have H := HA.out
       clear HA
       simp only [mintime_space_left.l0] at H
       by_cases c25 : (x8_1.length : Int) > 0
       ·
        rw [if_pos c25] at H
        have c25b0 : decide (0 < (x8_1.length : Int)) = true := decide_eq_true c25
        have c25b1 : decide (0 < x8_1.length) = true := decide_eq_true (by omega)
        clear c25
        by_cases c26 : 0 < (x8_1.length : Int)
        ·
         rw [if_pos c26] at H
         have c26b0 : decide (0 < (x8_1.length : Int)) = true := decide_eq_true c26
         have c26b1 : decide (0 < x8_1.length) = true := decide_eq_true (by omega)
         clear c26
         by_cases c27 : 1 ≤ (x8_1.length : Int)
         ·
          rw [if_pos c27] at H
          have c27b0 := eq_true c27
          have c27b1 : decide (1 ≤ (x8_1.length : Int)) = true := decide_eq_true c27
          clear c27
          obtain ⟨y159, hy159⟩ : ∃ y_ : List (S31), y_ = (x8_1.drop (1 : Int).toNat) := ⟨_, rfl⟩
          replace H : ((mintime_space_of.f a0_0 a0_1 a0_2 a0_3 ((rd_T31 x8_1 0).f0) ((rd_T31 x8_1 0).f1) ((rd_T31 x8_1 0).f2)).bind fun bt162 => (mintime_space_left.l1 k1 x3_1 y159 bt162.1 (wrap64 (-a0_2)) a0_0 a0_1 a0_2 a0_3 ((rd_T31 x8_1 0).f0) ((rd_T31 x8_1 0).f1) ((rd_T31 x8_1 0).f2))) = some r := by first | (rw [hy159]; with_reducible exact H) | (have H2_ := (Option.bind_some _ _).symm.trans H; rw [hy159]; with_reducible exact H2_) | (have H2_ := (Option.bind_some _ _).symm.trans H; with_reducible exact H2_) | with_reducible exact H | (rw [hy159]; exact H) | exact H
          have Ny159 := Aside0.mk hy159
          clear hy159
          replace H := Option.bind_eq_some_iff.mp H
          obtain ⟨⟨t162, t163⟩, A280, H⟩ := H
          replace H : (mintime_space_left.l1 k1 x3_1 y159 t162 (wrap64 (-a0_2)) a0_0 a0_1 a0_2 a0_3 ((rd_T31 x8_1 0).f0) ((rd_T31 x8_1 0).f1) ((rd_T31 x8_1 0).f2)) = some r := H
          have A28 := Aside0.mk A280
          clear A280
          have H' := Aside0.mk H
          clear H
          obtain ⟨Ao29, co29, eo29, _⟩ := Kd.Q_slice HO_8.out
          subst eo29
          have p157 : 0 ≤ (0 : Int) := (by omega)
          have q157 : 0 < (x8_1.length : Int) := of_decide_eq_true (by first | (with_reducible assumption) | assumption)
          obtain ⟨ad157, e157, hx157_0, hx157_1, hx157_2⟩ := at_T31 (Kd.Q_reads' HO_8.out).2.2 0 p157 q157
          cases e157
          have qi157 : (0 < x8_1.length) = True := eq_true (by omega)
          (try rw [show ((0 : Int)).toNat = 0 from rfl] at hx157_0)
          (try rw [show 0 * 3 = 0 from rfl] at hx157_0)
          (try rw [Addr.add_zero'] at hx157_0)
          (try rw [show ((0 : Int)).toNat = 0 from rfl] at hx157_1)
          (try rw [show 0 * 3 = 0 from rfl] at hx157_1)
          (try rw [Addr.add_zero'] at hx157_1)
          (try rw [show ((0 : Int)).toNat = 0 from rfl] at hx157_2)
          (try rw [show 0 * 3 = 0 from rfl] at hx157_2)
          (try rw [Addr.add_zero'] at hx157_2)
          replace p157 := eq_true p157
          replace q157 := eq_true q157
          go_wp2_with (first | ((with_reducible refine gate_dst (N := 9) rfl ?_); refine box_event ?hg (N := 9) ?hd (cs := #[.int .i64 0, .int .i64 0, .int .i64 0]) (t := 31) ?hr ?_; (case hd => rfl); (case hg => rfl); (case hr => first | (go_simp; done) | (go_simp; rfl)); intro gb158 hg w30 hbox hb; have n0_ := Aside0.mk (Kd.R_below (by (with_reducible repeat (first | apply Kd.R_alloc | apply Kd.R_drewN | apply Kd.R_drew)); exact HO_3.out) hb); have n1_ := Aside0.mk (Kd.Q_below (Kd.Q_elderB (by (with_reducible repeat (first | apply Kd.Q_alloc | apply Kd.Q_drewN | apply Kd.Q_drew)); exact HO_8.out) gb158 (Nat.le_of_eq hg.symm)) hb); have n2_ := Aside0.mk (blk_below (g := gb145) (o := .cells #[.int .i64 a0_0, .int .i64 a0_1, .int .i64 a0_2, .int .i64 a0_3] 86 (0, 0)) (by (with_reducible repeat (first | refine blk_drewN ?_ _ | refine blk_drew ?_ | refine blk_alloc ?_ _)); exact BK145.out) hb); have n3_ := Aside0.mk (blk_below (g := gb150) (o := .cells #[.int .i64 a0_3, .int .i64 0, .int .i64 0] 31 (0, 0)) (by (with_reducible repeat (first | refine blk_drewN ?_ _ | refine blk_drew ?_ | refine blk_alloc ?_ _)); exact BK150.out) hb); have n4_ := Aside0.mk (below_step (by repeat (first | (with_reducible first | exact HB.out | apply below_alloc | apply pw_below_drewN | apply below_drew1 | refine below_set ?_ GE145.out | refine below_set ?_ GE150.out) | exact HB.out)) hb); have n5_ := Aside0.mk (hbox); have n6_ := Aside0.mk ((by rw [hg]; exact (below_size (by repeat (first | (with_reducible first | exact HB.out | apply below_alloc | apply pw_below_drewN | apply below_drew1 | refine below_set ?_ GE145.out | refine below_set ?_ GE150.out) | exact HB.out))) : w.heap.size ≤ gb158)); have n7_ := Aside0.mk ((by rw [hg]; exact (below_size (by repeat (first | (with_reducible first | exact HB.out | apply below_alloc | apply pw_below_drewN | apply below_drew1 | refine below_set ?_ GE145.out | refine below_set ?_ GE150.out) | exact HB.out))) : w.heap.size ≤ gb158)); have n8_ := Aside0.mk ((by rw [hg]; exact Nat.ne_of_lt (blk_lt (g := gb145) (o := .cells #[.int .i64 a0_0, .int .i64 a0_1, .int .i64 a0_2, .int .i64 a0_3] 86 (0, 0)) (by (with_reducible repeat (first | refine blk_drewN ?_ _ | refine blk_drew ?_ | refine blk_alloc ?_ _)); exact BK145.out)) : gb145 ≠ gb158)); have n9_ := Aside0.mk ((by rw [hg]; exact Nat.ne_of_gt (blk_lt (g := gb145) (o := .cells #[.int .i64 a0_0, .int .i64 a0_1, .int .i64 a0_2, .int .i64 a0_3] 86 (0, 0)) (by (with_reducible repeat (first | refine blk_drewN ?_ _ | refine blk_drew ?_ | refine blk_alloc ?_ _)); exact BK145.out)) : gb158 ≠ gb145)); have n10_ := Aside0.mk ((by rw [hg]; exact Nat.ne_of_lt (blk_lt (g := gb150) (o := .cells #[.int .i64 a0_3, .int .i64 0, .int .i64 0] 31 (0, 0)) (by (with_reducible repeat (first | refine blk_drewN ?_ _ | refine blk_drew ?_ | refine blk_alloc ?_ _)); exact BK150.out)) : gb150 ≠ gb158)); have n11_ := Aside0.mk ((by rw [hg]; exact Nat.ne_of_gt (blk_lt (g := gb150) (o := .cells #[.int .i64 a0_3, .int .i64 0, .int .i64 0] 31 (0, 0)) (by (with_reducible repeat (first | refine blk_drewN ?_ _ | refine blk_drew ?_ | refine blk_alloc ?_ _)); exact BK150.out)) : gb158 ≠ gb150)); clear HO_3; clear HO_8; clear BK145; clear BK150; clear HB; have HO_3 := n0_; have HO_8 := n1_; have BK145 := n2_; have BK150 := n3_; have HB := n4_; have BK158 := n5_; have GW158 := n6_; have GE158 := n7_; have NB145_158 := n8_; have NB158_145 := n9_; have NB150_158 := n10_; have NB158_150 := n11_; clear n0_ n1_ n2_ n3_ n4_ n5_ n6_ n7_ n8_ n9_ n10_ n11_; clear hb hbox hg; have hnb31 := NB158_145.out; have hnc31 := NB145_158.out; have hnb32 := NB158_150.out; have hnc32 := NB150_158.out; have hcz33_0 : w30.cell? ⟨gb158, 0, none⟩ = some (.int .i64 0) := (blk_cell BK158.out 0).trans rfl; have hcz33_1 : w30.cell? ⟨gb158, 1, none⟩ = some (.int .i64 0) := (blk_cell BK158.out 1).trans rfl; have hcz33_2 : w30.cell? ⟨gb158, 2, none⟩ = some (.int .i64 0) := (blk_cell BK158.out 2).trans rfl; have hfz33_0 := blk_frozen BK158.out 0; have hfz33_1 := blk_frozen BK158.out 1; have hfz33_2 := blk_frozen BK158.out 2) | ((with_reducible refine gate_store (t := 31) (p := 9) rfl ?_); refine store_event (t := 31) (p := 9) (v := ?vo_w34) (w1 := (((w30.setCell ⟨gb158, 0, none⟩ (.int .i64 ((rd_T31 x8_1 0).f0))).setCell ⟨gb158, 1, none⟩ (.int .i64 ((rd_T31 x8_1 0).f1))).setCell ⟨gb158, 2, none⟩ (.int .i64 ((rd_T31 x8_1 0).f2)))) ?hg ?ho ?hn ?hr ?_; (case ho => rfl); (case hg => rfl); (case hn => rfl); (case hr => first | (go_simp; done) | (go_simp; rfl)); intro w34 hw; have n0_ : Aside0 (Kd.R (Kd.int .i64) 3 w34 w.heap.size (fun _ => True) (.slice (some ⟨go8, 0, none⟩) x3_1.length co8) x3_1) := ⟨(by rw [hw]; exact (by (with_reducible repeat (first | apply Kd.R_alloc | apply Kd.R_drewN | apply Kd.R_drew)); exact Kd.R_mono (Kd.R_far (p := ⟨gb158, 2, none⟩) (Kd.R_far (p := ⟨gb158, 1, none⟩) (Kd.R_far (p := ⟨gb158, 0, none⟩) (Kd.R_types HO_3.out BK158.out (by decide)) (fun _ hk => hk.2) (.int .i64 ((rd_T31 x8_1 0).f0))) (fun _ hk => hk.2) (.int .i64 ((rd_T31 x8_1 0).f1))) (fun _ hk => hk.2) (.int .i64 ((rd_T31 x8_1 0).f2))) (fun _ hk => trivial)))⟩; have n1_ : Aside0 (Kd.Q k31 31 w34 w.heap.size (fun k_ => k_ ≠ gb150 ∧ k_ ≠ gb158) (.slice (some ad157) x8_1.length co29) x8_1) := ⟨(by rw [hw]; exact (by (with_reducible repeat (first | apply Kd.Q_alloc | apply Kd.Q_drewN | apply Kd.Q_drew)); exact Kd.Q_mono (Kd.Q_far (p := ⟨gb158, 2, none⟩) (Kd.Q_far (p := ⟨gb158, 1, none⟩) (Kd.Q_far (p := ⟨gb158, 0, none⟩) (Kd.Q_mono HO_8.out (fun k_ hk => (⟨hk, hk.2⟩ : _ ∧ k_ ≠ gb158))) (fun _ hk => hk.2) (.int .i64 ((rd_T31 x8_1 0).f0))) (fun _ hk => hk.2) (.int .i64 ((rd_T31 x8_1 0).f1))) (fun _ hk => hk.2) (.int .i64 ((rd_T31 x8_1 0).f2))) (fun _ hk => ⟨hk.1.1, hk.1.2⟩)))⟩; have n2_ : Aside0 (w34.heap[gb145]? = some (.cells #[.int .i64 a0_0, .int .i64 a0_1, .int .i64 a0_2, .int .i64 a0_3] 86 (0, 0))) := ⟨(by rw [hw]; exact (by (with_reducible repeat (first | refine blk_drewN ?_ _ | refine blk_drew ?_ | refine blk_alloc ?_ _)); refine blk_far ?_ NB145_158.out _; (with_reducible repeat (first | refine blk_drewN ?_ _ | refine blk_drew ?_ | refine blk_alloc ?_ _)); refine blk_far ?_ NB145_158.out _; (with_reducible repeat (first | refine blk_drewN ?_ _ | refine blk_drew ?_ | refine blk_alloc ?_ _)); refine blk_far ?_ NB145_158.out _; (with_reducible repeat (first | refine blk_drewN ?_ _ | refine blk_drew ?_ | refine blk_alloc ?_ _)); exact BK145.out))⟩; have n3_ : Aside0 (w34.heap[gb150]? = some (.cells #[.int .i64 a0_3, .int .i64 0, .int .i64 0] 31 (0, 0))) := ⟨(by rw [hw]; exact (by (with_reducible repeat (first | refine blk_drewN ?_ _ | refine blk_drew ?_ | refine blk_alloc ?_ _)); refine blk_far ?_ NB150_158.out _; (with_reducible repeat (first | refine blk_drewN ?_ _ | refine blk_drew ?_ | refine blk_alloc ?_ _)); refine blk_far ?_ NB150_158.out _; (with_reducible repeat (first | refine blk_drewN ?_ _ | refine blk_drew ?_ | refine blk_alloc ?_ _)); refine blk_far ?_ NB150_158.out _; (with_reducible repeat (first | refine blk_drewN ?_ _ | refine blk_drew ?_ | refine blk_alloc ?_ _)); exact BK150.out))⟩; have n4_ : Aside0 (w34.heap[gb158]? = some (.cells #[.int .i64 ((rd_T31 x8_1 0).f0), .int .i64 ((rd_T31 x8_1 0).f1), .int .i64 ((rd_T31 x8_1 0).f2)] 31 (0, 0))) := ⟨(by rw [hw]; exact (by (with_reducible repeat (first | refine blk_drewN ?_ _ | refine blk_drew ?_ | refine blk_alloc ?_ _)); refine blk_put (cs := #[.int .i64 ((rd_T31 x8_1 0).f0), .int .i64 ((rd_T31 x8_1 0).f1), .int .i64 0]) ?_ 2 _ rfl; (with_reducible repeat (first | refine blk_drewN ?_ _ | refine blk_drew ?_ | refine blk_alloc ?_ _)); refine blk_put (cs := #[.int .i64 ((rd_T31 x8_1 0).f0), .int .i64 0, .int .i64 0]) ?_ 1 _ rfl; (with_reducible repeat (first | refine blk_drewN ?_ _ | refine blk_drew ?_ | refine blk_alloc ?_ _)); refine blk_put (cs := #[.int .i64 0, .int .i64 0, .int .i64 0]) ?_ 0 _ rfl; (with_reducible repeat (first | refine blk_drewN ?_ _ | refine blk_drew ?_ | refine blk_alloc ?_ _)); exact BK158.out))⟩; have n5_ : Aside0 (Below w.heap.size w w34) := ⟨(by rw [hw]; exact (by repeat (first | (with_reducible first | exact HB.out | apply below_alloc | apply pw_below_drewN | apply below_drew1 | refine below_set ?_ GE145.out | refine below_set ?_ GE150.out | refine below_set ?_ GE158.out) | exact HB.out)))⟩; clear hw; clear HO_3; clear HO_8; clear BK145; clear BK150; clear BK158; clear HB; have HO_3 := n0_; have HO_8 := n1_; have BK145 := n2_; have BK150 := n3_; have BK158 := n4_; have HB := n5_; clear n0_ n1_ n2_ n3_ n4_ n5_; have q35 : (1 : Int) ≤ ((x8_1.length : Int) : Int) := of_decide_eq_true (by first | (with_reducible assumption) | assumption); obtain ⟨i035, hi035, _, hsz35, _⟩ := info_parts info31; have hcut35 := cut_from (P := Try.prog) 33 31 .i64 Try.underlying33 hi035 3 hsz35 (some ad157) x8_1.length co29 1 (by omega) q35; have hr35 := Kd.Q_drop (k := (1 : Int).toNat) HO_8.out (by omega); obtain ⟨A35, hA35⟩ : ∃ A1, A1 = (if co29 = (1 : Int).toNat then (some ad157) else ((some ad157) : Option Addr).map (·.add ((1 : Int).toNat * 3))) := ⟨_, rfl⟩; obtain ⟨c35, hc35⟩ : ∃ c1, c1 = co29 - (1 : Int).toNat := ⟨_, rfl⟩; have hy35 : y159.length = x8_1.length - (1 : Int).toNat := (by rw [Ny159.out, List.length_drop]); rw [← Ny159.out] at hr35; rw [← hy35, ← hA35, ← hc35] at hcut35; replace hr35 : Kd.Q k31 31 w34 w.heap.size (fun k_ => k_ ≠ gb150 ∧ k_ ≠ gb158) (.slice A35 y159.length c35) y159 := (by rw [hA35, hc35, hy35]; exact hr35); have HE35 : Aside0 ((Value.slice A35 y159.length c35).ownBlock = (.slice (some ad157) x8_1.length co29 : Value).ownBlock) := ⟨by rw [hA35]; split <;> (cases ((some ad157) : Option Addr) <;> rfl)⟩; clear hy35 hi035 hsz35 HO_8 hA35 hc35; have HO161 := Aside0.mk hr35; clear hr35; replace q35 := eq_true q35; have hnb36 := NB145_150.out; have hnc36 := NB150_145.out; have hcz37_0 : w34.cell? ⟨gb145, 0, none⟩ = some (.int .i64 a0_0) := (blk_cell BK145.out 0).trans rfl; have hcz37_1 : w34.cell? ⟨gb145, 1, none⟩ = some (.int .i64 a0_1) := (blk_cell BK145.out 1).trans rfl; have hcz37_2 : w34.cell? ⟨gb145, 2, none⟩ = some (.int .i64 a0_2) := (blk_cell BK145.out 2).trans rfl; have hcz37_3 : w34.cell? ⟨gb145, 3, none⟩ = some (.int .i64 a0_3) := (blk_cell BK145.out 3).trans rfl; have hfz37_0 := blk_frozen BK145.out 0; have hfz37_1 := blk_frozen BK145.out 1; have hfz37_2 := blk_frozen BK145.out 2; have hfz37_3 := blk_frozen BK145.out 3; have hcz38_0 : w34.cell? ⟨gb158, 0, none⟩ = some (.int .i64 ((rd_T31 x8_1 0).f0)) := (blk_cell BK158.out 0).trans rfl; have hcz38_1 : w34.cell? ⟨gb158, 1, none⟩ = some (.int .i64 ((rd_T31 x8_1 0).f1)) := (blk_cell BK158.out 1).trans rfl; have hcz38_2 : w34.cell? ⟨gb158, 2, none⟩ = some (.int .i64 ((rd_T31 x8_1 0).f2)) := (blk_cell BK158.out 2).trans rfl; have hfz38_0 := blk_frozen BK158.out 0; have hfz38_1 := blk_frozen BK158.out 1; have hfz38_2 := blk_frozen BK158.out 2) | (go_at_call 37; (with_reducible refine (mintime_space_of.calls a0_0 a0_1 a0_2 a0_3 ((rd_T31 x8_1 0).f0) ((rd_T31 x8_1 0).f1) ((rd_T31 x8_1 0).f2) t162 t163 _ A28.out).mono ?_); rintro e w39 ⟨rfl, hb⟩; have n0_ := Aside0.mk (Kd.R_below (by (with_reducible repeat (first | apply Kd.R_alloc | apply Kd.R_drewN | apply Kd.R_drew)); exact HO_3.out) hb); have n1_ := Aside0.mk (Kd.Q_below (by (with_reducible repeat (first | apply Kd.Q_alloc | apply Kd.Q_drewN | apply Kd.Q_drew)); exact HO161.out) hb); have n2_ := Aside0.mk (blk_below (g := gb145) (o := .cells #[.int .i64 a0_0, .int .i64 a0_1, .int .i64 a0_2, .int .i64 a0_3] 86 (0, 0)) (by (with_reducible repeat (first | refine blk_drewN ?_ _ | refine blk_drew ?_ | refine blk_alloc ?_ _)); exact BK145.out) hb); have n3_ := Aside0.mk (blk_below (g := gb150) (o := .cells #[.int .i64 a0_3, .int .i64 0, .int .i64 0] 31 (0, 0)) (by (with_reducible repeat (first | refine blk_drewN ?_ _ | refine blk_drew ?_ | refine blk_alloc ?_ _)); exact BK150.out) hb); have n4_ := Aside0.mk (blk_below (g := gb158) (o := .cells #[.int .i64 ((rd_T31 x8_1 0).f0), .int .i64 ((rd_T31 x8_1 0).f1), .int .i64 ((rd_T31 x8_1 0).f2)] 31 (0, 0)) (by (with_reducible repeat (first | refine blk_drewN ?_ _ | refine blk_drew ?_ | refine blk_alloc ?_ _)); exact BK158.out) hb); have n5_ := Aside0.mk (below_step (by repeat (first | (with_reducible first | exact HB.out | apply below_alloc | apply pw_below_drewN | apply below_drew1 | refine below_set ?_ GE145.out | refine below_set ?_ GE150.out | refine below_set ?_ GE158.out) | exact HB.out)) hb); clear HO_3; clear HO161; clear BK145; clear BK150; clear BK158; clear HB; have HO_3 := n0_; have HO161 := n1_; have BK145 := n2_; have BK150 := n3_; have BK158 := n4_; have HB := n5_; clear n0_ n1_ n2_ n3_ n4_ n5_; (try clear hb); (try clear hb2); (try clear hk); (try clear hi); have hcz40_0 : w39.cell? ⟨gb145, 0, none⟩ = some (.int .i64 a0_0) := (blk_cell BK145.out 0).trans rfl; have hcz40_1 : w39.cell? ⟨gb145, 1, none⟩ = some (.int .i64 a0_1) := (blk_cell BK145.out 1).trans rfl; have hcz40_2 : w39.cell? ⟨gb145, 2, none⟩ = some (.int .i64 a0_2) := (blk_cell BK145.out 2).trans rfl; have hcz40_3 : w39.cell? ⟨gb145, 3, none⟩ = some (.int .i64 a0_3) := (blk_cell BK145.out 3).trans rfl; have hfz40_0 := blk_frozen BK145.out 0; have hfz40_1 := blk_frozen BK145.out 1; have hfz40_2 := blk_frozen BK145.out 2; have hfz40_3 := blk_frozen BK145.out 3))
          go_loopg [8, 12] k1 (fun kq v8 v12 w' => ∃ (x3_2 : List Int) (x8_2 : List (S31)) (x12_2 : Int), v12 = .int .i64 x12_2 ∧ Aside0 (mintime_space_left.l1 kq x3_2 x8_2 t162 x12_2 a0_0 a0_1 a0_2 a0_3 ((rd_T31 x8_1 0).f0) ((rd_T31 x8_1 0).f1) ((rd_T31 x8_1 0).f2) = some r) ∧ Aside0 (kq ≤ k1) ∧ Aside0 (Kd.R (Kd.int .i64) 3 w' w.heap.size (fun _ => True) (.slice (some ⟨go8, 0, none⟩) x3_1.length co8) x3_2) ∧ Aside0 (Kd.Q k31 31 w' w.heap.size (fun k_ => k_ ≠ gb150 ∧ k_ ≠ gb158) v8 x8_2) ∧ Aside0 (w'.heap[gb145]? = some (.cells #[.int .i64 a0_0, .int .i64 a0_1, .int .i64 a0_2, .int .i64 a0_3] 86 (0, 0))) ∧ Aside0 (w'.heap[gb150]? = some (.cells #[.int .i64 a0_3, .int .i64 0, .int .i64 0] 31 (0, 0))) ∧ Aside0 (w'.heap[gb158]? = some (.cells #[.int .i64 ((rd_T31 x8_1 0).f0), .int .i64 ((rd_T31 x8_1 0).f1), .int .i64 ((rd_T31 x8_1 0).f2)] 31 (0, 0))) ∧ Aside0 (Below w.heap.size w w'))
          case atStart => exact ⟨(x3_1), (y159), (wrap64 (-a0_2)), (by first | rfl | (simp; done) | (simp [*]; done)), H', ⟨Nat.le_refl _⟩, ⟨by (try simp only [hl3_1]); (with_reducible repeat (first | apply Kd.R_alloc | apply Kd.R_drewN | apply Kd.R_drew)); exact HO_3.out⟩, ⟨by (try simp only [hl3_1]); (with_reducible repeat (first | apply Kd.Q_alloc | apply Kd.Q_drewN | apply Kd.Q_drew)); exact HO161.out⟩, ⟨by (try simp only [hl3_1]); (with_reducible repeat (first | refine blk_drewN ?_ _ | refine blk_drew ?_ | refine blk_alloc ?_ _)); exact BK145.out⟩, ⟨by (try simp only [hl3_1]); (with_reducible repeat (first | refine blk_drewN ?_ _ | refine blk_drew ?_ | refine blk_alloc ?_ _)); exact BK150.out⟩, ⟨by (try simp only [hl3_1]); (with_reducible repeat (first | refine blk_drewN ?_ _ | refine blk_drew ?_ | refine blk_alloc ?_ _)); exact BK158.out⟩, ⟨by repeat (first | (with_reducible first | exact HB.out | apply below_alloc | apply pw_below_drewN | apply below_drew1 | refine below_set ?_ GE145.out | refine below_set ?_ GE150.out | refine below_set ?_ GE158.out) | exact HB.out)⟩⟩
          case round =>
           clear H'
           try clear c1
           try clear p1
           try clear q1
           try clear hx1
           try clear qi1
           try clear c2
           try clear p2
           try clear c3
           try clear c3b0
           try clear c3b1
           try clear q3
           try clear c4
           try clear c4b0
           try clear c4b1
           try clear c5
           try clear c6
           try clear c6b0
           try clear p6
           try clear c7
           try clear c7b0
           try clear p8
           try clear q8
           try clear hx8
           try clear hf8
           try clear p15
           try clear q15
           try clear hx15
           try clear qi15
           try clear c16
           try clear c25
           try clear c25b0
           try clear c25b1
           try clear c26
           try clear c26b0
           try clear c26b1
           try clear c27
           try clear c27b0
           try clear c27b1
           try clear c31
           try clear c32
           try clear c35
           try clear q35
           try clear c36
           try clear c37
           try clear hcz10_0
           try clear hcz10_1
           try clear hcz10_2
           try clear hcz10_3
           try clear hcz14_0
           try clear hcz14_1
           try clear hcz14_2
           try clear hcz14_3
           try clear hcz17_0
           try clear hcz17_1
           try clear hcz17_2
           try clear hcz18_0
           try clear hcz18_1
           try clear hcz18_2
           try clear hcz18_3
           try clear hcz22_0
           try clear hcz22_1
           try clear hcz22_2
           try clear hcz33_0
           try clear hcz33_1
           try clear hcz33_2
           try clear hcz37_0
           try clear hcz37_1
           try clear hcz37_2
           try clear hcz37_3
           try clear hcz38_0
           try clear hcz38_1
           try clear hcz38_2
           try clear hcz40_0
           try clear hcz40_1
           try clear hcz40_2
           try clear hcz40_3
           try clear hfz10_0
           try clear hfz10_1
           try clear hfz10_2
           try clear hfz10_3
           try clear hfz14_0
           try clear hfz14_1
           try clear hfz14_2
           try clear hfz14_3
           try clear hfz17_0
           try clear hfz17_1
           try clear hfz17_2
           try clear hfz18_0
           try clear hfz18_1
           try clear hfz18_2
           try clear hfz18_3
           try clear hfz22_0
           try clear hfz22_1
           try clear hfz22_2
           try clear hfz33_0
           try clear hfz33_1
           try clear hfz33_2
           try clear hfz37_0
           try clear hfz37_1
           try clear hfz37_2
           try clear hfz37_3
           try clear hfz38_0
           try clear hfz38_1
           try clear hfz38_2
           try clear hfz40_0
           try clear hfz40_1
           try clear hfz40_2
           try clear hfz40_3
           try clear hx157_0
           try clear hx157_1
           try clear hx157_2
           try clear hx8_0
           try clear p157
           try clear p2
           try clear p8
           try clear q157
           try clear q35
           try clear q8
           obtain ⟨x3_2, x8_2, x12_2, rfl, HA, HK2, HO_3, HO_8, BK145, BK150, BK158, HB⟩ := hrel
           have hl3_2 := (Kd.R_reads' HO_3.out).1
           rw [hl3_2] at HO_3
           (try simp only [hl3_2])
           (try simp only [hl3_2] at BK145)
           (try simp only [hl3_2] at BK150)
           (try simp only [hl3_2] at BK158)
           (try simp only [hl3_2] at HO_8)
           cases gk with
           | zero => exact absurd HA.out (by simp [mintime_space_left.l1])
           | succ k2 =>
            have H := HA.out
            clear HA
            simp only [mintime_space_left.l1] at H
            by_cases c41 : x12_2 ≤ a0_2
            ·
             rw [if_pos c41] at H
             have c41b0 : decide (x12_2 ≤ a0_2) = true := decide_eq_true c41
             clear c41
             replace H := Option.bind_eq_some_iff.mp H
             obtain ⟨⟨t164, t165, t166⟩, A420, H⟩ := H
             replace H : ((mintime_space_of.f a0_0 a0_1 a0_2 a0_3 t164 t165 t166).bind fun bt168 => (if bt168.2 = true then (if 0 ≤ bt168.1 then (if bt168.1 < (x3_2.length : Int) then (mintime_space_left.j2 k2 x3_2 x8_2 t162 x12_2 bt168.1 (decide ((rd x3_2 bt168.1) > 0)) a0_0 a0_1 a0_2 a0_3 ((rd_T31 x8_1 0).f0) ((rd_T31 x8_1 0).f1) ((rd_T31 x8_1 0).f2) t164 t165 t166) else (none)) else (none)) else (mintime_space_left.j2 k2 x3_2 x8_2 t162 x12_2 bt168.1 true a0_0 a0_1 a0_2 a0_3 ((rd_T31 x8_1 0).f0) ((rd_T31 x8_1 0).f1) ((rd_T31 x8_1 0).f2) t164 t165 t166))) = some r := H
             have A42 := Aside0.mk A420
             clear A420
             replace H := Option.bind_eq_some_iff.mp H
             obtain ⟨⟨t168, t169⟩, A430, H⟩ := H
             replace H : (if t169 = true then (if 0 ≤ t168 then (if t168 < (x3_2.length : Int) then (mintime_space_left.j2 k2 x3_2 x8_2 t162 x12_2 t168 (decide ((rd x3_2 t168) > 0)) a0_0 a0_1 a0_2 a0_3 ((rd_T31 x8_1 0).f0) ((rd_T31 x8_1 0).f1) ((rd_T31 x8_1 0).f2) t164 t165 t166) else (none)) else (none)) else (mintime_space_left.j2 k2 x3_2 x8_2 t162 x12_2 t168 true a0_0 a0_1 a0_2 a0_3 ((rd_T31 x8_1 0).f0) ((rd_T31 x8_1 0).f1) ((rd_T31 x8_1 0).f2) t164 t165 t166)) = some r := H
             have A43 := Aside0.mk A430
             clear A430
             have HC44 := Aside0.mk H
             clear H
             have hnb45 := NB145_150.out
             have hnc45 := NB150_145.out
             have hnb46 := NB145_158.out
             have hnc46 := NB158_145.out
             have hcz47_0 : wr.cell? ⟨gb145, 0, none⟩ = some (.int .i64 a0_0) := (blk_cell BK145.out 0).trans rfl
             have hcz47_1 : wr.cell? ⟨gb145, 1, none⟩ = some (.int .i64 a0_1) := (blk_cell BK145.out 1).trans rfl
             have hcz47_2 : wr.cell? ⟨gb145, 2, none⟩ = some (.int .i64 a0_2) := (blk_cell BK145.out 2).trans rfl
             have hcz47_3 : wr.cell? ⟨gb145, 3, none⟩ = some (.int .i64 a0_3) := (blk_cell BK145.out 3).trans rfl
             have hfz47_0 := blk_frozen BK145.out 0
             have hfz47_1 := blk_frozen BK145.out 1
             have hfz47_2 := blk_frozen BK145.out 2
             have hfz47_3 := blk_frozen BK145.out 3
             have hnb48 := NB158_150.out
             have hnc48 := NB150_158.out
             have hcz49_0 : wr.cell? ⟨gb158, 0, none⟩ = some (.int .i64 ((rd_T31 x8_1 0).f0)) := (blk_cell BK158.out 0).trans rfl
             have hcz49_1 : wr.cell? ⟨gb158, 1, none⟩ = some (.int .i64 ((rd_T31 x8_1 0).f1)) := (blk_cell BK158.out 1).trans rfl
             have hcz49_2 : wr.cell? ⟨gb158, 2, none⟩ = some (.int .i64 ((rd_T31 x8_1 0).f2)) := (blk_cell BK158.out 2).trans rfl
             have hfz49_0 := blk_frozen BK158.out 0
             have hfz49_1 := blk_frozen BK158.out 1
             have hfz49_2 := blk_frozen BK158.out 2
             go_upto_region 16 with (first | ((with_reducible refine gate_callee (f := 56) rfl ?_); refine goesL_ (some 62) rfl rfl Try.func56 (by kernel_rfl) rfl #[.agg #[.int .i64 ((rd_T31 x8_1 0).f0), .int .i64 ((rd_T31 x8_1 0).f1), .int .i64 ((rd_T31 x8_1 0).f2)], .int .i64 x12_2] rfl (by (try simp only [List.map_toArray, List.map_cons, List.map_nil]); first | done | rfl | (simp only [List.length_drop, List.length_take]; rfl)) ?_; (with_reducible refine (mintime_ahead.calls ((rd_T31 x8_1 0).f0) ((rd_T31 x8_1 0).f1) ((rd_T31 x8_1 0).f2) x12_2 t164 t165 t166 _ A42.out).mono ?_); rintro e w50 ⟨rfl, hb⟩; refine ⟨_, rfl, ?_⟩; have n0_ := Aside0.mk (Kd.R_below (by (with_reducible repeat (first | apply Kd.R_alloc | apply Kd.R_drewN | apply Kd.R_drew)); exact HO_3.out) hb); have n1_ := Aside0.mk (Kd.Q_below (by (with_reducible repeat (first | apply Kd.Q_alloc | apply Kd.Q_drewN | apply Kd.Q_drew)); exact HO_8.out) hb); have n2_ := Aside0.mk (blk_below (g := gb145) (o := .cells #[.int .i64 a0_0, .int .i64 a0_1, .int .i64 a0_2, .int .i64 a0_3] 86 (0, 0)) (by (with_reducible repeat (first | refine blk_drewN ?_ _ | refine blk_drew ?_ | refine blk_alloc ?_ _)); exact BK145.out) hb); have n3_ := Aside0.mk (blk_below (g := gb150) (o := .cells #[.int .i64 a0_3, .int .i64 0, .int .i64 0] 31 (0, 0)) (by (with_reducible repeat (first | refine blk_drewN ?_ _ | refine blk_drew ?_ | refine blk_alloc ?_ _)); exact BK150.out) hb); have n4_ := Aside0.mk (blk_below (g := gb158) (o := .cells #[.int .i64 ((rd_T31 x8_1 0).f0), .int .i64 ((rd_T31 x8_1 0).f1), .int .i64 ((rd_T31 x8_1 0).f2)] 31 (0, 0)) (by (with_reducible repeat (first | refine blk_drewN ?_ _ | refine blk_drew ?_ | refine blk_alloc ?_ _)); exact BK158.out) hb); have n5_ := Aside0.mk (below_step (by repeat (first | (with_reducible first | exact HB.out | apply below_alloc | apply pw_below_drewN | apply below_drew1 | refine below_set ?_ GE145.out | refine below_set ?_ GE150.out | refine below_set ?_ GE158.out) | exact HB.out)) hb); clear HO_3; clear HO_8; clear BK145; clear BK150; clear BK158; clear HB; have HO_3 := n0_; have HO_8 := n1_; have BK145 := n2_; have BK150 := n3_; have BK158 := n4_; have HB := n5_; clear n0_ n1_ n2_ n3_ n4_ n5_; (try clear hb); (try clear hb2); (try clear hk); (try clear hi)) | ((with_reducible refine gate_dst (N := 13) rfl ?_); refine box_event ?hg (N := 13) ?hd (cs := #[.int .i64 0, .int .i64 0, .int .i64 0]) (t := 31) ?hr ?_; (case hd => rfl); (case hg => rfl); (case hr => first | (go_simp; done) | (go_simp; rfl)); intro gb167 hg w51 hbox hb; have n0_ := Aside0.mk (Kd.R_below (by (with_reducible repeat (first | apply Kd.R_alloc | apply Kd.R_drewN | apply Kd.R_drew)); exact HO_3.out) hb); have n1_ := Aside0.mk (Kd.Q_below (Kd.Q_elderB (by (with_reducible repeat (first | apply Kd.Q_alloc | apply Kd.Q_drewN | apply Kd.Q_drew)); exact HO_8.out) gb167 (Nat.le_of_eq hg.symm)) hb); have n2_ := Aside0.mk (blk_below (g := gb145) (o := .cells #[.int .i64 a0_0, .int .i64 a0_1, .int .i64 a0_2, .int .i64 a0_3] 86 (0, 0)) (by (with_reducible repeat (first | refine blk_drewN ?_ _ | refine blk_drew ?_ | refine blk_alloc ?_ _)); exact BK145.out) hb); have n3_ := Aside0.mk (blk_below (g := gb150) (o := .cells #[.int .i64 a0_3, .int .i64 0, .int .i64 0] 31 (0, 0)) (by (with_reducible repeat (first | refine blk_drewN ?_ _ | refine blk_drew ?_ | refine blk_alloc ?_ _)); exact BK150.out) hb); have n4_ := Aside0.mk (blk_below (g := gb158) (o := .cells #[.int .i64 ((rd_T31 x8_1 0).f0), .int .i64 ((rd_T31 x8_1 0).f1), .int .i64 ((rd_T31 x8_1 0).f2)] 31 (0, 0)) (by (with_reducible repeat (first | refine blk_drewN ?_ _ | refine blk_drew ?_ | refine blk_alloc ?_ _)); exact BK158.out) hb); have n5_ := Aside0.mk (below_step (by repeat (first | (with_reducible first | exact HB.out | apply below_alloc | apply pw_below_drewN | apply below_drew1 | refine below_set ?_ GE145.out | refine below_set ?_ GE150.out | refine below_set ?_ GE158.out) | exact HB.out)) hb); have n6_ := Aside0.mk (hbox); have n7_ := Aside0.mk ((by rw [hg]; exact (below_size (by repeat (first | (with_reducible first | exact HB.out | apply below_alloc | apply pw_below_drewN | apply below_drew1 | refine below_set ?_ GE145.out | refine below_set ?_ GE150.out | refine below_set ?_ GE158.out) | exact HB.out))) : w.heap.size ≤ gb167)); have n8_ := Aside0.mk ((by rw [hg]; exact (below_size (by repeat (first | (with_reducible first | exact HB.out | apply below_alloc | apply pw_below_drewN | apply below_drew1 | refine below_set ?_ GE145.out | refine below_set ?_ GE150.out | refine below_set ?_ GE158.out) | exact HB.out))) : w.heap.size ≤ gb167)); have n9_ := Aside0.mk ((by rw [hg]; exact Nat.ne_of_lt (blk_lt (g := gb145) (o := .cells #[.int .i64 a0_0, .int .i64 a0_1, .int .i64 a0_2, .int .i64 a0_3] 86 (0, 0)) (by (with_reducible repeat (first | refine blk_drewN ?_ _ | refine blk_drew ?_ | refine blk_alloc ?_ _)); exact BK145.out)) : gb145 ≠ gb167)); have n10_ := Aside0.mk ((by rw [hg]; exact Nat.ne_of_gt (blk_lt (g := gb145) (o := .cells #[.int .i64 a0_0, .int .i64 a0_1, .int .i64 a0_2, .int .i64 a0_3] 86 (0, 0)) (by (with_reducible repeat (first | refine blk_drewN ?_ _ | refine blk_drew ?_ | refine blk_alloc ?_ _)); exact BK145.out)) : gb167 ≠ gb145)); have n11_ := Aside0.mk ((by rw [hg]; exact Nat.ne_of_lt (blk_lt (g := gb150) (o := .cells #[.int .i64 a0_3, .int .i64 0, .int .i64 0] 31 (0, 0)) (by (with_reducible repeat (first | refine blk_drewN ?_ _ | refine blk_drew ?_ | refine blk_alloc ?_ _)); exact BK150.out)) : gb150 ≠ gb167)); have n12_ := Aside0.mk ((by rw [hg]; exact Nat.ne_of_gt (blk_lt (g := gb150) (o := .cells #[.int .i64 a0_3, .int .i64 0, .int .i64 0] 31 (0, 0)) (by (with_reducible repeat (first | refine blk_drewN ?_ _ | refine blk_drew ?_ | refine blk_alloc ?_ _)); exact BK150.out)) : gb167 ≠ gb150)); have n13_ := Aside0.mk ((by rw [hg]; exact Nat.ne_of_lt (blk_lt (g := gb158) (o := .cells #[.int .i64 ((rd_T31 x8_1 0).f0), .int .i64 ((rd_T31 x8_1 0).f1), .int .i64 ((rd_T31 x8_1 0).f2)] 31 (0, 0)) (by (with_reducible repeat (first | refine blk_drewN ?_ _ | refine blk_drew ?_ | refine blk_alloc ?_ _)); exact BK158.out)) : gb158 ≠ gb167)); have n14_ := Aside0.mk ((by rw [hg]; exact Nat.ne_of_gt (blk_lt (g := gb158) (o := .cells #[.int .i64 ((rd_T31 x8_1 0).f0), .int .i64 ((rd_T31 x8_1 0).f1), .int .i64 ((rd_T31 x8_1 0).f2)] 31 (0, 0)) (by (with_reducible repeat (first | refine blk_drewN ?_ _ | refine blk_drew ?_ | refine blk_alloc ?_ _)); exact BK158.out)) : gb167 ≠ gb158)); clear HO_3; clear HO_8; clear BK145; clear BK150; clear BK158; clear HB; have HO_3 := n0_; have HO_8 := n1_; have BK145 := n2_; have BK150 := n3_; have BK158 := n4_; have HB := n5_; have BK167 := n6_; have GW167 := n7_; have GE167 := n8_; have NB145_167 := n9_; have NB167_145 := n10_; have NB150_167 := n11_; have NB167_150 := n12_; have NB158_167 := n13_; have NB167_158 := n14_; clear n0_ n1_ n2_ n3_ n4_ n5_ n6_ n7_ n8_ n9_ n10_ n11_ n12_ n13_ n14_; clear hb hbox hg; have hnb52 := NB167_145.out; have hnc52 := NB145_167.out; have hnb53 := NB167_150.out; have hnc53 := NB150_167.out; have hnb54 := NB167_158.out; have hnc54 := NB158_167.out; have hcz55_0 : w51.cell? ⟨gb167, 0, none⟩ = some (.int .i64 0) := (blk_cell BK167.out 0).trans rfl; have hcz55_1 : w51.cell? ⟨gb167, 1, none⟩ = some (.int .i64 0) := (blk_cell BK167.out 1).trans rfl; have hcz55_2 : w51.cell? ⟨gb167, 2, none⟩ = some (.int .i64 0) := (blk_cell BK167.out 2).trans rfl; have hfz55_0 := blk_frozen BK167.out 0; have hfz55_1 := blk_frozen BK167.out 1; have hfz55_2 := blk_frozen BK167.out 2; have hcz56_0 : w51.cell? ⟨gb145, 0, none⟩ = some (.int .i64 a0_0) := (blk_cell BK145.out 0).trans rfl; have hcz56_1 : w51.cell? ⟨gb145, 1, none⟩ = some (.int .i64 a0_1) := (blk_cell BK145.out 1).trans rfl; have hcz56_2 : w51.cell? ⟨gb145, 2, none⟩ = some (.int .i64 a0_2) := (blk_cell BK145.out 2).trans rfl; have hcz56_3 : w51.cell? ⟨gb145, 3, none⟩ = some (.int .i64 a0_3) := (blk_cell BK145.out 3).trans rfl; have hfz56_0 := blk_frozen BK145.out 0; have hfz56_1 := blk_frozen BK145.out 1; have hfz56_2 := blk_frozen BK145.out 2; have hfz56_3 := blk_frozen BK145.out 3) | (go_at_call 37; (with_reducible refine (mintime_space_of.calls a0_0 a0_1 a0_2 a0_3 t164 t165 t166 t168 t169 _ A43.out).mono ?_); rintro e w57 ⟨rfl, hb⟩; have n0_ := Aside0.mk (Kd.R_below (by (with_reducible repeat (first | apply Kd.R_alloc | apply Kd.R_drewN | apply Kd.R_drew)); exact (Kd.R_mono (Kd.R_far (p := ⟨gb167, 2, none⟩) (Kd.R_far (p := ⟨gb167, 1, none⟩) (Kd.R_far (p := ⟨gb167, 0, none⟩) (Kd.R_types HO_3.out BK167.out (by decide)) (fun _ hk => hk.2) (.int .i64 t164)) (fun _ hk => hk.2) (.int .i64 t165)) (fun _ hk => hk.2) (.int .i64 t166)) (fun _ h_ => h_.1))) hb); have n1_ := Aside0.mk (Kd.Q_below (by (with_reducible repeat (first | apply Kd.Q_alloc | apply Kd.Q_drewN | apply Kd.Q_drew)); exact (Kd.Q_mono (Kd.Q_far (p := ⟨gb167, 2, none⟩) (Kd.Q_far (p := ⟨gb167, 1, none⟩) (Kd.Q_far (p := ⟨gb167, 0, none⟩) (Kd.Q_mono HO_8.out (fun k_ hk => (⟨hk, hk.2⟩ : _ ∧ k_ ≠ gb167))) (fun _ hk => hk.2) (.int .i64 t164)) (fun _ hk => hk.2) (.int .i64 t165)) (fun _ hk => hk.2) (.int .i64 t166)) (fun _ h_ => h_.1))) hb); have n2_ := Aside0.mk (blk_below (g := gb145) (o := .cells #[.int .i64 a0_0, .int .i64 a0_1, .int .i64 a0_2, .int .i64 a0_3] 86 (0, 0)) (by (with_reducible repeat (first | refine blk_drewN ?_ _ | refine blk_drew ?_ | refine blk_alloc ?_ _)); refine blk_far ?_ NB145_167.out _; (with_reducible repeat (first | refine blk_drewN ?_ _ | refine blk_drew ?_ | refine blk_alloc ?_ _)); refine blk_far ?_ NB145_167.out _; (with_reducible repeat (first | refine blk_drewN ?_ _ | refine blk_drew ?_ | refine blk_alloc ?_ _)); refine blk_far ?_ NB145_167.out _; (with_reducible repeat (first | refine blk_drewN ?_ _ | refine blk_drew ?_ | refine blk_alloc ?_ _)); exact BK145.out) hb); have n3_ := Aside0.mk (blk_below (g := gb150) (o := .cells #[.int .i64 a0_3, .int .i64 0, .int .i64 0] 31 (0, 0)) (by (with_reducible repeat (first | refine blk_drewN ?_ _ | refine blk_drew ?_ | refine blk_alloc ?_ _)); refine blk_far ?_ NB150_167.out _; (with_reducible repeat (first | refine blk_drewN ?_ _ | refine blk_drew ?_ | refine blk_alloc ?_ _)); refine blk_far ?_ NB150_167.out _; (with_reducible repeat (first | refine blk_drewN ?_ _ | refine blk_drew ?_ | refine blk_alloc ?_ _)); refine blk_far ?_ NB150_167.out _; (with_reducible repeat (first | refine blk_drewN ?_ _ | refine blk_drew ?_ | refine blk_alloc ?_ _)); exact BK150.out) hb); have n4_ := Aside0.mk (blk_below (g := gb158) (o := .cells #[.int .i64 ((rd_T31 x8_1 0).f0), .int .i64 ((rd_T31 x8_1 0).f1), .int .i64 ((rd_T31 x8_1 0).f2)] 31 (0, 0)) (by (with_reducible repeat (first | refine blk_drewN ?_ _ | refine blk_drew ?_ | refine blk_alloc ?_ _)); refine blk_far ?_ NB158_167.out _; (with_reducible repeat (first | refine blk_drewN ?_ _ | refine blk_drew ?_ | refine blk_alloc ?_ _)); refine blk_far ?_ NB158_167.out _; (with_reducible repeat (first | refine blk_drewN ?_ _ | refine blk_drew ?_ | refine blk_alloc ?_ _)); refine blk_far ?_ NB158_167.out _; (with_reducible repeat (first | refine blk_drewN ?_ _ | refine blk_drew ?_ | refine blk_alloc ?_ _)); exact BK158.out) hb); have n5_ := Aside0.mk (blk_below (g := gb167) (o := .cells #[.int .i64 t164, .int .i64 t165, .int .i64 t166] 31 (0, 0)) (by (with_reducible repeat (first | refine blk_drewN ?_ _ | refine blk_drew ?_ | refine blk_alloc ?_ _)); refine blk_put (cs := #[.int .i64 t164, .int .i64 t165, .int .i64 0]) ?_ 2 _ rfl; (with_reducible repeat (first | refine blk_drewN ?_ _ | refine blk_drew ?_ | refine blk_alloc ?_ _)); refine blk_put (cs := #[.int .i64 t164, .int .i64 0, .int .i64 0]) ?_ 1 _ rfl; (with_reducible repeat (first | refine blk_drewN ?_ _ | refine blk_drew ?_ | refine blk_alloc ?_ _)); refine blk_put (cs := #[.int .i64 0, .int .i64 0, .int .i64 0]) ?_ 0 _ rfl; (with_reducible repeat (first | refine blk_drewN ?_ _ | refine blk_drew ?_ | refine blk_alloc ?_ _)); exact BK167.out) hb); have n6_ := Aside0.mk (below_step (by repeat (first | (with_reducible first | exact HB.out | apply below_alloc | apply pw_below_drewN | apply below_drew1 | refine below_set ?_ GE145.out | refine below_set ?_ GE150.out | refine below_set ?_ GE158.out | refine below_set ?_ GE167.out) | exact HB.out)) hb); clear HO_3; clear HO_8; clear BK145; clear BK150; clear BK158; clear BK167; clear HB; have HO_3 := n0_; have HO_8 := n1_; have BK145 := n2_; have BK150 := n3_; have BK158 := n4_; have BK167 := n5_; have HB := n6_; clear n0_ n1_ n2_ n3_ n4_ n5_ n6_; (try clear hb); (try clear hb2); (try clear hk); (try clear hi)))
             (try simp only [Act.put, List.setIfInBounds_toArray, List.set_cons_zero, List.set_cons_succ])
             go_cut [77] (fun v77 wc => ∃ (kq : Nat) (x77_43 : Bool), v77 = .bool x77_43 ∧ Aside0 (mintime_space_left.j2 kq x3_2 x8_2 t162 x12_2 t168 x77_43 a0_0 a0_1 a0_2 a0_3 ((rd_T31 x8_1 0).f0) ((rd_T31 x8_1 0).f1) ((rd_T31 x8_1 0).f2) t164 t165 t166 = some r) ∧ Aside0 (kq ≤ k2) ∧ Aside0 (Kd.R (Kd.int .i64) 3 wc w.heap.size (fun _ => True) (.slice (some ⟨go8, 0, none⟩) x3_2.length co8) x3_2) ∧ Aside0 (Kd.Q k31 31 wc w.heap.size (fun k_ => k_ ≠ gb150 ∧ k_ ≠ gb158 ∧ k_ ≠ gb167) u8 x8_2) ∧ Aside0 (wc.heap[gb145]? = some (.cells #[.int .i64 a0_0, .int .i64 a0_1, .int .i64 a0_2, .int .i64 a0_3] 86 (0, 0))) ∧ Aside0 (wc.heap[gb150]? = some (.cells #[.int .i64 a0_3, .int .i64 0, .int .i64 0] 31 (0, 0))) ∧ Aside0 (wc.heap[gb158]? = some (.cells #[.int .i64 ((rd_T31 x8_1 0).f0), .int .i64 ((rd_T31 x8_1 0).f1), .int .i64 ((rd_T31 x8_1 0).f2)] 31 (0, 0))) ∧ Aside0 (wc.heap[gb167]? = some (.cells #[.int .i64 t164, .int .i64 t165, .int .i64 t166] 31 (0, 0))) ∧ Aside0 (Below w.heap.size w wc))
             case first =>
              have H := HC44.out
              clear HC44
              by_cases c58 : t169 = true
              ·
               subst c58
               have H1 : (if 0 ≤ t168 then (if t168 < (x3_2.length : Int) then (mintime_space_left.j2 k2 x3_2 x8_2 t162 x12_2 t168 (decide ((rd x3_2 t168) > 0)) a0_0 a0_1 a0_2 a0_3 ((rd_T31 x8_1 0).f0) ((rd_T31 x8_1 0).f1) ((rd_T31 x8_1 0).f2) t164 t165 t166) else (none)) else (none)) = some r := by rw [if_pos rfl] at H; exact H
               clear H
               have H := H1
               clear H1
               by_cases c59 : 0 ≤ t168
               ·
                rw [if_pos c59] at H
                have c59b0 : decide (0 ≤ t168) = true := decide_eq_true c59
                clear c59
                (first | rw [c59b0] | (simp only [i64_w, i32_w]; rw [c59b0]) | skip)
                by_cases c60 : t168 < (x3_2.length : Int)
                ·
                 rw [if_pos c60] at H
                 have c60b0 : decide (t168 < (x3_2.length : Int)) = true := decide_eq_true c60
                 clear c60
                 have H' := Aside0.mk H
                 clear H
                 have p170 : 0 ≤ (t168 : Int) := of_decide_eq_true (by first | (with_reducible assumption) | assumption)
                 have q170 : t168 < (x3_2.length : Int) := of_decide_eq_true (by first | (with_reducible assumption) | assumption)
                 obtain ⟨ad170, e170, hx170_0⟩ := Kd.at_int (Kd.R_reads' HO_3.out).2.2 t168 p170 q170
                 obtain rfl : (⟨go8, 0, none⟩ : Addr) = ad170 := (by injection e170)
                 (first | simp only [add_plain] at hx170_0 | simp only [add_at] at hx170_0 | simp only [Addr.add, Nat.zero_add] at hx170_0 | skip)
                 replace p170 := eq_true p170
                 replace q170 := eq_true q170
                 go_wp2
                 go_meet
                 case rel => exact ⟨_, (decide ((rd x3_2 t168) > 0)), (by first | rfl | (simp; done) | (simp [*]; done)), H', ⟨by have := HK1.out; have := HK2.out; first | omega | exact Nat.le_refl _⟩, ⟨by (try simp only [hl3_1]); (try simp only [hl3_2]); (with_reducible repeat (first | apply Kd.R_alloc | apply Kd.R_drewN | apply Kd.R_drew)); exact HO_3.out⟩, ⟨by (try simp only [hl3_1]); (try simp only [hl3_2]); (with_reducible repeat (first | apply Kd.Q_alloc | apply Kd.Q_drewN | apply Kd.Q_drew)); exact Kd.Q_mono HO_8.out (fun _ hk => ⟨hk.1.1, ⟨hk.1.2, hk.2⟩⟩)⟩, ⟨by (try simp only [hl3_1]); (try simp only [hl3_2]); (with_reducible repeat (first | refine blk_drewN ?_ _ | refine blk_drew ?_ | refine blk_alloc ?_ _)); exact BK145.out⟩, ⟨by (try simp only [hl3_1]); (try simp only [hl3_2]); (with_reducible repeat (first | refine blk_drewN ?_ _ | refine blk_drew ?_ | refine blk_alloc ?_ _)); exact BK150.out⟩, ⟨by (try simp only [hl3_1]); (try simp only [hl3_2]); (with_reducible repeat (first | refine blk_drewN ?_ _ | refine blk_drew ?_ | refine blk_alloc ?_ _)); exact BK158.out⟩, ⟨by (try simp only [hl3_1]); (try simp only [hl3_2]); (with_reducible repeat (first | refine blk_drewN ?_ _ | refine blk_drew ?_ | refine blk_alloc ?_ _)); exact BK167.out⟩, ⟨by repeat (first | (with_reducible first | exact HB.out | apply below_alloc | apply pw_below_drewN | apply below_drew1 | refine below_set ?_ GE145.out | refine below_set ?_ GE150.out | refine below_set ?_ GE158.out | refine below_set ?_ GE167.out) | exact HB.out)⟩⟩
                ·
                 rw [if_neg c60] at H
                 exact absurd H (by simp)
               ·
                rw [if_neg c59] at H
                exact absurd H (by simp)
              ·
               replace c58 := Bool.eq_false_iff.mpr c58
               subst c58
               have H1 : (mintime_space_left.j2 k2 x3_2 x8_2 t162 x12_2 t168 true a0_0 a0_1 a0_2 a0_3 ((rd_T31 x8_1 0).f0) ((rd_T31 x8_1 0).f1) ((rd_T31 x8_1 0).f2) t164 t165 t166) = some r := by rw [if_neg (show ¬ (false = true) by decide)] at H; exact H
               clear H
               have H := H1
               clear H1
               have H' := Aside0.mk H
               clear H
               go_wp2
               go_meet
               case rel => exact ⟨_, (true), (by first | rfl | (simp; done) | (simp [*]; done)), H', ⟨by have := HK1.out; have := HK2.out; first | omega | exact Nat.le_refl _⟩, ⟨by (try simp only [hl3_1]); (try simp only [hl3_2]); (with_reducible repeat (first | apply Kd.R_alloc | apply Kd.R_drewN | apply Kd.R_drew)); exact HO_3.out⟩, ⟨by (try simp only [hl3_1]); (try simp only [hl3_2]); (with_reducible repeat (first | apply Kd.Q_alloc | apply Kd.Q_drewN | apply Kd.Q_drew)); exact Kd.Q_mono HO_8.out (fun _ hk => ⟨hk.1.1, ⟨hk.1.2, hk.2⟩⟩)⟩, ⟨by (try simp only [hl3_1]); (try simp only [hl3_2]); (with_reducible repeat (first | refine blk_drewN ?_ _ | refine blk_drew ?_ | refine blk_alloc ?_ _)); exact BK145.out⟩, ⟨by (try simp only [hl3_1]); (try simp only [hl3_2]); (with_reducible repeat (first | refine blk_drewN ?_ _ | refine blk_drew ?_ | refine blk_alloc ?_ _)); exact BK150.out⟩, ⟨by (try simp only [hl3_1]); (try simp only [hl3_2]); (with_reducible repeat (first | refine blk_drewN ?_ _ | refine blk_drew ?_ | refine blk_alloc ?_ _)); exact BK158.out⟩, ⟨by (try simp only [hl3_1]); (try simp only [hl3_2]); (with_reducible repeat (first | refine blk_drewN ?_ _ | refine blk_drew ?_ | refine blk_alloc ?_ _)); exact BK167.out⟩, ⟨by repeat (first | (with_reducible first | exact HB.out | apply below_alloc | apply pw_below_drewN | apply below_drew1 | refine below_set ?_ GE145.out | refine below_set ?_ GE150.out | refine below_set ?_ GE158.out | refine below_set ?_ GE167.out) | exact HB.out)⟩⟩
             case rest =>
              clear HC44
              try clear c1
              try clear p1
              try clear q1
              try clear hx1
              try clear qi1
              try clear c2
              try clear p2
              try clear c3
              try clear c3b0
              try clear c3b1
              try clear q3
              try clear c4
              try clear c4b0
              try clear c4b1
              try clear c5
              try clear c6
              try clear c6b0
              try clear p6
              try clear c7
              try clear c7b0
              try clear p8
              try clear q8
              try clear hx8
              try clear hf8
              try clear p15
              try clear q15
              try clear hx15
              try clear qi15
              try clear c16
              try clear p17
              try clear q17
              try clear hx17
              try clear c25
              try clear c25b0
              try clear c25b1
              try clear c26
              try clear c26b0
              try clear c26b1
              try clear c27
              try clear c27b0
              try clear c27b1
              try clear c31
              try clear c32
              try clear c35
              try clear q35
              try clear c36
              try clear c37
              try clear c41
              try clear c41b0
              try clear c45
              try clear c46
              try clear c48
              try clear c52
              try clear c53
              try clear c54
              try clear c55
              try clear c56
              try clear c58
              try clear c59
              try clear c59b0
              try clear c60
              try clear c60b0
              try clear hcz10_0
              try clear hcz10_1
              try clear hcz10_2
              try clear hcz10_3
              try clear hcz14_0
              try clear hcz14_1
              try clear hcz14_2
              try clear hcz14_3
              try clear hcz17_0
              try clear hcz17_1
              try clear hcz17_2
              try clear hcz18_0
              try clear hcz18_1
              try clear hcz18_2
              try clear hcz18_3
              try clear hcz22_0
              try clear hcz22_1
              try clear hcz22_2
              try clear hcz33_0
              try clear hcz33_1
              try clear hcz33_2
              try clear hcz37_0
              try clear hcz37_1
              try clear hcz37_2
              try clear hcz37_3
              try clear hcz38_0
              try clear hcz38_1
              try clear hcz38_2
              try clear hcz40_0
              try clear hcz40_1
              try clear hcz40_2
              try clear hcz40_3
              try clear hcz47_0
              try clear hcz47_1
              try clear hcz47_2
              try clear hcz47_3
              try clear hcz49_0
              try clear hcz49_1
              try clear hcz49_2
              try clear hcz55_0
              try clear hcz55_1
              try clear hcz55_2
              try clear hcz56_0
              try clear hcz56_1
              try clear hcz56_2
              try clear hcz56_3
              try clear hfz10_0
              try clear hfz10_1
              try clear hfz10_2
              try clear hfz10_3
              try clear hfz14_0
              try clear hfz14_1
              try clear hfz14_2
              try clear hfz14_3
              try clear hfz17_0
              try clear hfz17_1
              try clear hfz17_2
              try clear hfz18_0
              try clear hfz18_1
              try clear hfz18_2
              try clear hfz18_3
              try clear hfz22_0
              try clear hfz22_1
              try clear hfz22_2
              try clear hfz33_0
              try clear hfz33_1
              try clear hfz33_2
              try clear hfz37_0
              try clear hfz37_1
              try clear hfz37_2
              try clear hfz37_3
              try clear hfz38_0
              try clear hfz38_1
              try clear hfz38_2
              try clear hfz40_0
              try clear hfz40_1
              try clear hfz40_2
              try clear hfz40_3
              try clear hfz47_0
              try clear hfz47_1
              try clear hfz47_2
              try clear hfz47_3
              try clear hfz49_0
              try clear hfz49_1
              try clear hfz49_2
              try clear hfz55_0
              try clear hfz55_1
              try clear hfz55_2
              try clear hfz56_0
              try clear hfz56_1
              try clear hfz56_2
              try clear hfz56_3
              try clear hx157_0
              try clear hx157_1
              try clear hx157_2
              try clear hx170_0
              try clear hx8_0
              try clear p1
              try clear p15
              try clear p157
              try clear p170
              try clear p2
              try clear p6
              try clear p8
              try clear q1
              try clear q15
              try clear q157
              try clear q170
              try clear q3
              try clear q35
              try clear q8
              obtain ⟨kq, x77_43, rfl, HA, HJ43, HO_3, HO_8, BK145, BK150, BK158, BK167, HB⟩ := hcut
              cases kq with
              | zero => exact absurd HA.out (by simp [mintime_space_left.j2])
              | succ kj43 =>
               have H := HA.out
               clear HA
               simp only [mintime_space_left.j2] at H
               by_cases c61 : x77_43 = true
               ·
                subst c61
                have H1 : (mintime_space_left.l1 kj43 x3_2 x8_2 t162 (wrap64 (x12_2 + 1)) a0_0 a0_1 a0_2 a0_3 ((rd_T31 x8_1 0).f0) ((rd_T31 x8_1 0).f1) ((rd_T31 x8_1 0).f2)) = some r := by rw [if_pos rfl] at H; exact H
                clear H
                have H := H1
                clear H1
                have H' := Aside0.mk H
                clear H
                go_wp2
                (try simp only [← hl3_2])
                go_roundg kj43
                case measure => have := HK1.out; have := HK2.out; have := HJ43.out; omega
                case rel => exact ⟨(x3_2), (x8_2), (wrap64 (x12_2 + 1)), (by first | rfl | (simp; done) | (simp [*]; done)), H', ⟨by have := HK1.out; have := HK2.out; have := HJ43.out; omega⟩, ⟨by (try simp only [hl3_1]); (try simp only [hl3_2]); (with_reducible repeat (first | apply Kd.R_alloc | apply Kd.R_drewN | apply Kd.R_drew)); exact HO_3.out⟩, ⟨by (try simp only [hl3_1]); (try simp only [hl3_2]); (with_reducible repeat (first | apply Kd.Q_alloc | apply Kd.Q_drewN | apply Kd.Q_drew)); exact Kd.Q_mono HO_8.out (fun _ hk => ⟨hk.1, hk.2.1⟩)⟩, ⟨by (try simp only [hl3_1]); (try simp only [hl3_2]); (with_reducible repeat (first | refine blk_drewN ?_ _ | refine blk_drew ?_ | refine blk_alloc ?_ _)); exact BK145.out⟩, ⟨by (try simp only [hl3_1]); (try simp only [hl3_2]); (with_reducible repeat (first | refine blk_drewN ?_ _ | refine blk_drew ?_ | refine blk_alloc ?_ _)); exact BK150.out⟩, ⟨by (try simp only [hl3_1]); (try simp only [hl3_2]); (with_reducible repeat (first | refine blk_drewN ?_ _ | refine blk_drew ?_ | refine blk_alloc ?_ _)); exact BK158.out⟩, ⟨by repeat (first | (with_reducible first | exact HB.out | apply below_alloc | apply pw_below_drewN | apply below_drew1 | refine below_set ?_ GE145.out | refine below_set ?_ GE150.out | refine below_set ?_ GE158.out | refine below_set ?_ GE167.out) | exact HB.out)⟩⟩
               ·
                replace c61 := Bool.eq_false_iff.mpr c61
                subst c61
                have H1 : (if 0 ≤ t162 then (if t162 < (x3_2.length : Int) then (if 0 ≤ t168 then (if t168 < (x3_2.length : Int) then ((some (x3_2.set (t168 : Int).toNat (wrap64 ((rd x3_2 t162) + 1)) : List Int)).bind fun y172 => (if (t164 == 0 && (t165 == 0 && (t166 == 0))) = true then (some y172) else (if x8_2.length < 5864062014805 then (mintime_space_left.l1 kj43 y172 (x8_2 ++ [(⟨t164, t165, t166⟩ : S31)]) t162 (wrap64 (x12_2 + 1)) a0_0 a0_1 a0_2 a0_3 ((rd_T31 x8_1 0).f0) ((rd_T31 x8_1 0).f1) ((rd_T31 x8_1 0).f2)) else (none)))) else (none)) else (none)) else (none)) else (none)) = some r := by rw [if_neg (show ¬ (false = true) by decide)] at H; exact H
                clear H
                have H := H1
                clear H1
                by_cases c62 : 0 ≤ t162
                ·
                 rw [if_pos c62] at H
                 have c62b0 : decide (0 ≤ t162) = true := decide_eq_true c62
                 clear c62
                 by_cases c63 : t162 < (x3_2.length : Int)
                 ·
                  rw [if_pos c63] at H
                  have c63b0 : decide (t162 < (x3_2.length : Int)) = true := decide_eq_true c63
                  clear c63
                  by_cases c64 : 0 ≤ t168
                  ·
                   rw [if_pos c64] at H
                   have c64b0 : decide (0 ≤ t168) = true := decide_eq_true c64
                   clear c64
                   by_cases c65 : t168 < (x3_2.length : Int)
                   ·
                    rw [if_pos c65] at H
                    have c65b0 : decide (t168 < (x3_2.length : Int)) = true := decide_eq_true c65
                    clear c65
                    obtain ⟨y172, hy172⟩ : ∃ y_ : List Int, y_ = (x3_2.set (t168 : Int).toNat (wrap64 ((rd x3_2 t162) + 1))) := ⟨_, rfl⟩
                    replace H : (if (t164 == 0 && (t165 == 0 && (t166 == 0))) = true then (some y172) else (if x8_2.length < 5864062014805 then (mintime_space_left.l1 kj43 y172 (x8_2 ++ [(⟨t164, t165, t166⟩ : S31)]) t162 (wrap64 (x12_2 + 1)) a0_0 a0_1 a0_2 a0_3 ((rd_T31 x8_1 0).f0) ((rd_T31 x8_1 0).f1) ((rd_T31 x8_1 0).f2)) else (none))) = some r := by first | (rw [hy172]; with_reducible exact H) | (have H2_ := (Option.bind_some _ _).symm.trans H; rw [hy172]; with_reducible exact H2_) | (have H2_ := (Option.bind_some _ _).symm.trans H; with_reducible exact H2_) | with_reducible exact H | (rw [hy172]; exact H) | exact H
                    have Ny172 := Aside0.mk hy172
                    clear hy172
                    by_cases c67 : (t164 == 0 && (t165 == 0 && (t166 == 0))) = true
                    ·
                     rw [if_pos c67] at H
                     have c67b0 : (t164 == 0 && (t165 == 0 && (t166 == 0))) = true := c67
                     clear c67
                     obtain rfl := Option.some.inj H
                     have p171 : 0 ≤ (t162 : Int) := of_decide_eq_true (by first | (with_reducible assumption) | assumption)
                     have q171 : t162 < (x3_2.length : Int) := of_decide_eq_true (by first | (with_reducible assumption) | assumption)
                     obtain ⟨ad171, e171, hx171_0⟩ := Kd.at_int (Kd.R_reads' HO_3.out).2.2 t162 p171 q171
                     obtain rfl : (⟨go8, 0, none⟩ : Addr) = ad171 := (by injection e171)
                     (first | simp only [add_plain] at hx171_0 | simp only [add_at] at hx171_0 | simp only [Addr.add, Nat.zero_add] at hx171_0 | skip)
                     replace p171 := eq_true p171
                     replace q171 := eq_true q171
                     have p66 : 0 ≤ (t168 : Int) := of_decide_eq_true (by first | (with_reducible assumption) | assumption)
                     have q66 : (t168 : Int) < ((x3_2.length : Int) : Int) := of_decide_eq_true (by first | (with_reducible assumption) | assumption)
                     obtain ⟨hx66_0, hf66_0⟩ := Kd.R_celln 0 HO_3.out (t168 : Int) p66 q66
                     replace p66 := eq_true p66
                     replace q66 := eq_true q66
                     have HP68 := Kd.R_putg HO_3.out (t168 : Int) (wrap64 ((rd x3_2 t162) + 1))
                     go_wp2_with (first | ((with_reducible refine gate_store (t := 3) (p := 85) rfl ?_); refine store_event (t := 3) (p := 85) (v := ?vo_w69) (w1 := (wc.setCell ⟨go8, (t168 : Int).toNat, none⟩ (.int .i64 (wrap64 ((rd x3_2 t162) + 1))))) ?hg ?ho ?hn ?hr ?_; (case ho => rfl); (case hg => rfl); (case hn => rfl); (case hr => first | (go_simp; done) | (go_simp; rfl)); intro w69 hw; have hg : wc.grownBy w69 (some go8) := (by rw [hw]; exact HP68.2); have hp_ : Kd.R (Kd.int .i64) 3 w69 w.heap.size (fun _ => True) (.slice (some ⟨go8, 0, none⟩) x3_2.length co8) y172 := (by rw [hw, Ny172.out]; exact HP68.1); clear HP68; have n0_ := Aside0.mk (hp_); have n1_ := Aside0.mk (Kd.Q_over' (v := (.slice (some ⟨go8, 0, none⟩) x3_2.length co8)) (by (with_reducible repeat (first | apply Kd.Q_alloc | apply Kd.Q_drewN | apply Kd.Q_drew)); exact HO_8.out) (Kd.R_typed HO_3.out) (by decide) hg); have n2_ := Aside0.mk (blk_grown (g := gb145) (o := .cells #[.int .i64 a0_0, .int .i64 a0_1, .int .i64 a0_2, .int .i64 a0_3] 86 (0, 0)) (by (with_reducible repeat (first | refine blk_drewN ?_ _ | refine blk_drew ?_ | refine blk_alloc ?_ _)); exact BK145.out) hg (Kd.R_ne HO_3.out BK145.out (by decide))); have n3_ := Aside0.mk (blk_grown (g := gb150) (o := .cells #[.int .i64 a0_3, .int .i64 0, .int .i64 0] 31 (0, 0)) (by (with_reducible repeat (first | refine blk_drewN ?_ _ | refine blk_drew ?_ | refine blk_alloc ?_ _)); exact BK150.out) hg (Kd.R_ne HO_3.out BK150.out (by decide))); have n4_ := Aside0.mk (blk_grown (g := gb158) (o := .cells #[.int .i64 ((rd_T31 x8_1 0).f0), .int .i64 ((rd_T31 x8_1 0).f1), .int .i64 ((rd_T31 x8_1 0).f2)] 31 (0, 0)) (by (with_reducible repeat (first | refine blk_drewN ?_ _ | refine blk_drew ?_ | refine blk_alloc ?_ _)); exact BK158.out) hg (Kd.R_ne HO_3.out BK158.out (by decide))); have n5_ := Aside0.mk (blk_grown (g := gb167) (o := .cells #[.int .i64 t164, .int .i64 t165, .int .i64 t166] 31 (0, 0)) (by (with_reducible repeat (first | refine blk_drewN ?_ _ | refine blk_drew ?_ | refine blk_alloc ?_ _)); exact BK167.out) hg (Kd.R_ne HO_3.out BK167.out (by decide))); have n6_ := Aside0.mk ((by rw [hw]; exact below_set (HB.out) GB8.out : Below w.heap.size w w69)); clear HO_3; clear HO_8; clear BK145; clear BK150; clear BK158; clear BK167; clear HB; have HO_3 := n0_; have HO_8 := n1_; have BK145 := n2_; have BK150 := n3_; have BK158 := n4_; have BK167 := n5_; have HB := n6_; clear n0_ n1_ n2_ n3_ n4_ n5_ n6_; clear hg hw hp_; have hnb70 := NB167_145.out; have hnc70 := NB145_167.out; have hnb71 := NB167_150.out; have hnc71 := NB150_167.out; have hnb72 := NB167_158.out; have hnc72 := NB158_167.out; have hcz73_0 : w69.cell? ⟨gb167, 0, none⟩ = some (.int .i64 t164) := (blk_cell BK167.out 0).trans rfl; have hcz73_1 : w69.cell? ⟨gb167, 1, none⟩ = some (.int .i64 t165) := (blk_cell BK167.out 1).trans rfl; have hcz73_2 : w69.cell? ⟨gb167, 2, none⟩ = some (.int .i64 t166) := (blk_cell BK167.out 2).trans rfl; have hfz73_0 := blk_frozen BK167.out 0; have hfz73_1 := blk_frozen BK167.out 1; have hfz73_2 := blk_frozen BK167.out 2))
                     go_ret
                     exact ⟨_, by first | rfl | (simp [errW_none, errW_some] <;> rfl) | (simp [*, errW_none, errW_some] <;> rfl), by (with_reducible repeat (first | apply Kd.R_alloc | apply Kd.R_drewN | apply Kd.R_drew)); exact HO_3.out, by repeat (first | (with_reducible first | exact HB.out | apply below_alloc | apply pw_below_drewN | apply below_drew1 | refine below_set ?_ GE145.out | refine below_set ?_ GE150.out | refine below_set ?_ GE158.out | refine below_set ?_ GE167.out) | exact HB.out)⟩
                    ·
                     rw [if_neg c67] at H
                     have c67b0 : (t164 == 0 && (t165 == 0 && (t166 == 0))) = false := by simpa using c67
                     clear c67
                     by_cases c74 : x8_2.length < 5864062014805
                     ·
                      rw [if_pos c74] at H
                      have LMc74 := Aside0.mk c74
                      clear c74
                      obtain ⟨y173, hy173⟩ : ∃ y_ : List (S31), y_ = (x8_2 ++ [(⟨t164, t165, t166⟩ : S31)]) := ⟨_, rfl⟩
                      replace H : (mintime_space_left.l1 kj43 y172 y173 t162 (wrap64 (x12_2 + 1)) a0_0 a0_1 a0_2 a0_3 ((rd_T31 x8_1 0).f0) ((rd_T31 x8_1 0).f1) ((rd_T31 x8_1 0).f2)) = some r := by first | (rw [hy173]; with_reducible exact H) | (have H2_ := (Option.bind_some _ _).symm.trans H; rw [hy173]; with_reducible exact H2_) | (have H2_ := (Option.bind_some _ _).symm.trans H; with_reducible exact H2_) | with_reducible exact H | (rw [hy173]; exact H) | exact H
                      have Ny173 := Aside0.mk hy173
                      clear hy173
                      have H' := Aside0.mk H
                      clear H
                      have p171 : 0 ≤ (t162 : Int) := of_decide_eq_true (by first | (with_reducible assumption) | assumption)
                      have q171 : t162 < (x3_2.length : Int) := of_decide_eq_true (by first | (with_reducible assumption) | assumption)
                      obtain ⟨ad171, e171, hx171_0⟩ := Kd.at_int (Kd.R_reads' HO_3.out).2.2 t162 p171 q171
                      obtain rfl : (⟨go8, 0, none⟩ : Addr) = ad171 := (by injection e171)
                      (first | simp only [add_plain] at hx171_0 | simp only [add_at] at hx171_0 | simp only [Addr.add, Nat.zero_add] at hx171_0 | skip)
                      replace p171 := eq_true p171
                      replace q171 := eq_true q171
                      have p66 : 0 ≤ (t168 : Int) := of_decide_eq_true (by first | (with_reducible assumption) | assumption)
                      have q66 : (t168 : Int) < ((x3_2.length : Int) : Int) := of_decide_eq_true (by first | (with_reducible assumption) | assumption)
                      obtain ⟨hx66_0, hf66_0⟩ := Kd.R_celln 0 HO_3.out (t168 : Int) p66 q66
                      replace p66 := eq_true p66
                      replace q66 := eq_true q66
                      have HP75 := Kd.R_putg HO_3.out (t168 : Int) (wrap64 ((rd x3_2 t162) + 1))
                      go_wp2_with (first | ((with_reducible refine gate_store (t := 3) (p := 85) rfl ?_); refine store_event (t := 3) (p := 85) (v := ?vo_w76) (w1 := (wc.setCell ⟨go8, (t168 : Int).toNat, none⟩ (.int .i64 (wrap64 ((rd x3_2 t162) + 1))))) ?hg ?ho ?hn ?hr ?_; (case ho => rfl); (case hg => rfl); (case hn => rfl); (case hr => first | (go_simp; done) | (go_simp; rfl)); intro w76 hw; have hg : wc.grownBy w76 (some go8) := (by rw [hw]; exact HP75.2); have hp_ : Kd.R (Kd.int .i64) 3 w76 w.heap.size (fun _ => True) (.slice (some ⟨go8, 0, none⟩) x3_2.length co8) y172 := (by rw [hw, Ny172.out]; exact HP75.1); clear HP75; have n0_ := Aside0.mk (hp_); have n1_ := Aside0.mk (Kd.Q_over' (v := (.slice (some ⟨go8, 0, none⟩) x3_2.length co8)) (by (with_reducible repeat (first | apply Kd.Q_alloc | apply Kd.Q_drewN | apply Kd.Q_drew)); exact HO_8.out) (Kd.R_typed HO_3.out) (by decide) hg); have n2_ := Aside0.mk (blk_grown (g := gb145) (o := .cells #[.int .i64 a0_0, .int .i64 a0_1, .int .i64 a0_2, .int .i64 a0_3] 86 (0, 0)) (by (with_reducible repeat (first | refine blk_drewN ?_ _ | refine blk_drew ?_ | refine blk_alloc ?_ _)); exact BK145.out) hg (Kd.R_ne HO_3.out BK145.out (by decide))); have n3_ := Aside0.mk (blk_grown (g := gb150) (o := .cells #[.int .i64 a0_3, .int .i64 0, .int .i64 0] 31 (0, 0)) (by (with_reducible repeat (first | refine blk_drewN ?_ _ | refine blk_drew ?_ | refine blk_alloc ?_ _)); exact BK150.out) hg (Kd.R_ne HO_3.out BK150.out (by decide))); have n4_ := Aside0.mk (blk_grown (g := gb158) (o := .cells #[.int .i64 ((rd_T31 x8_1 0).f0), .int .i64 ((rd_T31 x8_1 0).f1), .int .i64 ((rd_T31 x8_1 0).f2)] 31 (0, 0)) (by (with_reducible repeat (first | refine blk_drewN ?_ _ | refine blk_drew ?_ | refine blk_alloc ?_ _)); exact BK158.out) hg (Kd.R_ne HO_3.out BK158.out (by decide))); have n5_ := Aside0.mk (blk_grown (g := gb167) (o := .cells #[.int .i64 t164, .int .i64 t165, .int .i64 t166] 31 (0, 0)) (by (with_reducible repeat (first | refine blk_drewN ?_ _ | refine blk_drew ?_ | refine blk_alloc ?_ _)); exact BK167.out) hg (Kd.R_ne HO_3.out BK167.out (by decide))); have n6_ := Aside0.mk ((by rw [hw]; exact below_set (HB.out) GB8.out : Below w.heap.size w w76)); clear HO_3; clear HO_8; clear BK145; clear BK150; clear BK158; clear BK167; clear HB; have HO_3 := n0_; have HO_8 := n1_; have BK145 := n2_; have BK150 := n3_; have BK158 := n4_; have BK167 := n5_; have HB := n6_; clear n0_ n1_ n2_ n3_ n4_ n5_ n6_; clear hg hw hp_; have hnb77 := NB167_145.out; have hnc77 := NB145_167.out; have hnb78 := NB167_150.out; have hnc78 := NB150_167.out; have hnb79 := NB167_158.out; have hnc79 := NB158_167.out; have hcz80_0 : w76.cell? ⟨gb167, 0, none⟩ = some (.int .i64 t164) := (blk_cell BK167.out 0).trans rfl; have hcz80_1 : w76.cell? ⟨gb167, 1, none⟩ = some (.int .i64 t165) := (blk_cell BK167.out 1).trans rfl; have hcz80_2 : w76.cell? ⟨gb167, 2, none⟩ = some (.int .i64 t166) := (blk_cell BK167.out 2).trans rfl; have hfz80_0 := blk_frozen BK167.out 0; have hfz80_1 := blk_frozen BK167.out 1; have hfz80_2 := blk_frozen BK167.out 2) | ((with_reducible refine gate_builtin (b := .append) (xs := #[.tmp 89, .tmp 91]) rfl ?_); at_builtin; refine Kd.Q_append k31 (w0 := w) w.heap.size rfl (.tmp 89) (.tmp 91) 33 31 (.agg #[(.int .i64 0), (.int .i64 0), (.int .i64 0)]) 24 rfl Try.underlying33 info31 rfl (by decide) (by omega) u8 x8_2 (⟨t164, t165, t166⟩ : S31) [.int .i64 t164, .int .i64 t165, .int .i64 t166] (fun k_ => k_ ≠ gb150 ∧ k_ ≠ gb158 ∧ k_ ≠ gb167) (fun _ => False) rfl rfl ?aP (fun _ hk => hk.elim) ?aF ?aO ?aB ?aS ?aL ?_; (case aP => exact k31_mkM _ _ _ (⟨t164, t165, t166⟩ : S31)); (case aB => exact (by repeat (first | (with_reducible first | exact HB.out | apply below_alloc | apply pw_below_drewN | apply below_drew1 | refine below_set ?_ GE145.out | refine below_set ?_ GE150.out | refine below_set ?_ GE158.out | refine below_set ?_ GE167.out) | exact HB.out))); (case aF => exact (fun k_ hk => ⟨Kd.freshB (g := gb150) (o := .cells #[.int .i64 a0_3, .int .i64 0, .int .i64 0] 31 (0, 0)) (by (with_reducible repeat (first | refine blk_drewN ?_ _ | refine blk_drew ?_ | refine blk_alloc ?_ _)); exact BK150.out) k_ hk, Kd.freshB (g := gb158) (o := .cells #[.int .i64 ((rd_T31 x8_1 0).f0), .int .i64 ((rd_T31 x8_1 0).f1), .int .i64 ((rd_T31 x8_1 0).f2)] 31 (0, 0)) (by (with_reducible repeat (first | refine blk_drewN ?_ _ | refine blk_drew ?_ | refine blk_alloc ?_ _)); exact BK158.out) k_ hk, Kd.freshB (g := gb167) (o := .cells #[.int .i64 t164, .int .i64 t165, .int .i64 t166] 31 (0, 0)) (by (with_reducible repeat (first | refine blk_drewN ?_ _ | refine blk_drew ?_ | refine blk_alloc ?_ _)); exact BK167.out) k_ hk⟩)); (case aO => exact (by (with_reducible repeat (first | apply Kd.Q_alloc | apply Kd.Q_drewN | apply Kd.Q_drew)); exact HO_8.out)); (case aS => exact (below_size (by repeat (first | (with_reducible first | exact HB.out | apply below_alloc | apply pw_below_drewN | apply below_drew1 | refine below_set ?_ GE145.out | refine below_set ?_ GE150.out | refine below_set ?_ GE158.out | refine below_set ?_ GE167.out) | exact HB.out)))); (case aL => have := LMc74.out; omega); intro v174 w81 ho hb hg hat; rw [← Ny173.out] at ho; have n0_ := Aside0.mk (Kd.R_over' (by (with_reducible repeat (first | apply Kd.R_alloc | apply Kd.R_drewN | apply Kd.R_drew)); exact HO_3.out) (Kd.Q_typed (by (with_reducible repeat (first | apply Kd.Q_alloc | apply Kd.Q_drewN | apply Kd.Q_drew)); exact HO_8.out)) (by decide) hg); have n1_ := Aside0.mk (blk_grown (g := gb145) (o := .cells #[.int .i64 a0_0, .int .i64 a0_1, .int .i64 a0_2, .int .i64 a0_3] 86 (0, 0)) (by (with_reducible repeat (first | refine blk_drewN ?_ _ | refine blk_drew ?_ | refine blk_alloc ?_ _)); exact BK145.out) hg (Kd.Q_ne HO_8.out BK145.out (by decide))); have n2_ := Aside0.mk (blk_grown (g := gb150) (o := .cells #[.int .i64 a0_3, .int .i64 0, .int .i64 0] 31 (0, 0)) (by (with_reducible repeat (first | refine blk_drewN ?_ _ | refine blk_drew ?_ | refine blk_alloc ?_ _)); exact BK150.out) hg (Kd.Q_away HO_8.out (fun _ hk => hk.1))); have n3_ := Aside0.mk (blk_grown (g := gb158) (o := .cells #[.int .i64 ((rd_T31 x8_1 0).f0), .int .i64 ((rd_T31 x8_1 0).f1), .int .i64 ((rd_T31 x8_1 0).f2)] 31 (0, 0)) (by (with_reducible repeat (first | refine blk_drewN ?_ _ | refine blk_drew ?_ | refine blk_alloc ?_ _)); exact BK158.out) hg (Kd.Q_away HO_8.out (fun _ hk => hk.2.1))); have n4_ := Aside0.mk (blk_grown (g := gb167) (o := .cells #[.int .i64 t164, .int .i64 t165, .int .i64 t166] 31 (0, 0)) (by (with_reducible repeat (first | refine blk_drewN ?_ _ | refine blk_drew ?_ | refine blk_alloc ?_ _)); exact BK167.out) hg (Kd.Q_away HO_8.out (fun _ hk => hk.2.2))); have n5_ := Aside0.mk (hb); have n6_ := Aside0.mk (ho); clear HO_3; clear BK145; clear BK150; clear BK158; clear BK167; clear HB; clear HO_8; have HO_3 := n0_; have BK145 := n1_; have BK150 := n2_; have BK158 := n3_; have BK167 := n4_; have HB := n5_; have HO175 := n6_; clear n0_ n1_ n2_ n3_ n4_ n5_ n6_; clear ho hb hg hat))
                      (try simp only [← hl3_2])
                      go_roundg kj43
                      case measure => have := HK1.out; have := HK2.out; have := HJ43.out; omega
                      case rel => exact ⟨(y172), (y173), (wrap64 (x12_2 + 1)), (by first | rfl | (simp; done) | (simp [*]; done)), H', ⟨by have := HK1.out; have := HK2.out; have := HJ43.out; omega⟩, ⟨by (try simp only [hl3_1]); (try simp only [hl3_2]); (with_reducible repeat (first | apply Kd.R_alloc | apply Kd.R_drewN | apply Kd.R_drew)); exact HO_3.out⟩, ⟨by (try simp only [hl3_1]); (try simp only [hl3_2]); (with_reducible repeat (first | apply Kd.Q_alloc | apply Kd.Q_drewN | apply Kd.Q_drew)); exact Kd.Q_mono HO175.out (fun _ hk => ⟨hk.1, hk.2.1⟩)⟩, ⟨by (try simp only [hl3_1]); (try simp only [hl3_2]); (with_reducible repeat (first | refine blk_drewN ?_ _ | refine blk_drew ?_ | refine blk_alloc ?_ _)); exact BK145.out⟩, ⟨by (try simp only [hl3_1]); (try simp only [hl3_2]); (with_reducible repeat (first | refine blk_drewN ?_ _ | refine blk_drew ?_ | refine blk_alloc ?_ _)); exact BK150.out⟩, ⟨by (try simp only [hl3_1]); (try simp only [hl3_2]); (with_reducible repeat (first | refine blk_drewN ?_ _ | refine blk_drew ?_ | refine blk_alloc ?_ _)); exact BK158.out⟩, ⟨by repeat (first | (with_reducible first | exact HB.out | apply below_alloc | apply pw_below_drewN | apply below_drew1 | refine below_set ?_ GE145.out | refine below_set ?_ GE150.out | refine below_set ?_ GE158.out | refine below_set ?_ GE167.out) | exact HB.out)⟩⟩
                     ·
                      rw [if_neg c74] at H
                      exact absurd H (by simp)
                   ·
                    rw [if_neg c65] at H
                    exact absurd H (by simp)
                  ·
                   rw [if_neg c64] at H
                   exact absurd H (by simp)
                 ·
                  rw [if_neg c63] at H
                  exact absurd H (by simp)
                ·
                 rw [if_neg c62] at H
                 exact absurd H (by simp)
            ·
             rw [if_neg c41] at H
             have c41b0 : decide (x12_2 ≤ a0_2) = false := decide_eq_false c41
             clear c41
             have H' := Aside0.mk H
             clear H
             have hnb82 := NB145_150.out
             have hnc82 := NB150_145.out
             have hnb83 := NB145_158.out
             have hnc83 := NB158_145.out
             have hcz84_0 : wr.cell? ⟨gb145, 0, none⟩ = some (.int .i64 a0_0) := (blk_cell BK145.out 0).trans rfl
             have hcz84_1 : wr.cell? ⟨gb145, 1, none⟩ = some (.int .i64 a0_1) := (blk_cell BK145.out 1).trans rfl
             have hcz84_2 : wr.cell? ⟨gb145, 2, none⟩ = some (.int .i64 a0_2) := (blk_cell BK145.out 2).trans rfl
             have hcz84_3 : wr.cell? ⟨gb145, 3, none⟩ = some (.int .i64 a0_3) := (blk_cell BK145.out 3).trans rfl
             have hfz84_0 := blk_frozen BK145.out 0
             have hfz84_1 := blk_frozen BK145.out 1
             have hfz84_2 := blk_frozen BK145.out 2
             have hfz84_3 := blk_frozen BK145.out 3
             go_wp2
             (try simp only [← hl3_1, ← hl3_2])
             go_roundg k2
             case measure => have := HK1.out; have := HK2.out; omega
             case rel => exact ⟨(x3_2), (x8_2), H', ⟨by have := HK1.out; have := HK2.out; omega⟩, ⟨by (try simp only [hl3_1]); (try simp only [hl3_2]); (with_reducible repeat (first | apply Kd.R_alloc | apply Kd.R_drewN | apply Kd.R_drew)); exact HO_3.out⟩, ⟨by (try simp only [hl3_1]); (try simp only [hl3_2]); (with_reducible repeat (first | apply Kd.Q_alloc | apply Kd.Q_drewN | apply Kd.Q_drew)); exact Kd.Q_mono HO_8.out (fun _ hk => hk.1)⟩, ⟨by (try simp only [hl3_1]); (try simp only [hl3_2]); (with_reducible repeat (first | refine blk_drewN ?_ _ | refine blk_drew ?_ | refine blk_alloc ?_ _)); exact BK145.out⟩, ⟨by (try simp only [hl3_1]); (try simp only [hl3_2]); (with_reducible repeat (first | refine blk_drewN ?_ _ | refine blk_drew ?_ | refine blk_alloc ?_ _)); exact BK150.out⟩, ⟨by repeat (first | (with_reducible first | exact HB.out | apply below_alloc | apply pw_below_drewN | apply below_drew1 | refine below_set ?_ GE145.out | refine below_set ?_ GE150.out | refine below_set ?_ GE158.out) | exact HB.out)⟩⟩
         ·
          rw [if_neg c27] at H
          exact absurd H (by simp)
        ·
         rw [if_neg c26] at H
         exact absurd H (by simp)
       ·
        rw [if_neg c25] at H
        have c25b0 : decide (0 < (x8_1.length : Int)) = false := decide_eq_false c25
        have c25b1 : decide (0 < x8_1.length) = false := decide_eq_false (by omega)
        clear c25
        obtain rfl := Option.some.inj H
        obtain ⟨Ao85, co85, eo85, _⟩ := Kd.Q_slice HO_8.out
        subst eo85
        go_wp2
        go_ret
        exact ⟨_, by first | rfl | (simp [errW_none, errW_some] <;> rfl) | (simp [*, errW_none, errW_some] <;> rfl), by (with_reducible repeat (first | apply Kd.R_alloc | apply Kd.R_drewN | apply Kd.R_drew)); exact HO_3.out, by repeat (first | (with_reducible first | exact HB.out | apply below_alloc | apply pw_below_drewN | apply below_drew1 | refine below_set ?_ GE145.out | refine below_set ?_ GE150.out) | exact HB.out)⟩
    ·
     rw [if_neg c7] at H
     exact absurd H (by simp)
   ·
    rw [if_neg c6] at H
    exact absurd H (by simp)
  ·
   rw [if_neg c4] at H
   exact absurd H (by simp)
 ·
  rw [if_neg c3] at H
  exact absurd H (by simp)

end Go.Proofs.Ythmddbffhbfmeaa.P
