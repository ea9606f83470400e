-- Written by this session's own program, for this seat. Lean checks it.
import Derived.Test.YtmmaodlngnjmlaaP0
import Derived.Test.YtmmaodlngnjmlaaP1
import Derived.WalkMore
import Derived.Test.YtmmaodlngnjmlaaXShorts2
namespace Go.Proofs.Ytmmaodlngnjmlaa.P
open Go.RowKit Go.Proofs.YtmmaodlngnjmlaaW.PrintWords Go.Proofs.YtmmaodlngnjmlaaW.PrintLast Go.Proofs.YtmmaodlngnjmlaaW.PrintMore
attribute [local go_sem] max2_int min2_int max_two min_two max_three min_three max_four min_four   -- for this text's walks alone
set_option linter.unusedVariables false
set_option linter.unusedSimpArgs false

attribute [local go_sem high] eqA33

/-! ### mintime_space_left: function 49 -/
mutual
def mintime_space_left.l0 : Nat → List Int → List (S33) → Int → Int → Int → Int → Option (List Int)
 | 0, _, _, _, _, _, _ => none
 | k + 1, x3, x8, x119000, x119001, x119002, x119003 => if (x8.length : Int) > 0 then (if 0 < (x8.length : Int) then (if 1 ≤ (x8.length : Int) then ((mintime_space_of.f x119000 x119001 x119002 x119003 ((rd_T33 x8 0).f0) ((rd_T33 x8 0).f1) ((rd_T33 x8 0).f2)).bind fun bt135 => (mintime_space_left.l1 k x3 (x8.drop (1 : Int).toNat) bt135.1 (wrap64 (-x119002)) x119000 x119001 x119002 x119003 ((rd_T33 x8 0).f0) ((rd_T33 x8 0).f1) ((rd_T33 x8 0).f2))) else (none)) else (none)) else (some x3)
def mintime_space_left.l1 : Nat → List Int → List (S33) → Int → Int → Int → Int → Int → Int → Int → Int → Int → Option (List Int)
 | 0, _, _, _, _, _, _, _, _, _, _, _ => none
 | k + 1, x3, x8, x10, x12, x119000, x119001, x119002, x119003, x132000, x132001, x132002 => if x12 ≤ x119002 then ((mintime_ahead.f x132000 x132001 x132002 x12).bind fun bt137 => ((mintime_space_of.f x119000 x119001 x119002 x119003 bt137.1 bt137.2.1 bt137.2.2).bind fun bt141 => (if bt141.2 = true then (if 0 ≤ bt141.1 then (if bt141.1 < (x3.length : Int) then (mintime_space_left.j2 k x3 x8 x10 x12 bt141.1 (decide ((rd x3 bt141.1) > 0)) x119000 x119001 x119002 x119003 x132000 x132001 x132002 bt137.1 bt137.2.1 bt137.2.2) else (none)) else (none)) else (mintime_space_left.j2 k x3 x8 x10 x12 bt141.1 true x119000 x119001 x119002 x119003 x132000 x132001 x132002 bt137.1 bt137.2.1 bt137.2.2)))) else (mintime_space_left.l0 k x3 x8 x119000 x119001 x119002 x119003)
def mintime_space_left.j2 : Nat → List Int → List (S33) → Int → Int → Int → Bool → Int → Int → Int → Int → Int → Int → Int → Int → Int → Int → Option (List Int)
 | 0, _, _, _, _, _, _, _, _, _, _, _, _, _, _, _, _ => none
 | k + 1, x3, x8, x10, x12, x14, x77, x119000, x119001, x119002, x119003, x132000, x132001, x132002, x141000, x141001, x141002 => if x77 = true then (mintime_space_left.l1 k x3 x8 x10 (wrap64 (x12 + 1)) x119000 x119001 x119002 x119003 x132000 x132001 x132002) else (if 0 ≤ x10 then (if x10 < (x3.length : Int) then (if 0 ≤ x14 then (if x14 < (x3.length : Int) then ((some (x3.set (x14 : Int).toNat (wrap64 ((rd x3 x10) + 1)) : List Int)).bind fun y145 => (if (x141000 == 0 && (x141001 == 0 && (x141002 == 0))) = true then (some y145) else (if x8.length < 5864062014805 then (mintime_space_left.l1 k y145 (x8 ++ [(⟨x141000, x141001, x141002⟩ : S33)]) x10 (wrap64 (x12 + 1)) x119000 x119001 x119002 x119003 x132000 x132001 x132002) else (none)))) else (none)) else (none)) else (none)) else (none))
end
def mintime_space_left.f (k : Nat) (a0_0 : Int) (a0_1 : Int) (a0_2 : Int) (a0_3 : Int) : Option (List Int) := (mintime_space_many.f a0_0 a0_1 a0_2 a0_3).bind fun t119 => (if 0 ≤ t119 then (if (t119 : Int).toNat ≤ 35184372088832 then ((some (List.replicate (t119 : Int).toNat 0 : List Int)).bind fun y120 => ((mintime_space_of.f a0_0 a0_1 a0_2 a0_3 a0_3 0 0).bind fun bt124 => (if 0 ≤ bt124.1 then (if bt124.1 < (y120.length : Int) then (mintime_space_left.l0 k (y120.set (bt124.1 : Int).toNat 1) (([(⟨a0_3, 0, 0⟩ : S33)] : List (S33))) a0_0 a0_1 a0_2 a0_3) else (none)) else (none)))) else (none)) else (none))
theorem mintime_space_left.mono_l : ∀ k, (∀ y0 y1 y2 y3 y4 y5, LeO (mintime_space_left.l0 k y0 y1 y2 y3 y4 y5) (mintime_space_left.l0 (k + 1) y0 y1 y2 y3 y4 y5)) ∧ (∀ y0 y1 y2 y3 y4 y5 y6 y7 y8 y9 y10, LeO (mintime_space_left.l1 k y0 y1 y2 y3 y4 y5 y6 y7 y8 y9 y10) (mintime_space_left.l1 (k + 1) y0 y1 y2 y3 y4 y5 y6 y7 y8 y9 y10)) ∧ (∀ y0 y1 y2 y3 y4 y5 y6 y7 y8 y9 y10 y11 y12 y13 y14 y15, LeO (mintime_space_left.j2 k y0 y1 y2 y3 y4 y5 y6 y7 y8 y9 y10 y11 y12 y13 y14 y15) (mintime_space_left.j2 (k + 1) y0 y1 y2 y3 y4 y5 y6 y7 y8 y9 y10 y11 y12 y13 y14 y15))
 | 0 => ⟨fun _ _ _ _ _ _ r h => by simp [mintime_space_left.l0] at h, fun _ _ _ _ _ _ _ _ _ _ _ r h => by simp [mintime_space_left.l1] at h, fun _ _ _ _ _ _ _ _ _ _ _ _ _ _ _ _ r h => by simp [mintime_space_left.j2] at h⟩
 | k + 1 => by
  obtain ⟨ih0, ih1, ih2⟩ := mintime_space_left.mono_l k
  refine ⟨?_, ?_, ?_⟩
  ·
   intro y0 y1 y2 y3 y4 y5
   unfold mintime_space_left.l0
   repeat' first
   | (with_reducible exact ih0 _ _ _ _ _ _)
   | (with_reducible exact ih1 _ _ _ _ _ _ _ _ _ _ _)
   | (with_reducible exact ih2 _ _ _ _ _ _ _ _ _ _ _ _ _ _ _ _)
   | (with_reducible exact LeO.refl _)
   | (with_reducible exact LeO.none _)
   | (with_reducible refine LeO.ite ?_ ?_)
   | (with_reducible refine LeO.bind ?_ (fun _ => ?_))
   | exact ih0 _ _ _ _ _ _
   | exact ih1 _ _ _ _ _ _ _ _ _ _ _
   | exact ih2 _ _ _ _ _ _ _ _ _ _ _ _ _ _ _ _
   | exact LeO.none _
   | refine LeO.ite ?_ ?_
   | refine LeO.bind ?_ (fun _ => ?_)
  ·
   intro y0 y1 y2 y3 y4 y5 y6 y7 y8 y9 y10
   unfold mintime_space_left.l1
   repeat' first
   | (with_reducible exact ih0 _ _ _ _ _ _)
   | (with_reducible exact ih1 _ _ _ _ _ _ _ _ _ _ _)
   | (with_reducible exact ih2 _ _ _ _ _ _ _ _ _ _ _ _ _ _ _ _)
   | (with_reducible exact LeO.refl _)
   | (with_reducible exact LeO.none _)
   | (with_reducible refine LeO.ite ?_ ?_)
   | (with_reducible refine LeO.bind ?_ (fun _ => ?_))
   | exact ih0 _ _ _ _ _ _
   | exact ih1 _ _ _ _ _ _ _ _ _ _ _
   | exact ih2 _ _ _ _ _ _ _ _ _ _ _ _ _ _ _ _
   | exact LeO.none _
   | refine LeO.ite ?_ ?_
   | refine LeO.bind ?_ (fun _ => ?_)
  ·
   intro y0 y1 y2 y3 y4 y5 y6 y7 y8 y9 y10 y11 y12 y13 y14 y15
   unfold mintime_space_left.j2
   repeat' first
   | (with_reducible exact ih0 _ _ _ _ _ _)
   | (with_reducible exact ih1 _ _ _ _ _ _ _ _ _ _ _)
   | (with_reducible exact ih2 _ _ _ _ _ _ _ _ _ _ _ _ _ _ _ _)
   | (with_reducible exact LeO.refl _)
   | (with_reducible exact LeO.none _)
   | (with_reducible refine LeO.ite ?_ ?_)
   | (with_reducible refine LeO.bind ?_ (fun _ => ?_))
   | exact ih0 _ _ _ _ _ _
   | exact ih1 _ _ _ _ _ _ _ _ _ _ _
   | exact ih2 _ _ _ _ _ _ _ _ _ _ _ _ _ _ _ _
   | exact LeO.none _
   | refine LeO.ite ?_ ?_
   | refine LeO.bind ?_ (fun _ => ?_)
theorem mintime_space_left.mono : ∀ a0 a1 a2 a3 k, LeO (mintime_space_left.f k a0 a1 a2 a3) (mintime_space_left.f (k + 1) a0 a1 a2 a3) := by
 intro a0 a1 a2 a3 k
 obtain ⟨ih0, ih1, ih2⟩ := mintime_space_left.mono_l k
 unfold mintime_space_left.f
 repeat' first
   | (with_reducible exact ih0 _ _ _ _ _ _)
   | (with_reducible exact ih1 _ _ _ _ _ _ _ _ _ _ _)
   | (with_reducible exact ih2 _ _ _ _ _ _ _ _ _ _ _ _ _ _ _ _)
   | (with_reducible exact LeO.refl _)
   | (with_reducible exact LeO.none _)
   | (with_reducible refine LeO.ite ?_ ?_)
   | (with_reducible refine LeO.bind ?_ (fun _ => ?_))
   | exact ih0 _ _ _ _ _ _
   | exact ih1 _ _ _ _ _ _ _ _ _ _ _
   | exact ih2 _ _ _ _ _ _ _ _ _ _ _ _ _ _ _ _
   | exact LeO.none _
   | refine LeO.ite ?_ ?_
   | refine LeO.bind ?_ (fun _ => ?_)
set_option maxHeartbeats 8000000 in
set_option maxRecDepth 100000 in
theorem mintime_space_left.calls (k : Nat) (a0_0 : Int) (a0_1 : Int) (a0_2 : Int) (a0_3 : Int) (r : List Int) (w : World) (h : mintime_space_left.f k a0_0 a0_1 a0_2 a0_3 = some r) :
  Calls Try.prog 49 #[.agg #[.int .i64 a0_0, .int .i64 a0_1, .int .i64 a0_2, .int .i64 a0_3]] w fun e w' => ∃ v0_ : Value, e = .returned (v0_) ∧ Kd.R (Kd.int .i64) 3 w' w.heap.size (fun _ => True) v0_ r ∧ Below w.heap.size w w' := by
 have hu98 := Try.underlying98
 have hu33 := Try.underlying33
 have HB := Aside0.mk (Below.refl w.heap.size w)
 have H : ((mintime_space_many.f a0_0 a0_1 a0_2 a0_3).bind fun t119 => (if 0 ≤ t119 then (if (t119 : Int).toNat ≤ 35184372088832 then ((some (List.replicate (t119 : Int).toNat 0 : List Int)).bind fun y120 => ((mintime_space_of.f a0_0 a0_1 a0_2 a0_3 a0_3 0 0).bind fun bt124 => (if 0 ≤ bt124.1 then (if bt124.1 < (y120.length : Int) then (mintime_space_left.l0 k (y120.set (bt124.1 : Int).toNat 1) (([(⟨a0_3, 0, 0⟩ : S33)] : List (S33))) a0_0 a0_1 a0_2 a0_3) else (none)) else (none)))) else (none)) else (none))) = some r := h
 clear h
 replace H := Option.bind_eq_some_iff.mp H
 obtain ⟨t119, A20, H⟩ := H
 replace H : (if 0 ≤ t119 then (if (t119 : Int).toNat ≤ 35184372088832 then ((some (List.replicate (t119 : Int).toNat 0 : List Int)).bind fun y120 => ((mintime_space_of.f a0_0 a0_1 a0_2 a0_3 a0_3 0 0).bind fun bt124 => (if 0 ≤ bt124.1 then (if bt124.1 < (y120.length : Int) then (mintime_space_left.l0 k (y120.set (bt124.1 : Int).toNat 1) (([(⟨a0_3, 0, 0⟩ : S33)] : List (S33))) a0_0 a0_1 a0_2 a0_3) else (none)) else (none)))) else (none)) else (none)) = some r := H
 have A2 := Aside0.mk A20
 clear A20
 by_cases c3 : 0 ≤ t119
 ·
  rw [if_pos c3] at H
  have c3b0 := eq_true c3
  have c3b1 : decide (0 ≤ t119) = true := decide_eq_true c3
  clear c3
  by_cases c4 : (t119 : Int).toNat ≤ 35184372088832
  ·
   rw [if_pos c4] at H
   have c4b0 := eq_true c4
   have c4b1 : decide ((t119 : Int).toNat ≤ 35184372088832) = true := decide_eq_true c4
   clear c4
   obtain ⟨y120, hy120⟩ : ∃ y_ : List Int, y_ = (List.replicate (t119 : Int).toNat 0) := ⟨_, rfl⟩
   replace H : ((mintime_space_of.f a0_0 a0_1 a0_2 a0_3 a0_3 0 0).bind fun bt124 => (if 0 ≤ bt124.1 then (if bt124.1 < (y120.length : Int) then (mintime_space_left.l0 k (y120.set (bt124.1 : Int).toNat 1) (([(⟨a0_3, 0, 0⟩ : S33)] : List (S33))) a0_0 a0_1 a0_2 a0_3) else (none)) else (none))) = some r := by first | (rw [hy120]; with_reducible exact H) | (have H2_ := (Option.bind_some _ _).symm.trans H; rw [hy120]; with_reducible exact H2_) | (have H2_ := (Option.bind_some _ _).symm.trans H; with_reducible exact H2_) | with_reducible exact H | (rw [hy120]; exact H) | exact H
   have Ny120 := Aside0.mk hy120
   clear hy120
   replace H := Option.bind_eq_some_iff.mp H
   obtain ⟨⟨t124, t125⟩, A50, H⟩ := H
   replace H : (if 0 ≤ t124 then (if t124 < (y120.length : Int) then (mintime_space_left.l0 k (y120.set (t124 : Int).toNat 1) (([(⟨a0_3, 0, 0⟩ : S33)] : List (S33))) a0_0 a0_1 a0_2 a0_3) else (none)) else (none)) = some r := H
   have A5 := Aside0.mk A50
   clear A50
   by_cases c6 : 0 ≤ t124
   ·
    rw [if_pos c6] at H
    have c6b0 : decide (0 ≤ t124) = true := decide_eq_true c6
    clear c6
    by_cases c7 : t124 < (y120.length : Int)
    ·
     rw [if_pos c7] at H
     have c7b0 : decide (t124 < (y120.length : Int)) = true := decide_eq_true c7
     clear c7
     obtain ⟨y126, hy126⟩ : ∃ y_ : List Int, y_ = (y120.set (t124 : Int).toNat 1) := ⟨_, rfl⟩
     replace H : (mintime_space_left.l0 k y126 (([(⟨a0_3, 0, 0⟩ : S33)] : List (S33))) a0_0 a0_1 a0_2 a0_3) = some r := by first | (rw [hy126]; with_reducible exact H) | (have H2_ := (Option.bind_some _ _).symm.trans H; rw [hy126]; with_reducible exact H2_) | (have H2_ := (Option.bind_some _ _).symm.trans H; with_reducible exact H2_) | with_reducible exact H | (rw [hy126]; exact H) | exact H
     have Ny126 := Aside0.mk hy126
     clear hy126
     obtain ⟨y127, hy127⟩ : ∃ y_ : List (S33), y_ = (([(⟨a0_3, 0, 0⟩ : S33)] : List (S33))) := ⟨_, rfl⟩
     replace H : (mintime_space_left.l0 k y126 y127 a0_0 a0_1 a0_2 a0_3) = some r := by first | (rw [hy127]; with_reducible exact H) | (have H2_ := (Option.bind_some _ _).symm.trans H; rw [hy127]; with_reducible exact H2_) | (have H2_ := (Option.bind_some _ _).symm.trans H; with_reducible exact H2_) | with_reducible exact H | (rw [hy127]; exact H) | exact H
     have Ny127 := Aside0.mk hy127
     clear hy127
     have H' := Aside0.mk H
     clear H
     go_enter Try.func49, Try.ntmps49
     go_wp2_with (first | ((with_reducible refine gate_dst (N := 1) rfl ?_); refine box_event ?hg (N := 1) ?hd (cs := #[.int .i64 a0_0, .int .i64 a0_1, .int .i64 a0_2, .int .i64 a0_3]) (t := 98) ?hr ?_; (case hd => rfl); (case hg => rfl); (case hr => first | (go_simp; done) | (go_simp; rfl)); intro gb118 hg w9 hbox hb; have n0_ := Aside0.mk (below_step hb_ hb); have n1_ := Aside0.mk (hbox); have n2_ := Aside0.mk (sz_ hg : w.heap.size ≤ gb118); have n3_ := Aside0.mk (sz_ hg : w.heap.size ≤ gb118); clear HB; have HB := n0_; have BK118 := n1_; have GW118 := n2_; have GE118 := n3_; clear n0_ n1_ n2_ n3_; clear hb hbox hg; have hcz10_0 : w9.cell? ⟨gb118, 0, none⟩ = some (.int .i64 a0_0) := (blk_cell BK118.out 0).trans rfl; have hcz10_1 : w9.cell? ⟨gb118, 1, none⟩ = some (.int .i64 a0_1) := (blk_cell BK118.out 1).trans rfl; have hcz10_2 : w9.cell? ⟨gb118, 2, none⟩ = some (.int .i64 a0_2) := (blk_cell BK118.out 2).trans rfl; have hcz10_3 : w9.cell? ⟨gb118, 3, none⟩ = some (.int .i64 a0_3) := (blk_cell BK118.out 3).trans rfl; have hfz10_0 := blk_frozen BK118.out 0; have hfz10_1 := blk_frozen BK118.out 1; have hfz10_2 := blk_frozen BK118.out 2; have hfz10_3 := blk_frozen BK118.out 3))
     apply wp_scope_straight
     go_wp2_with (first | ((with_reducible refine gate_callee (f := 74) rfl ?_); refine goesL_ (some 17) rfl rfl Try.func74 (by kernel_rfl) rfl #[.agg #[.int .i64 a0_0, .int .i64 a0_1, .int .i64 a0_2, .int .i64 a0_3]] rfl (by (try simp only [List.map_toArray, List.map_cons, List.map_nil]); first | done | rfl | (simp only [List.length_drop, List.length_take]; rfl)) ?_; (with_reducible refine (mintime_space_many.calls a0_0 a0_1 a0_2 a0_3 t119 _ A2.out).mono ?_); rintro e w11 ⟨rfl, hb⟩; refine ⟨_, rfl, ?_⟩; have n0_ := Aside0.mk (bb_ BK118.out hb); have n1_ := Aside0.mk (below_step hb_ hb); clear BK118; clear HB; have BK118 := n0_; have HB := n1_; clear n0_ n1_; (try clear hb); (try clear hb2); (try clear hk); (try clear hi)) | ((with_reducible refine gate_dst (N := 18) rfl ?_); refine Kd.R_make (Kd.int .i64) _ 3 rfl (N := 18) rfl 27 _ _ rfl t119 rfl rfl Try.underlying27 (.int .i64 0) 8 info3 rfl (by decide) (by omega) 0 (ok := fun _ => True) (okp := fun _ => True) rfl (fun _ hk => hk) trivial (od_) (Nat.le_trans (Nat.mul_le_mul_right _ (od_ : t119.toNat ≤ 35184372088832)) (by omega)) (Below.refl _ _) (Nat.le_refl _) ?_; intro v121 w12 ho13 hb hg_ hnew_; clear hg_ hnew_; (first | rw [← Ny120.out] at ho13 | (simp only [Int.reduceToNat] at ho13; rw [← Ny120.out] at ho13)); have n0_ := Aside0.mk (Kd.R_lower ho13 (below_size hb_)); have n1_ := Aside0.mk (bb_ BK118.out hb); have n2_ := Aside0.mk (below_step hb_ hb); clear BK118; clear HB; have HO122 := n0_; have BK118 := n1_; have HB := n2_; clear n0_ n1_ n2_; clear hb ho13; have hcz14_0 : w12.cell? ⟨gb118, 0, none⟩ = some (.int .i64 a0_0) := (blk_cell BK118.out 0).trans rfl; have hcz14_1 : w12.cell? ⟨gb118, 1, none⟩ = some (.int .i64 a0_1) := (blk_cell BK118.out 1).trans rfl; have hcz14_2 : w12.cell? ⟨gb118, 2, none⟩ = some (.int .i64 a0_2) := (blk_cell BK118.out 2).trans rfl; have hcz14_3 : w12.cell? ⟨gb118, 3, none⟩ = some (.int .i64 a0_3) := (blk_cell BK118.out 3).trans rfl; have hfz14_0 := blk_frozen BK118.out 0; have hfz14_1 := blk_frozen BK118.out 1; have hfz14_2 := blk_frozen BK118.out 2; have hfz14_3 := blk_frozen BK118.out 3) | ((with_reducible refine gate_dst (N := 5) rfl ?_); refine box_event ?hg (N := 5) ?hd (cs := #[.int .i64 0, .int .i64 0, .int .i64 0]) (t := 33) ?hr ?_; (case hd => rfl); (case hg => rfl); (case hr => first | (go_simp; done) | (go_simp; rfl)); intro gb123 hg w15 hbox hb; have n0_ := Aside0.mk (Kd.R_below (rk_ HO122.out) hb); have n1_ := Aside0.mk (bb_ BK118.out hb); have n2_ := Aside0.mk (below_step hb_ hb); have n3_ := Aside0.mk (hbox); have n4_ := Aside0.mk (sz_ hg : w.heap.size ≤ gb123); have n5_ := Aside0.mk (sz_ hg : w.heap.size ≤ gb123); have n6_ := Aside0.mk ((by rw [hg]; exact Nat.ne_of_lt (bl_ BK118.out) : gb118 ≠ gb123)); have n7_ := Aside0.mk ((by rw [hg]; exact Nat.ne_of_gt (bl_ BK118.out) : gb123 ≠ gb118)); clear HO122; clear BK118; clear HB; have HO122 := n0_; have BK118 := n1_; have HB := n2_; have BK123 := n3_; have GW123 := n4_; have GE123 := n5_; have NB118_123 := n6_; have NB123_118 := n7_; clear n0_ n1_ n2_ n3_ n4_ n5_ n6_ n7_; clear hb hbox hg; have hnb16 := NB123_118.out; have hnc16 := NB118_123.out; have hcz17_0 : w15.cell? ⟨gb123, 0, none⟩ = some (.int .i64 0) := (blk_cell BK123.out 0).trans rfl; have hcz17_1 : w15.cell? ⟨gb123, 1, none⟩ = some (.int .i64 0) := (blk_cell BK123.out 1).trans rfl; have hcz17_2 : w15.cell? ⟨gb123, 2, none⟩ = some (.int .i64 0) := (blk_cell BK123.out 2).trans rfl; have hfz17_0 := blk_frozen BK123.out 0; have hfz17_1 := blk_frozen BK123.out 1; have hfz17_2 := blk_frozen BK123.out 2; have hcz18_0 : w15.cell? ⟨gb118, 0, none⟩ = some (.int .i64 a0_0) := (blk_cell BK118.out 0).trans rfl; have hcz18_1 : w15.cell? ⟨gb118, 1, none⟩ = some (.int .i64 a0_1) := (blk_cell BK118.out 1).trans rfl; have hcz18_2 : w15.cell? ⟨gb118, 2, none⟩ = some (.int .i64 a0_2) := (blk_cell BK118.out 2).trans rfl; have hcz18_3 : w15.cell? ⟨gb118, 3, none⟩ = some (.int .i64 a0_3) := (blk_cell BK118.out 3).trans rfl; have hfz18_0 := blk_frozen BK118.out 0; have hfz18_1 := blk_frozen BK118.out 1; have hfz18_2 := blk_frozen BK118.out 2; have hfz18_3 := blk_frozen BK118.out 3) | (go_at_call 50; (with_reducible refine (mintime_space_of.calls a0_0 a0_1 a0_2 a0_3 a0_3 0 0 t124 t125 _ A5.out).mono ?_); rintro e w19 ⟨rfl, hb⟩; have n0_ := Aside0.mk (Kd.R_below (by (with_reducible repeat (first | apply Kd.R_alloc | apply Kd.R_drewN | apply Kd.R_drew)); exact (Kd.R_mono (Kd.R_far (p := ⟨gb123, 2, none⟩) (Kd.R_far (p := ⟨gb123, 1, none⟩) (Kd.R_far (p := ⟨gb123, 0, none⟩) (Kd.R_types HO122.out BK123.out (by decide)) (fun _ hk => hk.2) (.int .i64 a0_3)) (fun _ hk => hk.2) (.int .i64 0)) (fun _ hk => hk.2) (.int .i64 0)) (fun _ h_ => h_.1))) hb); have n1_ := Aside0.mk (blk_below (g := gb118) (o := .cells #[.int .i64 a0_0, .int .i64 a0_1, .int .i64 a0_2, .int .i64 a0_3] 98 (0, 0)) (by (with_reducible repeat (first | refine blk_drewN ?_ _ | refine blk_drew ?_ | refine blk_alloc ?_ _)); refine blk_far ?_ NB118_123.out _; (with_reducible repeat (first | refine blk_drewN ?_ _ | refine blk_drew ?_ | refine blk_alloc ?_ _)); refine blk_far ?_ NB118_123.out _; (with_reducible repeat (first | refine blk_drewN ?_ _ | refine blk_drew ?_ | refine blk_alloc ?_ _)); refine blk_far ?_ NB118_123.out _; (with_reducible repeat (first | refine blk_drewN ?_ _ | refine blk_drew ?_ | refine blk_alloc ?_ _)); exact BK118.out) hb); have n2_ := Aside0.mk (blk_below (g := gb123) (o := .cells #[.int .i64 a0_3, .int .i64 0, .int .i64 0] 33 (0, 0)) (by (with_reducible repeat (first | refine blk_drewN ?_ _ | refine blk_drew ?_ | refine blk_alloc ?_ _)); refine blk_put (cs := #[.int .i64 a0_3, .int .i64 0, .int .i64 0]) ?_ 2 _ rfl; (with_reducible repeat (first | refine blk_drewN ?_ _ | refine blk_drew ?_ | refine blk_alloc ?_ _)); refine blk_put (cs := #[.int .i64 a0_3, .int .i64 0, .int .i64 0]) ?_ 1 _ rfl; (with_reducible repeat (first | refine blk_drewN ?_ _ | refine blk_drew ?_ | refine blk_alloc ?_ _)); refine blk_put (cs := #[.int .i64 0, .int .i64 0, .int .i64 0]) ?_ 0 _ rfl; (with_reducible repeat (first | refine blk_drewN ?_ _ | refine blk_drew ?_ | refine blk_alloc ?_ _)); exact BK123.out) hb); have n3_ := Aside0.mk (below_step hb_ hb); clear HO122; clear BK118; clear BK123; clear HB; have HO122 := n0_; have BK118 := n1_; have BK123 := n2_; have HB := n3_; clear n0_ n1_ n2_ n3_; (try clear hb); (try clear hb2); (try clear hk); (try clear hi); have p8 : 0 ≤ (t124 : Int) := od_; have q8 : (t124 : Int) < ((y120.length : Int) : Int) := od_; obtain ⟨go8, co8, eo8, gb8, gl8, cl8, HG8⟩ := Kd.R_form HO122.out (by omega); (first | cases eo8 | (injection eo8 with ea_ en_ ec_; (first | subst ea_ | (injection ea_ with ea_; subst ea_)); subst ec_; clear en_)); have GB8 := Aside0.mk gb8; have GG8 := Aside0.mk HG8; clear gb8 gl8 HG8; obtain ⟨hx8_0, hf8_0⟩ := Kd.R_celln 0 HO122.out (t124 : Int) p8 q8; replace p8 := eq_true p8; replace q8 := eq_true q8; obtain ⟨hy20_, hz20_⟩ := Kd.R_celln 0 HO122.out (t124 : Int) (od_) (od_); have HP20 := Kd.R_putg HO122.out (t124 : Int) 1) | ((with_reducible refine gate_store (t := 3) (p := 32) rfl ?_); refine store_event (t := 3) (p := 32) (v := ?vo_w21) (w1 := (w19.setCell ⟨go8, (t124 : Int).toNat, none⟩ (.int .i64 1))) ?hg ?ho ?hn ?hr ?_; (case ho => rfl); (case hg => rfl); (case hn => rfl); (case hr => first | (go_simp; done) | (go_simp; rfl)); intro w21 hw; have hg : w19.grownBy w21 (some go8) := (by rw [hw]; exact HP20.2); have hp_ : Kd.R (Kd.int .i64) 3 w21 w.heap.size (fun _ => True) (.slice (some ⟨go8, 0, none⟩) y120.length co8) y126 := (by rw [hw, Ny126.out]; exact HP20.1); clear HP20; have n0_ := Aside0.mk (bg_ BK118.out hg (Kd.R_ne HO122.out BK118.out (by decide))); have n1_ := Aside0.mk (hp_); have n2_ := Aside0.mk (bg_ BK123.out hg (Kd.R_ne HO122.out BK123.out (by decide))); have n3_ := Aside0.mk ((by rw [hw]; exact below_set (HB.out) GB8.out : Below w.heap.size w w21)); clear BK118; clear HO122; clear BK123; clear HB; have BK118 := n0_; have HO122 := n1_; have BK123 := n2_; have HB := n3_; clear n0_ n1_ n2_ n3_; clear hg hw hp_; have hcz22_0 : w21.cell? ⟨gb123, 0, none⟩ = some (.int .i64 a0_3) := (blk_cell BK123.out 0).trans rfl; have hcz22_1 : w21.cell? ⟨gb123, 1, none⟩ = some (.int .i64 0) := (blk_cell BK123.out 1).trans rfl; have hcz22_2 : w21.cell? ⟨gb123, 2, none⟩ = some (.int .i64 0) := (blk_cell BK123.out 2).trans rfl; have hfz22_0 := blk_frozen BK123.out 0; have hfz22_1 := blk_frozen BK123.out 1; have hfz22_2 := blk_frozen BK123.out 2) | ((with_reducible refine gate_dst (N := 34) rfl ?_); refine Kd.R_lit k33 _ 33 ?hg (N := 34) ?hd (xs := ([(⟨a0_3, 0, 0⟩ : S33)] : List (S33))) (inner := [.int .i64 a0_3, .int .i64 0, .int .i64 0]) (ok := fun _ => True) (okp := fun _ => True) ?hr ?hp (fun _ hk => hk) trivial (Below.refl _ _) (Nat.le_refl _) (by simp) ?_; (case hd => rfl); (case hg => rfl); (case hr => first | (go_simp; done) | (go_simp; rfl)); (case hp => exact (Reps.c3 (show Kd.M k33 _ _ _ (⟨a0_3, 0, 0⟩ : S33) [.int .i64 a0_3, .int .i64 0, .int .i64 0] from (k33_mkM _ _ _ (⟨a0_3, 0, 0⟩ : S33) )) (Reps.none _ _))); intro v128 w23 ho24 hb hg_ hnew_; clear hg_ hnew_; (first | rw [← Ny127.out] at ho24 | (simp only [Int.reduceToNat] at ho24; rw [← Ny127.out] at ho24)); have n0_ := Aside0.mk (Kd.R_below (rk_ HO122.out) hb); have n1_ := Aside0.mk (Kd.R_lower (Kd.R_newB ho24 (g := gb123) (o := .cells #[.int .i64 a0_3, .int .i64 0, .int .i64 0] 33 (0, 0)) (bk_ BK123.out)) (below_size hb_)); have n2_ := Aside0.mk (bb_ BK118.out hb); have n3_ := Aside0.mk (bb_ BK123.out hb); have n4_ := Aside0.mk (below_step hb_ hb); clear HO122; clear BK118; clear BK123; clear HB; have HO122 := n0_; have HO129 := n1_; have BK118 := n2_; have BK123 := n3_; have HB := n4_; clear n0_ n1_ n2_ n3_ n4_; clear hb ho24))
     apply wp_label
     go_wp2
     go_loopg [8] k (fun kq v8 w' => ∃ (x3_1 : List Int) (x8_1 : List (S33)), Aside0 (mintime_space_left.l0 kq x3_1 x8_1 a0_0 a0_1 a0_2 a0_3 = some r) ∧ Aside0 (kq ≤ k) ∧ Aside0 (Kd.R (Kd.int .i64) 3 w' w.heap.size (fun _ => True) (.slice (some ⟨go8, 0, none⟩) y120.length co8) x3_1) ∧ Aside0 (Kd.Q k33 33 w' w.heap.size (fun k_ => k_ ≠ gb123) v8 x8_1) ∧ Aside0 (w'.heap[gb118]? = some (.cells #[.int .i64 a0_0, .int .i64 a0_1, .int .i64 a0_2, .int .i64 a0_3] 98 (0, 0))) ∧ Aside0 (w'.heap[gb123]? = some (.cells #[.int .i64 a0_3, .int .i64 0, .int .i64 0] 33 (0, 0))) ∧ Aside0 (Below w.heap.size w w'))
     case atStart => exact ⟨(y126), (y127), H', ⟨Nat.le_refl _⟩, ⟨by (with_reducible repeat (first | apply Kd.R_alloc | apply Kd.R_drewN | apply Kd.R_drew)); exact HO122.out⟩, ⟨Kd.Q_of_R (by (with_reducible repeat (first | apply Kd.R_alloc | apply Kd.R_drewN | apply Kd.R_drew)); exact Kd.R_mono HO129.out (fun _ hk => hk.2))⟩, ⟨by (with_reducible repeat (first | refine blk_drewN ?_ _ | refine blk_drew ?_ | refine blk_alloc ?_ _)); exact BK118.out⟩, ⟨by (with_reducible repeat (first | refine blk_drewN ?_ _ | refine blk_drew ?_ | refine blk_alloc ?_ _)); exact BK123.out⟩, ⟨by repeat (first | (with_reducible first | exact HB.out | apply below_alloc | apply pw_below_drewN | apply below_drew1 | refine below_set ?_ GE118.out | refine below_set ?_ GE123.out) | exact HB.out)⟩⟩
     case round =>
      clear H'
      try clear c1
      try clear p2
      try clear c3
      try clear c3b0
      try clear c3b1
      try clear c4
      try clear c4b0
      try clear c4b1
      try clear c5
      try clear c6
      try clear c6b0
      try clear c7
      try clear c7b0
      try clear p8
      try clear q8
      try clear hx8
      try clear hf8
      try clear c16
      try clear hcz10_0
      try clear hcz10_1
      try clear hcz10_2
      try clear hcz10_3
      try clear hcz14_0
      try clear hcz14_1
      try clear hcz14_2
      try clear hcz14_3
      try clear hcz17_0
      try clear hcz17_1
      try clear hcz17_2
      try clear hcz18_0
      try clear hcz18_1
      try clear hcz18_2
      try clear hcz18_3
      try clear hcz22_0
      try clear hcz22_1
      try clear hcz22_2
      try clear hfz10_0
      try clear hfz10_1
      try clear hfz10_2
      try clear hfz10_3
      try clear hfz14_0
      try clear hfz14_1
      try clear hfz14_2
      try clear hfz14_3
      try clear hfz17_0
      try clear hfz17_1
      try clear hfz17_2
      try clear hfz18_0
      try clear hfz18_1
      try clear hfz18_2
      try clear hfz18_3
      try clear hfz22_0
      try clear hfz22_1
      try clear hfz22_2
      try clear hx8_0
      try clear p8
      try clear q8
      obtain ⟨x3_1, x8_1, HA, HK1, HO_3, HO_8, BK118, BK123, HB⟩ := hrel
      have hl3_1 := (Kd.R_reads' HO_3.out).1
      rw [hl3_1] at HO_3
      (try simp only [hl3_1])
      (try simp only [hl3_1] at BK118)
      (try simp only [hl3_1] at BK123)
      (try simp only [hl3_1] at HO_8)
      cases gk with
      | zero => exact absurd HA.out (by simp [mintime_space_left.l0])
      | succ k1 =>
       have H := HA.out
       clear HA
       simp only [mintime_space_left.l0] at H
       by_cases c25 : (x8_1.length : Int) > 0
       ·
        rw [if_pos c25] at H
        have c25b0 : decide (0 < (x8_1.length : Int)) = true := decide_eq_true c25
        have c25b1 : decide (0 < x8_1.length) = true := decide_eq_true (by omega)
        clear c25
        by_cases c26 : 0 < (x8_1.length : Int)
        ·
         rw [if_pos c26] at H
         have c26b0 : decide (0 < (x8_1.length : Int)) = true := decide_eq_true c26
         have c26b1 : decide (0 < x8_1.length) = true := decide_eq_true (by omega)
         clear c26
         by_cases c27 : 1 ≤ (x8_1.length : Int)
         ·
          rw [if_pos c27] at H
          have c27b0 := eq_true c27
          have c27b1 : decide (1 ≤ (x8_1.length : Int)) = true := decide_eq_true c27
          clear c27
          obtain ⟨y132, hy132⟩ : ∃ y_ : List (S33), y_ = (x8_1.drop (1 : Int).toNat) := ⟨_, rfl⟩
          replace H : ((mintime_space_of.f a0_0 a0_1 a0_2 a0_3 ((rd_T33 x8_1 0).f0) ((rd_T33 x8_1 0).f1) ((rd_T33 x8_1 0).f2)).bind fun bt135 => (mintime_space_left.l1 k1 x3_1 y132 bt135.1 (wrap64 (-a0_2)) a0_0 a0_1 a0_2 a0_3 ((rd_T33 x8_1 0).f0) ((rd_T33 x8_1 0).f1) ((rd_T33 x8_1 0).f2))) = some r := by first | (rw [hy132]; with_reducible exact H) | (have H2_ := (Option.bind_some _ _).symm.trans H; rw [hy132]; with_reducible exact H2_) | (have H2_ := (Option.bind_some _ _).symm.trans H; with_reducible exact H2_) | with_reducible exact H | (rw [hy132]; exact H) | exact H
          have Ny132 := Aside0.mk hy132
          clear hy132
          replace H := Option.bind_eq_some_iff.mp H
          obtain ⟨⟨t135, t136⟩, A280, H⟩ := H
          replace H : (mintime_space_left.l1 k1 x3_1 y132 t135 (wrap64 (-a0_2)) a0_0 a0_1 a0_2 a0_3 ((rd_T33 x8_1 0).f0) ((rd_T33 x8_1 0).f1) ((rd_T33 x8_1 0).f2)) = some r := H
          have A28 := Aside0.mk A280
          clear A280
          have H' := Aside0.mk H
          clear H
          obtain ⟨Ao29, co29, eo29, _⟩ := Kd.Q_slice HO_8.out
          subst eo29
          have p130 : 0 ≤ (0 : Int) := (by omega)
          have q130 : 0 < (x8_1.length : Int) := od_
          obtain ⟨ad130, e130, hx130_0, hx130_1, hx130_2⟩ := at_T33 (Kd.Q_reads' HO_8.out).2.2 0 p130 q130
          cases e130
          have qi130 : (0 < x8_1.length) = True := eq_true (by omega)
          (try rw [show ((0 : Int)).toNat = 0 from rfl] at hx130_0)
          (try rw [show 0 * 3 = 0 from rfl] at hx130_0)
          (try rw [Addr.add_zero'] at hx130_0)
          (try rw [show ((0 : Int)).toNat = 0 from rfl] at hx130_1)
          (try rw [show 0 * 3 = 0 from rfl] at hx130_1)
          (try rw [Addr.add_zero'] at hx130_1)
          (try rw [show ((0 : Int)).toNat = 0 from rfl] at hx130_2)
          (try rw [show 0 * 3 = 0 from rfl] at hx130_2)
          (try rw [Addr.add_zero'] at hx130_2)
          replace p130 := eq_true p130
          replace q130 := eq_true q130
          go_wp2_with (first | ((with_reducible refine gate_dst (N := 9) rfl ?_); refine box_event ?hg (N := 9) ?hd (cs := #[.int .i64 0, .int .i64 0, .int .i64 0]) (t := 33) ?hr ?_; (case hd => rfl); (case hg => rfl); (case hr => first | (go_simp; done) | (go_simp; rfl)); intro gb131 hg w30 hbox hb; have n0_ := Aside0.mk (Kd.R_below (rk_ HO_3.out) hb); have n1_ := Aside0.mk (Kd.Q_below (Kd.Q_elderB (qk_ HO_8.out) gb131 (Nat.le_of_eq hg.symm)) hb); have n2_ := Aside0.mk (bb_ BK118.out hb); have n3_ := Aside0.mk (bb_ BK123.out hb); have n4_ := Aside0.mk (below_step hb_ hb); have n5_ := Aside0.mk (hbox); have n6_ := Aside0.mk (sz_ hg : w.heap.size ≤ gb131); have n7_ := Aside0.mk (sz_ hg : w.heap.size ≤ gb131); have n8_ := Aside0.mk ((by rw [hg]; exact Nat.ne_of_lt (bl_ BK118.out) : gb118 ≠ gb131)); have n9_ := Aside0.mk ((by rw [hg]; exact Nat.ne_of_gt (bl_ BK118.out) : gb131 ≠ gb118)); have n10_ := Aside0.mk ((by rw [hg]; exact Nat.ne_of_lt (bl_ BK123.out) : gb123 ≠ gb131)); have n11_ := Aside0.mk ((by rw [hg]; exact Nat.ne_of_gt (bl_ BK123.out) : gb131 ≠ gb123)); clear HO_3; clear HO_8; clear BK118; clear BK123; clear HB; have HO_3 := n0_; have HO_8 := n1_; have BK118 := n2_; have BK123 := n3_; have HB := n4_; have BK131 := n5_; have GW131 := n6_; have GE131 := n7_; have NB118_131 := n8_; have NB131_118 := n9_; have NB123_131 := n10_; have NB131_123 := n11_; clear n0_ n1_ n2_ n3_ n4_ n5_ n6_ n7_ n8_ n9_ n10_ n11_; clear hb hbox hg; have hnb31 := NB131_118.out; have hnc31 := NB118_131.out; have hnb32 := NB131_123.out; have hnc32 := NB123_131.out; have hcz33_0 : w30.cell? ⟨gb131, 0, none⟩ = some (.int .i64 0) := (blk_cell BK131.out 0).trans rfl; have hcz33_1 : w30.cell? ⟨gb131, 1, none⟩ = some (.int .i64 0) := (blk_cell BK131.out 1).trans rfl; have hcz33_2 : w30.cell? ⟨gb131, 2, none⟩ = some (.int .i64 0) := (blk_cell BK131.out 2).trans rfl; have hfz33_0 := blk_frozen BK131.out 0; have hfz33_1 := blk_frozen BK131.out 1; have hfz33_2 := blk_frozen BK131.out 2) | ((with_reducible refine gate_store (t := 33) (p := 9) rfl ?_); refine store_event (t := 33) (p := 9) (v := ?vo_w34) (w1 := (((w30.setCell ⟨gb131, 0, none⟩ (.int .i64 ((rd_T33 x8_1 0).f0))).setCell ⟨gb131, 1, none⟩ (.int .i64 ((rd_T33 x8_1 0).f1))).setCell ⟨gb131, 2, none⟩ (.int .i64 ((rd_T33 x8_1 0).f2)))) ?hg ?ho ?hn ?hr ?_; (case ho => rfl); (case hg => rfl); (case hn => rfl); (case hr => first | (go_simp; done) | (go_simp; rfl)); intro w34 hw; have n0_ : Aside0 (Kd.R (Kd.int .i64) 3 w34 w.heap.size (fun _ => True) (.slice (some ⟨go8, 0, none⟩) x3_1.length co8) x3_1) := ⟨(by rw [hw]; exact (by (with_reducible repeat (first | apply Kd.R_alloc | apply Kd.R_drewN | apply Kd.R_drew)); exact Kd.R_mono (Kd.R_far (p := ⟨gb131, 2, none⟩) (Kd.R_far (p := ⟨gb131, 1, none⟩) (Kd.R_far (p := ⟨gb131, 0, none⟩) (Kd.R_types HO_3.out BK131.out (by decide)) (fun _ hk => hk.2) (.int .i64 ((rd_T33 x8_1 0).f0))) (fun _ hk => hk.2) (.int .i64 ((rd_T33 x8_1 0).f1))) (fun _ hk => hk.2) (.int .i64 ((rd_T33 x8_1 0).f2))) (fun _ hk => trivial)))⟩; have n1_ : Aside0 (Kd.Q k33 33 w34 w.heap.size (fun k_ => k_ ≠ gb123 ∧ k_ ≠ gb131) (.slice (some ad130) x8_1.length co29) x8_1) := ⟨(by rw [hw]; exact (by (with_reducible repeat (first | apply Kd.Q_alloc | apply Kd.Q_drewN | apply Kd.Q_drew)); exact Kd.Q_mono (Kd.Q_far (p := ⟨gb131, 2, none⟩) (Kd.Q_far (p := ⟨gb131, 1, none⟩) (Kd.Q_far (p := ⟨gb131, 0, none⟩) (Kd.Q_mono HO_8.out (fun k_ hk => (⟨hk, hk.2⟩ : _ ∧ k_ ≠ gb131))) (fun _ hk => hk.2) (.int .i64 ((rd_T33 x8_1 0).f0))) (fun _ hk => hk.2) (.int .i64 ((rd_T33 x8_1 0).f1))) (fun _ hk => hk.2) (.int .i64 ((rd_T33 x8_1 0).f2))) (fun _ hk => ⟨hk.1.1, hk.1.2⟩)))⟩; have n2_ : Aside0 (w34.heap[gb118]? = some (.cells #[.int .i64 a0_0, .int .i64 a0_1, .int .i64 a0_2, .int .i64 a0_3] 98 (0, 0))) := ⟨(by rw [hw]; exact (by (with_reducible repeat (first | refine blk_drewN ?_ _ | refine blk_drew ?_ | refine blk_alloc ?_ _)); refine blk_far ?_ NB118_131.out _; (with_reducible repeat (first | refine blk_drewN ?_ _ | refine blk_drew ?_ | refine blk_alloc ?_ _)); refine blk_far ?_ NB118_131.out _; (with_reducible repeat (first | refine blk_drewN ?_ _ | refine blk_drew ?_ | refine blk_alloc ?_ _)); refine blk_far ?_ NB118_131.out _; (with_reducible repeat (first | refine blk_drewN ?_ _ | refine blk_drew ?_ | refine blk_alloc ?_ _)); exact BK118.out))⟩; have n3_ : Aside0 (w34.heap[gb123]? = some (.cells #[.int .i64 a0_3, .int .i64 0, .int .i64 0] 33 (0, 0))) := ⟨(by rw [hw]; exact (by (with_reducible repeat (first | refine blk_drewN ?_ _ | refine blk_drew ?_ | refine blk_alloc ?_ _)); refine blk_far ?_ NB123_131.out _; (with_reducible repeat (first | refine blk_drewN ?_ _ | refine blk_drew ?_ | refine blk_alloc ?_ _)); refine blk_far ?_ NB123_131.out _; (with_reducible repeat (first | refine blk_drewN ?_ _ | refine blk_drew ?_ | refine blk_alloc ?_ _)); refine blk_far ?_ NB123_131.out _; (with_reducible repeat (first | refine blk_drewN ?_ _ | refine blk_drew ?_ | refine blk_alloc ?_ _)); exact BK123.out))⟩; have n4_ : Aside0 (w34.heap[gb131]? = some (.cells #[.int .i64 ((rd_T33 x8_1 0).f0), .int .i64 ((rd_T33 x8_1 0).f1), .int .i64 ((rd_T33 x8_1 0).f2)] 33 (0, 0))) := ⟨(by rw [hw]; exact (by (with_reducible repeat (first | refine blk_drewN ?_ _ | refine blk_drew ?_ | refine blk_alloc ?_ _)); refine blk_put (cs := #[.int .i64 ((rd_T33 x8_1 0).f0), .int .i64 ((rd_T33 x8_1 0).f1), .int .i64 0]) ?_ 2 _ rfl; (with_reducible repeat (first | refine blk_drewN ?_ _ | refine blk_drew ?_ | refine blk_alloc ?_ _)); refine blk_put (cs := #[.int .i64 ((rd_T33 x8_1 0).f0), .int .i64 0, .int .i64 0]) ?_ 1 _ rfl; (with_reducible repeat (first | refine blk_drewN ?_ _ | refine blk_drew ?_ | refine blk_alloc ?_ _)); refine blk_put (cs := #[.int .i64 0, .int .i64 0, .int .i64 0]) ?_ 0 _ rfl; (with_reducible repeat (first | refine blk_drewN ?_ _ | refine blk_drew ?_ | refine blk_alloc ?_ _)); exact BK131.out))⟩; have n5_ : Aside0 (Below w.heap.size w w34) := ⟨(by rw [hw]; exact hb_)⟩; clear hw; clear HO_3; clear HO_8; clear BK118; clear BK123; clear BK131; clear HB; have HO_3 := n0_; have HO_8 := n1_; have BK118 := n2_; have BK123 := n3_; have BK131 := n4_; have HB := n5_; clear n0_ n1_ n2_ n3_ n4_ n5_; have q35 : (1 : Int) ≤ ((x8_1.length : Int) : Int) := od_; obtain ⟨i035, hi035, _, hsz35, _⟩ := info_parts info33; have hcut35 := cut_from (P := Try.prog) 38 33 .i64 Try.underlying38 hi035 3 hsz35 (some ad130) x8_1.length co29 1 (by omega) q35; have hr35 := Kd.Q_drop (k := (1 : Int).toNat) HO_8.out (by omega); obtain ⟨A35, hA35⟩ : ∃ A1, A1 = (if co29 = (1 : Int).toNat then (some ad130) else ((some ad130) : Option Addr).map (·.add ((1 : Int).toNat * 3))) := ⟨_, rfl⟩; obtain ⟨c35, hc35⟩ : ∃ c1, c1 = co29 - (1 : Int).toNat := ⟨_, rfl⟩; have hy35 : y132.length = x8_1.length - (1 : Int).toNat := (by rw [Ny132.out, List.length_drop]); rw [← Ny132.out] at hr35; rw [← hy35, ← hA35, ← hc35] at hcut35; replace hr35 : Kd.Q k33 33 w34 w.heap.size (fun k_ => k_ ≠ gb123 ∧ k_ ≠ gb131) (.slice A35 y132.length c35) y132 := (by rw [hA35, hc35, hy35]; exact hr35); have HE35 : Aside0 ((Value.slice A35 y132.length c35).ownBlock = (.slice (some ad130) x8_1.length co29 : Value).ownBlock) := ⟨by rw [hA35]; split <;> (cases ((some ad130) : Option Addr) <;> rfl)⟩; clear hy35 hi035 hsz35 HO_8 hA35 hc35; have HO134 := Aside0.mk hr35; clear hr35; replace q35 := eq_true q35; have hnb36 := NB118_123.out; have hnc36 := NB123_118.out; have hcz37_0 : w34.cell? ⟨gb118, 0, none⟩ = some (.int .i64 a0_0) := (blk_cell BK118.out 0).trans rfl; have hcz37_1 : w34.cell? ⟨gb118, 1, none⟩ = some (.int .i64 a0_1) := (blk_cell BK118.out 1).trans rfl; have hcz37_2 : w34.cell? ⟨gb118, 2, none⟩ = some (.int .i64 a0_2) := (blk_cell BK118.out 2).trans rfl; have hcz37_3 : w34.cell? ⟨gb118, 3, none⟩ = some (.int .i64 a0_3) := (blk_cell BK118.out 3).trans rfl; have hfz37_0 := blk_frozen BK118.out 0; have hfz37_1 := blk_frozen BK118.out 1; have hfz37_2 := blk_frozen BK118.out 2; have hfz37_3 := blk_frozen BK118.out 3; have hcz38_0 : w34.cell? ⟨gb131, 0, none⟩ = some (.int .i64 ((rd_T33 x8_1 0).f0)) := (blk_cell BK131.out 0).trans rfl; have hcz38_1 : w34.cell? ⟨gb131, 1, none⟩ = some (.int .i64 ((rd_T33 x8_1 0).f1)) := (blk_cell BK131.out 1).trans rfl; have hcz38_2 : w34.cell? ⟨gb131, 2, none⟩ = some (.int .i64 ((rd_T33 x8_1 0).f2)) := (blk_cell BK131.out 2).trans rfl; have hfz38_0 := blk_frozen BK131.out 0; have hfz38_1 := blk_frozen BK131.out 1; have hfz38_2 := blk_frozen BK131.out 2) | (go_at_call 50; (with_reducible refine (mintime_space_of.calls a0_0 a0_1 a0_2 a0_3 ((rd_T33 x8_1 0).f0) ((rd_T33 x8_1 0).f1) ((rd_T33 x8_1 0).f2) t135 t136 _ A28.out).mono ?_); rintro e w39 ⟨rfl, hb⟩; have n0_ := Aside0.mk (Kd.R_below (rk_ HO_3.out) hb); have n1_ := Aside0.mk (Kd.Q_below (qk_ HO134.out) hb); have n2_ := Aside0.mk (bb_ BK118.out hb); have n3_ := Aside0.mk (bb_ BK123.out hb); have n4_ := Aside0.mk (bb_ BK131.out hb); have n5_ := Aside0.mk (below_step hb_ hb); clear HO_3; clear HO134; clear BK118; clear BK123; clear BK131; clear HB; have HO_3 := n0_; have HO134 := n1_; have BK118 := n2_; have BK123 := n3_; have BK131 := n4_; have HB := n5_; clear n0_ n1_ n2_ n3_ n4_ n5_; (try clear hb); (try clear hb2); (try clear hk); (try clear hi); have hcz40_0 : w39.cell? ⟨gb118, 0, none⟩ = some (.int .i64 a0_0) := (blk_cell BK118.out 0).trans rfl; have hcz40_1 : w39.cell? ⟨gb118, 1, none⟩ = some (.int .i64 a0_1) := (blk_cell BK118.out 1).trans rfl; have hcz40_2 : w39.cell? ⟨gb118, 2, none⟩ = some (.int .i64 a0_2) := (blk_cell BK118.out 2).trans rfl; have hcz40_3 : w39.cell? ⟨gb118, 3, none⟩ = some (.int .i64 a0_3) := (blk_cell BK118.out 3).trans rfl; have hfz40_0 := blk_frozen BK118.out 0; have hfz40_1 := blk_frozen BK118.out 1; have hfz40_2 := blk_frozen BK118.out 2; have hfz40_3 := blk_frozen BK118.out 3))
          go_loopg [8, 12] k1 (fun kq v8 v12 w' => ∃ (x3_2 : List Int) (x8_2 : List (S33)) (x12_2 : Int), v12 = .int .i64 x12_2 ∧ Aside0 (mintime_space_left.l1 kq x3_2 x8_2 t135 x12_2 a0_0 a0_1 a0_2 a0_3 ((rd_T33 x8_1 0).f0) ((rd_T33 x8_1 0).f1) ((rd_T33 x8_1 0).f2) = some r) ∧ Aside0 (kq ≤ k1) ∧ Aside0 (Kd.R (Kd.int .i64) 3 w' w.heap.size (fun _ => True) (.slice (some ⟨go8, 0, none⟩) x3_1.length co8) x3_2) ∧ Aside0 (Kd.Q k33 33 w' w.heap.size (fun k_ => k_ ≠ gb123 ∧ k_ ≠ gb131) v8 x8_2) ∧ Aside0 (w'.heap[gb118]? = some (.cells #[.int .i64 a0_0, .int .i64 a0_1, .int .i64 a0_2, .int .i64 a0_3] 98 (0, 0))) ∧ Aside0 (w'.heap[gb123]? = some (.cells #[.int .i64 a0_3, .int .i64 0, .int .i64 0] 33 (0, 0))) ∧ Aside0 (w'.heap[gb131]? = some (.cells #[.int .i64 ((rd_T33 x8_1 0).f0), .int .i64 ((rd_T33 x8_1 0).f1), .int .i64 ((rd_T33 x8_1 0).f2)] 33 (0, 0))) ∧ Aside0 (Below w.heap.size w w'))
          case atStart => exact ⟨(x3_1), (y132), (wrap64 (-a0_2)), (by first | rfl | (simp; done) | (simp [*]; done)), H', ⟨Nat.le_refl _⟩, ⟨by (try simp only [hl3_1]); (with_reducible repeat (first | apply Kd.R_alloc | apply Kd.R_drewN | apply Kd.R_drew)); exact HO_3.out⟩, ⟨by (try simp only [hl3_1]); (with_reducible repeat (first | apply Kd.Q_alloc | apply Kd.Q_drewN | apply Kd.Q_drew)); exact HO134.out⟩, ⟨by (try simp only [hl3_1]); (with_reducible repeat (first | refine blk_drewN ?_ _ | refine blk_drew ?_ | refine blk_alloc ?_ _)); exact BK118.out⟩, ⟨by (try simp only [hl3_1]); (with_reducible repeat (first | refine blk_drewN ?_ _ | refine blk_drew ?_ | refine blk_alloc ?_ _)); exact BK123.out⟩, ⟨by (try simp only [hl3_1]); (with_reducible repeat (first | refine blk_drewN ?_ _ | refine blk_drew ?_ | refine blk_alloc ?_ _)); exact BK131.out⟩, ⟨by repeat (first | (with_reducible first | exact HB.out | apply below_alloc | apply pw_below_drewN | apply below_drew1 | refine below_set ?_ GE118.out | refine below_set ?_ GE123.out | refine below_set ?_ GE131.out) | exact HB.out)⟩⟩
          case round =>
           clear H'
           try clear c1
           try clear p1
           try clear q1
           try clear hx1
           try clear qi1
           try clear c2
           try clear p2
           try clear c3
           try clear c3b0
           try clear c3b1
           try clear q3
           try clear c4
           try clear c4b0
           try clear c4b1
           try clear c5
           try clear c6
           try clear c6b0
           try clear p6
           try clear c7
           try clear c7b0
           try clear p8
           try clear q8
           try clear hx8
           try clear hf8
           try clear p13
           try clear q13
           try clear hx13
           try clear qi13
           try clear c16
           try clear c25
           try clear c25b0
           try clear c25b1
           try clear c26
           try clear c26b0
           try clear c26b1
           try clear c27
           try clear c27b0
           try clear c27b1
           try clear c31
           try clear c32
           try clear c35
           try clear q35
           try clear c36
           try clear hcz10_0
           try clear hcz10_1
           try clear hcz10_2
           try clear hcz10_3
           try clear hcz14_0
           try clear hcz14_1
           try clear hcz14_2
           try clear hcz14_3
           try clear hcz17_0
           try clear hcz17_1
           try clear hcz17_2
           try clear hcz18_0
           try clear hcz18_1
           try clear hcz18_2
           try clear hcz18_3
           try clear hcz22_0
           try clear hcz22_1
           try clear hcz22_2
           try clear hcz33_0
           try clear hcz33_1
           try clear hcz33_2
           try clear hcz37_0
           try clear hcz37_1
           try clear hcz37_2
           try clear hcz37_3
           try clear hcz38_0
           try clear hcz38_1
           try clear hcz38_2
           try clear hcz40_0
           try clear hcz40_1
           try clear hcz40_2
           try clear hcz40_3
           try clear hfz10_0
           try clear hfz10_1
           try clear hfz10_2
           try clear hfz10_3
           try clear hfz14_0
           try clear hfz14_1
           try clear hfz14_2
           try clear hfz14_3
           try clear hfz17_0
           try clear hfz17_1
           try clear hfz17_2
           try clear hfz18_0
           try clear hfz18_1
           try clear hfz18_2
           try clear hfz18_3
           try clear hfz22_0
           try clear hfz22_1
           try clear hfz22_2
           try clear hfz33_0
           try clear hfz33_1
           try clear hfz33_2
           try clear hfz37_0
           try clear hfz37_1
           try clear hfz37_2
           try clear hfz37_3
           try clear hfz38_0
           try clear hfz38_1
           try clear hfz38_2
           try clear hfz40_0
           try clear hfz40_1
           try clear hfz40_2
           try clear hfz40_3
           try clear hx130_0
           try clear hx130_1
           try clear hx130_2
           try clear hx8_0
           try clear p130
           try clear p2
           try clear p8
           try clear q130
           try clear q35
           try clear q8
           obtain ⟨x3_2, x8_2, x12_2, rfl, HA, HK2, HO_3, HO_8, BK118, BK123, BK131, HB⟩ := hrel
           have hl3_2 := (Kd.R_reads' HO_3.out).1
           rw [hl3_2] at HO_3
           (try simp only [hl3_2])
           (try simp only [hl3_2] at BK118)
           (try simp only [hl3_2] at BK123)
           (try simp only [hl3_2] at BK131)
           (try simp only [hl3_2] at HO_8)
           cases gk with
           | zero => exact absurd HA.out (by simp [mintime_space_left.l1])
           | succ k2 =>
            have H := HA.out
            clear HA
            simp only [mintime_space_left.l1] at H
            by_cases c41 : x12_2 ≤ a0_2
            ·
             rw [if_pos c41] at H
             have c41b0 : decide (x12_2 ≤ a0_2) = true := decide_eq_true c41
             clear c41
             replace H := Option.bind_eq_some_iff.mp H
             obtain ⟨⟨t137, t138, t139⟩, A420, H⟩ := H
             replace H : ((mintime_space_of.f a0_0 a0_1 a0_2 a0_3 t137 t138 t139).bind fun bt141 => (if bt141.2 = true then (if 0 ≤ bt141.1 then (if bt141.1 < (x3_2.length : Int) then (mintime_space_left.j2 k2 x3_2 x8_2 t135 x12_2 bt141.1 (decide ((rd x3_2 bt141.1) > 0)) a0_0 a0_1 a0_2 a0_3 ((rd_T33 x8_1 0).f0) ((rd_T33 x8_1 0).f1) ((rd_T33 x8_1 0).f2) t137 t138 t139) else (none)) else (none)) else (mintime_space_left.j2 k2 x3_2 x8_2 t135 x12_2 bt141.1 true a0_0 a0_1 a0_2 a0_3 ((rd_T33 x8_1 0).f0) ((rd_T33 x8_1 0).f1) ((rd_T33 x8_1 0).f2) t137 t138 t139))) = some r := H
             have A42 := Aside0.mk A420
             clear A420
             replace H := Option.bind_eq_some_iff.mp H
             obtain ⟨⟨t141, t142⟩, A430, H⟩ := H
             replace H : (if t142 = true then (if 0 ≤ t141 then (if t141 < (x3_2.length : Int) then (mintime_space_left.j2 k2 x3_2 x8_2 t135 x12_2 t141 (decide ((rd x3_2 t141) > 0)) a0_0 a0_1 a0_2 a0_3 ((rd_T33 x8_1 0).f0) ((rd_T33 x8_1 0).f1) ((rd_T33 x8_1 0).f2) t137 t138 t139) else (none)) else (none)) else (mintime_space_left.j2 k2 x3_2 x8_2 t135 x12_2 t141 true a0_0 a0_1 a0_2 a0_3 ((rd_T33 x8_1 0).f0) ((rd_T33 x8_1 0).f1) ((rd_T33 x8_1 0).f2) t137 t138 t139)) = some r := H
             have A43 := Aside0.mk A430
             clear A430
             have HC44 := Aside0.mk H
             clear H
             have hnb45 := NB118_123.out
             have hnc45 := NB123_118.out
             have hnb46 := NB118_131.out
             have hnc46 := NB131_118.out
             have hcz47_0 : wr.cell? ⟨gb118, 0, none⟩ = some (.int .i64 a0_0) := (blk_cell BK118.out 0).trans rfl
             have hcz47_1 : wr.cell? ⟨gb118, 1, none⟩ = some (.int .i64 a0_1) := (blk_cell BK118.out 1).trans rfl
             have hcz47_2 : wr.cell? ⟨gb118, 2, none⟩ = some (.int .i64 a0_2) := (blk_cell BK118.out 2).trans rfl
             have hcz47_3 : wr.cell? ⟨gb118, 3, none⟩ = some (.int .i64 a0_3) := (blk_cell BK118.out 3).trans rfl
             have hfz47_0 := blk_frozen BK118.out 0
             have hfz47_1 := blk_frozen BK118.out 1
             have hfz47_2 := blk_frozen BK118.out 2
             have hfz47_3 := blk_frozen BK118.out 3
             have hnb48 := NB131_123.out
             have hnc48 := NB123_131.out
             have hcz49_0 : wr.cell? ⟨gb131, 0, none⟩ = some (.int .i64 ((rd_T33 x8_1 0).f0)) := (blk_cell BK131.out 0).trans rfl
             have hcz49_1 : wr.cell? ⟨gb131, 1, none⟩ = some (.int .i64 ((rd_T33 x8_1 0).f1)) := (blk_cell BK131.out 1).trans rfl
             have hcz49_2 : wr.cell? ⟨gb131, 2, none⟩ = some (.int .i64 ((rd_T33 x8_1 0).f2)) := (blk_cell BK131.out 2).trans rfl
             have hfz49_0 := blk_frozen BK131.out 0
             have hfz49_1 := blk_frozen BK131.out 1
             have hfz49_2 := blk_frozen BK131.out 2
             go_upto_region 16 with (first | ((with_reducible refine gate_callee (f := 75) rfl ?_); refine goesL_ (some 62) rfl rfl Try.func75 (by kernel_rfl) rfl #[.agg #[.int .i64 ((rd_T33 x8_1 0).f0), .int .i64 ((rd_T33 x8_1 0).f1), .int .i64 ((rd_T33 x8_1 0).f2)], .int .i64 x12_2] rfl (by (try simp only [List.map_toArray, List.map_cons, List.map_nil]); first | done | rfl | (simp only [List.length_drop, List.length_take]; rfl)) ?_; (with_reducible refine (mintime_ahead.calls ((rd_T33 x8_1 0).f0) ((rd_T33 x8_1 0).f1) ((rd_T33 x8_1 0).f2) x12_2 t137 t138 t139 _ A42.out).mono ?_); rintro e w50 ⟨rfl, hb⟩; refine ⟨_, rfl, ?_⟩; have n0_ := Aside0.mk (Kd.R_below (rk_ HO_3.out) hb); have n1_ := Aside0.mk (Kd.Q_below (qk_ HO_8.out) hb); have n2_ := Aside0.mk (bb_ BK118.out hb); have n3_ := Aside0.mk (bb_ BK123.out hb); have n4_ := Aside0.mk (bb_ BK131.out hb); have n5_ := Aside0.mk (below_step hb_ hb); clear HO_3; clear HO_8; clear BK118; clear BK123; clear BK131; clear HB; have HO_3 := n0_; have HO_8 := n1_; have BK118 := n2_; have BK123 := n3_; have BK131 := n4_; have HB := n5_; clear n0_ n1_ n2_ n3_ n4_ n5_; (try clear hb); (try clear hb2); (try clear hk); (try clear hi)) | ((with_reducible refine gate_dst (N := 13) rfl ?_); refine box_event ?hg (N := 13) ?hd (cs := #[.int .i64 0, .int .i64 0, .int .i64 0]) (t := 33) ?hr ?_; (case hd => rfl); (case hg => rfl); (case hr => first | (go_simp; done) | (go_simp; rfl)); intro gb140 hg w51 hbox hb; have n0_ := Aside0.mk (Kd.R_below (rk_ HO_3.out) hb); have n1_ := Aside0.mk (Kd.Q_below (Kd.Q_elderB (qk_ HO_8.out) gb140 (Nat.le_of_eq hg.symm)) hb); have n2_ := Aside0.mk (bb_ BK118.out hb); have n3_ := Aside0.mk (bb_ BK123.out hb); have n4_ := Aside0.mk (bb_ BK131.out hb); have n5_ := Aside0.mk (below_step hb_ hb); have n6_ := Aside0.mk (hbox); have n7_ := Aside0.mk (sz_ hg : w.heap.size ≤ gb140); have n8_ := Aside0.mk (sz_ hg : w.heap.size ≤ gb140); have n9_ := Aside0.mk ((by rw [hg]; exact Nat.ne_of_lt (bl_ BK118.out) : gb118 ≠ gb140)); have n10_ := Aside0.mk ((by rw [hg]; exact Nat.ne_of_gt (bl_ BK118.out) : gb140 ≠ gb118)); have n11_ := Aside0.mk ((by rw [hg]; exact Nat.ne_of_lt (bl_ BK123.out) : gb123 ≠ gb140)); have n12_ := Aside0.mk ((by rw [hg]; exact Nat.ne_of_gt (bl_ BK123.out) : gb140 ≠ gb123)); have n13_ := Aside0.mk ((by rw [hg]; exact Nat.ne_of_lt (bl_ BK131.out) : gb131 ≠ gb140)); have n14_ := Aside0.mk ((by rw [hg]; exact Nat.ne_of_gt (bl_ BK131.out) : gb140 ≠ gb131)); clear HO_3; clear HO_8; clear BK118; clear BK123; clear BK131; clear HB; have HO_3 := n0_; have HO_8 := n1_; have BK118 := n2_; have BK123 := n3_; have BK131 := n4_; have HB := n5_; have BK140 := n6_; have GW140 := n7_; have GE140 := n8_; have NB118_140 := n9_; have NB140_118 := n10_; have NB123_140 := n11_; have NB140_123 := n12_; have NB131_140 := n13_; have NB140_131 := n14_; clear n0_ n1_ n2_ n3_ n4_ n5_ n6_ n7_ n8_ n9_ n10_ n11_ n12_ n13_ n14_; clear hb hbox hg; have hnb52 := NB140_118.out; have hnc52 := NB118_140.out; have hnb53 := NB140_123.out; have hnc53 := NB123_140.out; have hnb54 := NB140_131.out; have hnc54 := NB131_140.out; have hcz55_0 : w51.cell? ⟨gb140, 0, none⟩ = some (.int .i64 0) := (blk_cell BK140.out 0).trans rfl; have hcz55_1 : w51.cell? ⟨gb140, 1, none⟩ = some (.int .i64 0) := (blk_cell BK140.out 1).trans rfl; have hcz55_2 : w51.cell? ⟨gb140, 2, none⟩ = some (.int .i64 0) := (blk_cell BK140.out 2).trans rfl; have hfz55_0 := blk_frozen BK140.out 0; have hfz55_1 := blk_frozen BK140.out 1; have hfz55_2 := blk_frozen BK140.out 2; have hcz56_0 : w51.cell? ⟨gb118, 0, none⟩ = some (.int .i64 a0_0) := (blk_cell BK118.out 0).trans rfl; have hcz56_1 : w51.cell? ⟨gb118, 1, none⟩ = some (.int .i64 a0_1) := (blk_cell BK118.out 1).trans rfl; have hcz56_2 : w51.cell? ⟨gb118, 2, none⟩ = some (.int .i64 a0_2) := (blk_cell BK118.out 2).trans rfl; have hcz56_3 : w51.cell? ⟨gb118, 3, none⟩ = some (.int .i64 a0_3) := (blk_cell BK118.out 3).trans rfl; have hfz56_0 := blk_frozen BK118.out 0; have hfz56_1 := blk_frozen BK118.out 1; have hfz56_2 := blk_frozen BK118.out 2; have hfz56_3 := blk_frozen BK118.out 3) | (go_at_call 50; (with_reducible refine (mintime_space_of.calls a0_0 a0_1 a0_2 a0_3 t137 t138 t139 t141 t142 _ A43.out).mono ?_); rintro e w57 ⟨rfl, hb⟩; have n0_ := Aside0.mk (Kd.R_below (by (with_reducible repeat (first | apply Kd.R_alloc | apply Kd.R_drewN | apply Kd.R_drew)); exact (Kd.R_mono (Kd.R_far (p := ⟨gb140, 2, none⟩) (Kd.R_far (p := ⟨gb140, 1, none⟩) (Kd.R_far (p := ⟨gb140, 0, none⟩) (Kd.R_types HO_3.out BK140.out (by decide)) (fun _ hk => hk.2) (.int .i64 t137)) (fun _ hk => hk.2) (.int .i64 t138)) (fun _ hk => hk.2) (.int .i64 t139)) (fun _ h_ => h_.1))) hb); have n1_ := Aside0.mk (Kd.Q_below (by (with_reducible repeat (first | apply Kd.Q_alloc | apply Kd.Q_drewN | apply Kd.Q_drew)); exact (Kd.Q_mono (Kd.Q_far (p := ⟨gb140, 2, none⟩) (Kd.Q_far (p := ⟨gb140, 1, none⟩) (Kd.Q_far (p := ⟨gb140, 0, none⟩) (Kd.Q_mono HO_8.out (fun k_ hk => (⟨hk, hk.2⟩ : _ ∧ k_ ≠ gb140))) (fun _ hk => hk.2) (.int .i64 t137)) (fun _ hk => hk.2) (.int .i64 t138)) (fun _ hk => hk.2) (.int .i64 t139)) (fun _ h_ => h_.1))) hb); have n2_ := Aside0.mk (blk_below (g := gb118) (o := .cells #[.int .i64 a0_0, .int .i64 a0_1, .int .i64 a0_2, .int .i64 a0_3] 98 (0, 0)) (by (with_reducible repeat (first | refine blk_drewN ?_ _ | refine blk_drew ?_ | refine blk_alloc ?_ _)); refine blk_far ?_ NB118_140.out _; (with_reducible repeat (first | refine blk_drewN ?_ _ | refine blk_drew ?_ | refine blk_alloc ?_ _)); refine blk_far ?_ NB118_140.out _; (with_reducible repeat (first | refine blk_drewN ?_ _ | refine blk_drew ?_ | refine blk_alloc ?_ _)); refine blk_far ?_ NB118_140.out _; (with_reducible repeat (first | refine blk_drewN ?_ _ | refine blk_drew ?_ | refine blk_alloc ?_ _)); exact BK118.out) hb); have n3_ := Aside0.mk (blk_below (g := gb123) (o := .cells #[.int .i64 a0_3, .int .i64 0, .int .i64 0] 33 (0, 0)) (by (with_reducible repeat (first | refine blk_drewN ?_ _ | refine blk_drew ?_ | refine blk_alloc ?_ _)); refine blk_far ?_ NB123_140.out _; (with_reducible repeat (first | refine blk_drewN ?_ _ | refine blk_drew ?_ | refine blk_alloc ?_ _)); refine blk_far ?_ NB123_140.out _; (with_reducible repeat (first | refine blk_drewN ?_ _ | refine blk_drew ?_ | refine blk_alloc ?_ _)); refine blk_far ?_ NB123_140.out _; (with_reducible repeat (first | refine blk_drewN ?_ _ | refine blk_drew ?_ | refine blk_alloc ?_ _)); exact BK123.out) hb); have n4_ := Aside0.mk (blk_below (g := gb131) (o := .cells #[.int .i64 ((rd_T33 x8_1 0).f0), .int .i64 ((rd_T33 x8_1 0).f1), .int .i64 ((rd_T33 x8_1 0).f2)] 33 (0, 0)) (by (with_reducible repeat (first | refine blk_drewN ?_ _ | refine blk_drew ?_ | refine blk_alloc ?_ _)); refine blk_far ?_ NB131_140.out _; (with_reducible repeat (first | refine blk_drewN ?_ _ | refine blk_drew ?_ | refine blk_alloc ?_ _)); refine blk_far ?_ NB131_140.out _; (with_reducible repeat (first | refine blk_drewN ?_ _ | refine blk_drew ?_ | refine blk_alloc ?_ _)); refine blk_far ?_ NB131_140.out _; (with_reducible repeat (first | refine blk_drewN ?_ _ | refine blk_drew ?_ | refine blk_alloc ?_ _)); exact BK131.out) hb); have n5_ := Aside0.mk (blk_below (g := gb140) (o := .cells #[.int .i64 t137, .int .i64 t138, .int .i64 t139] 33 (0, 0)) (by (with_reducible repeat (first | refine blk_drewN ?_ _ | refine blk_drew ?_ | refine blk_alloc ?_ _)); refine blk_put (cs := #[.int .i64 t137, .int .i64 t138, .int .i64 0]) ?_ 2 _ rfl; (with_reducible repeat (first | refine blk_drewN ?_ _ | refine blk_drew ?_ | refine blk_alloc ?_ _)); refine blk_put (cs := #[.int .i64 t137, .int .i64 0, .int .i64 0]) ?_ 1 _ rfl; (with_reducible repeat (first | refine blk_drewN ?_ _ | refine blk_drew ?_ | refine blk_alloc ?_ _)); refine blk_put (cs := #[.int .i64 0, .int .i64 0, .int .i64 0]) ?_ 0 _ rfl; (with_reducible repeat (first | refine blk_drewN ?_ _ | refine blk_drew ?_ | refine blk_alloc ?_ _)); exact BK140.out) hb); have n6_ := Aside0.mk (below_step hb_ hb); clear HO_3; clear HO_8; clear BK118; clear BK123; clear BK131; clear BK140; clear HB; have HO_3 := n0_; have HO_8 := n1_; have BK118 := n2_; have BK123 := n3_; have BK131 := n4_; have BK140 := n5_; have HB := n6_; clear n0_ n1_ n2_ n3_ n4_ n5_ n6_; (try clear hb); (try clear hb2); (try clear hk); (try clear hi)))
             (try simp only [Act.put, List.setIfInBounds_toArray, List.set_cons_zero, List.set_cons_succ])
             go_cut [77] (fun v77 wc => ∃ (kq : Nat) (x77_43 : Bool), v77 = .bool x77_43 ∧ Aside0 (mintime_space_left.j2 kq x3_2 x8_2 t135 x12_2 t141 x77_43 a0_0 a0_1 a0_2 a0_3 ((rd_T33 x8_1 0).f0) ((rd_T33 x8_1 0).f1) ((rd_T33 x8_1 0).f2) t137 t138 t139 = some r) ∧ Aside0 (kq ≤ k2) ∧ Aside0 (Kd.R (Kd.int .i64) 3 wc w.heap.size (fun _ => True) (.slice (some ⟨go8, 0, none⟩) x3_2.length co8) x3_2) ∧ Aside0 (Kd.Q k33 33 wc w.heap.size (fun k_ => k_ ≠ gb123 ∧ k_ ≠ gb131 ∧ k_ ≠ gb140) u8 x8_2) ∧ Aside0 (wc.heap[gb118]? = some (.cells #[.int .i64 a0_0, .int .i64 a0_1, .int .i64 a0_2, .int .i64 a0_3] 98 (0, 0))) ∧ Aside0 (wc.heap[gb123]? = some (.cells #[.int .i64 a0_3, .int .i64 0, .int .i64 0] 33 (0, 0))) ∧ Aside0 (wc.heap[gb131]? = some (.cells #[.int .i64 ((rd_T33 x8_1 0).f0), .int .i64 ((rd_T33 x8_1 0).f1), .int .i64 ((rd_T33 x8_1 0).f2)] 33 (0, 0))) ∧ Aside0 (wc.heap[gb140]? = some (.cells #[.int .i64 t137, .int .i64 t138, .int .i64 t139] 33 (0, 0))) ∧ Aside0 (Below w.heap.size w wc))
             case first =>
              have H := HC44.out
              clear HC44
              by_cases c58 : t142 = true
              ·
               subst c58
               have H1 : (if 0 ≤ t141 then (if t141 < (x3_2.length : Int) then (mintime_space_left.j2 k2 x3_2 x8_2 t135 x12_2 t141 (decide ((rd x3_2 t141) > 0)) a0_0 a0_1 a0_2 a0_3 ((rd_T33 x8_1 0).f0) ((rd_T33 x8_1 0).f1) ((rd_T33 x8_1 0).f2) t137 t138 t139) else (none)) else (none)) = some r := by rw [if_pos rfl] at H; exact H
               clear H
               have H := H1
               clear H1
               by_cases c59 : 0 ≤ t141
               ·
                rw [if_pos c59] at H
                have c59b0 : decide (0 ≤ t141) = true := decide_eq_true c59
                clear c59
                (first | rw [c59b0] | (simp only [i64_w, i32_w]; rw [c59b0]) | skip)
                by_cases c60 : t141 < (x3_2.length : Int)
                ·
                 rw [if_pos c60] at H
                 have c60b0 : decide (t141 < (x3_2.length : Int)) = true := decide_eq_true c60
                 clear c60
                 have H' := Aside0.mk H
                 clear H
                 have p143 : 0 ≤ (t141 : Int) := od_
                 have q143 : t141 < (x3_2.length : Int) := od_
                 obtain ⟨ad143, e143, hx143_0⟩ := Kd.at_int (Kd.R_reads' HO_3.out).2.2 t141 p143 q143
                 obtain rfl : (⟨go8, 0, none⟩ : Addr) = ad143 := (by injection e143)
                 (first | simp only [add_plain] at hx143_0 | simp only [add_at] at hx143_0 | simp only [Addr.add, Nat.zero_add] at hx143_0 | skip)
                 replace p143 := eq_true p143
                 replace q143 := eq_true q143
                 go_wp2
                 go_meet
                 case rel => exact ⟨_, (decide ((rd x3_2 t141) > 0)), (by first | rfl | (simp; done) | (simp [*]; done)), H', ⟨by have := HK1.out; have := HK2.out; first | omega | exact Nat.le_refl _⟩, ⟨by (try simp only [hl3_1]); (try simp only [hl3_2]); (with_reducible repeat (first | apply Kd.R_alloc | apply Kd.R_drewN | apply Kd.R_drew)); exact HO_3.out⟩, ⟨by (try simp only [hl3_1]); (try simp only [hl3_2]); (with_reducible repeat (first | apply Kd.Q_alloc | apply Kd.Q_drewN | apply Kd.Q_drew)); exact Kd.Q_mono HO_8.out (fun _ hk => ⟨hk.1.1, ⟨hk.1.2, hk.2⟩⟩)⟩, ⟨by (try simp only [hl3_1]); (try simp only [hl3_2]); (with_reducible repeat (first | refine blk_drewN ?_ _ | refine blk_drew ?_ | refine blk_alloc ?_ _)); exact BK118.out⟩, ⟨by (try simp only [hl3_1]); (try simp only [hl3_2]); (with_reducible repeat (first | refine blk_drewN ?_ _ | refine blk_drew ?_ | refine blk_alloc ?_ _)); exact BK123.out⟩, ⟨by (try simp only [hl3_1]); (try simp only [hl3_2]); (with_reducible repeat (first | refine blk_drewN ?_ _ | refine blk_drew ?_ | refine blk_alloc ?_ _)); exact BK131.out⟩, ⟨by (try simp only [hl3_1]); (try simp only [hl3_2]); (with_reducible repeat (first | refine blk_drewN ?_ _ | refine blk_drew ?_ | refine blk_alloc ?_ _)); exact BK140.out⟩, ⟨by repeat (first | (with_reducible first | exact HB.out | apply below_alloc | apply pw_below_drewN | apply below_drew1 | refine below_set ?_ GE118.out | refine below_set ?_ GE123.out | refine below_set ?_ GE131.out | refine below_set ?_ GE140.out) | exact HB.out)⟩⟩
                ·
                 rw [if_neg c60] at H
                 exact absurd H (by simp)
               ·
                rw [if_neg c59] at H
                exact absurd H (by simp)
              ·
               replace c58 := Bool.eq_false_iff.mpr c58
               subst c58
               have H1 : (mintime_space_left.j2 k2 x3_2 x8_2 t135 x12_2 t141 true a0_0 a0_1 a0_2 a0_3 ((rd_T33 x8_1 0).f0) ((rd_T33 x8_1 0).f1) ((rd_T33 x8_1 0).f2) t137 t138 t139) = some r := by rw [if_neg (show ¬ (false = true) by decide)] at H; exact H
               clear H
               have H := H1
               clear H1
               have H' := Aside0.mk H
               clear H
               go_wp2
               go_meet
               case rel => exact ⟨_, (true), (by first | rfl | (simp; done) | (simp [*]; done)), H', ⟨by have := HK1.out; have := HK2.out; first | omega | exact Nat.le_refl _⟩, ⟨by (try simp only [hl3_1]); (try simp only [hl3_2]); (with_reducible repeat (first | apply Kd.R_alloc | apply Kd.R_drewN | apply Kd.R_drew)); exact HO_3.out⟩, ⟨by (try simp only [hl3_1]); (try simp only [hl3_2]); (with_reducible repeat (first | apply Kd.Q_alloc | apply Kd.Q_drewN | apply Kd.Q_drew)); exact Kd.Q_mono HO_8.out (fun _ hk => ⟨hk.1.1, ⟨hk.1.2, hk.2⟩⟩)⟩, ⟨by (try simp only [hl3_1]); (try simp only [hl3_2]); (with_reducible repeat (first | refine blk_drewN ?_ _ | refine blk_drew ?_ | refine blk_alloc ?_ _)); exact BK118.out⟩, ⟨by (try simp only [hl3_1]); (try simp only [hl3_2]); (with_reducible repeat (first | refine blk_drewN ?_ _ | refine blk_drew ?_ | refine blk_alloc ?_ _)); exact BK123.out⟩, ⟨by (try simp only [hl3_1]); (try simp only [hl3_2]); (with_reducible repeat (first | refine blk_drewN ?_ _ | refine blk_drew ?_ | refine blk_alloc ?_ _)); exact BK131.out⟩, ⟨by (try simp only [hl3_1]); (try simp only [hl3_2]); (with_reducible repeat (first | refine blk_drewN ?_ _ | refine blk_drew ?_ | refine blk_alloc ?_ _)); exact BK140.out⟩, ⟨by repeat (first | (with_reducible first | exact HB.out | apply below_alloc | apply pw_below_drewN | apply below_drew1 | refine below_set ?_ GE118.out | refine below_set ?_ GE123.out | refine below_set ?_ GE131.out | refine below_set ?_ GE140.out) | exact HB.out)⟩⟩
             case rest =>
              clear HC44
              try clear c1
              try clear p1
              try clear q1
              try clear hx1
              try clear qi1
              try clear c2
              try clear p2
              try clear c3
              try clear c3b0
              try clear c3b1
              try clear q3
              try clear c4
              try clear c4b0
              try clear c4b1
              try clear c5
              try clear c6
              try clear c6b0
              try clear p6
              try clear c7
              try clear c7b0
              try clear p8
              try clear q8
              try clear hx8
              try clear hf8
              try clear p13
              try clear q13
              try clear hx13
              try clear qi13
              try clear p14
              try clear q14
              try clear hx14
              try clear c16
              try clear c25
              try clear c25b0
              try clear c25b1
              try clear c26
              try clear c26b0
              try clear c26b1
              try clear c27
              try clear c27b0
              try clear c27b1
              try clear c31
              try clear c32
              try clear c35
              try clear q35
              try clear c36
              try clear c41
              try clear c41b0
              try clear c45
              try clear c46
              try clear c48
              try clear c49
              try clear c50
              try clear c52
              try clear c53
              try clear c54
              try clear c58
              try clear c59
              try clear c59b0
              try clear c60
              try clear c60b0
              try clear hcz10_0
              try clear hcz10_1
              try clear hcz10_2
              try clear hcz10_3
              try clear hcz14_0
              try clear hcz14_1
              try clear hcz14_2
              try clear hcz14_3
              try clear hcz17_0
              try clear hcz17_1
              try clear hcz17_2
              try clear hcz18_0
              try clear hcz18_1
              try clear hcz18_2
              try clear hcz18_3
              try clear hcz22_0
              try clear hcz22_1
              try clear hcz22_2
              try clear hcz33_0
              try clear hcz33_1
              try clear hcz33_2
              try clear hcz37_0
              try clear hcz37_1
              try clear hcz37_2
              try clear hcz37_3
              try clear hcz38_0
              try clear hcz38_1
              try clear hcz38_2
              try clear hcz40_0
              try clear hcz40_1
              try clear hcz40_2
              try clear hcz40_3
              try clear hcz47_0
              try clear hcz47_1
              try clear hcz47_2
              try clear hcz47_3
              try clear hcz49_0
              try clear hcz49_1
              try clear hcz49_2
              try clear hcz55_0
              try clear hcz55_1
              try clear hcz55_2
              try clear hcz56_0
              try clear hcz56_1
              try clear hcz56_2
              try clear hcz56_3
              try clear hfz10_0
              try clear hfz10_1
              try clear hfz10_2
              try clear hfz10_3
              try clear hfz14_0
              try clear hfz14_1
              try clear hfz14_2
              try clear hfz14_3
              try clear hfz17_0
              try clear hfz17_1
              try clear hfz17_2
              try clear hfz18_0
              try clear hfz18_1
              try clear hfz18_2
              try clear hfz18_3
              try clear hfz22_0
              try clear hfz22_1
              try clear hfz22_2
              try clear hfz33_0
              try clear hfz33_1
              try clear hfz33_2
              try clear hfz37_0
              try clear hfz37_1
              try clear hfz37_2
              try clear hfz37_3
              try clear hfz38_0
              try clear hfz38_1
              try clear hfz38_2
              try clear hfz40_0
              try clear hfz40_1
              try clear hfz40_2
              try clear hfz40_3
              try clear hfz47_0
              try clear hfz47_1
              try clear hfz47_2
              try clear hfz47_3
              try clear hfz49_0
              try clear hfz49_1
              try clear hfz49_2
              try clear hfz55_0
              try clear hfz55_1
              try clear hfz55_2
              try clear hfz56_0
              try clear hfz56_1
              try clear hfz56_2
              try clear hfz56_3
              try clear hx130_0
              try clear hx130_1
              try clear hx130_2
              try clear hx143_0
              try clear hx8_0
              try clear p1
              try clear p13
              try clear p130
              try clear p143
              try clear p2
              try clear p6
              try clear p8
              try clear q1
              try clear q13
              try clear q130
              try clear q143
              try clear q3
              try clear q35
              try clear q8
              obtain ⟨kq, x77_43, rfl, HA, HJ43, HO_3, HO_8, BK118, BK123, BK131, BK140, HB⟩ := hcut
              cases kq with
              | zero => exact absurd HA.out (by simp [mintime_space_left.j2])
              | succ kj43 =>
               have H := HA.out
               clear HA
               simp only [mintime_space_left.j2] at H
               by_cases c61 : x77_43 = true
               ·
                subst c61
                have H1 : (mintime_space_left.l1 kj43 x3_2 x8_2 t135 (wrap64 (x12_2 + 1)) a0_0 a0_1 a0_2 a0_3 ((rd_T33 x8_1 0).f0) ((rd_T33 x8_1 0).f1) ((rd_T33 x8_1 0).f2)) = some r := by rw [if_pos rfl] at H; exact H
                clear H
                have H := H1
                clear H1
                have H' := Aside0.mk H
                clear H
                go_wp2
                (try simp only [← hl3_2])
                go_roundg kj43
                case measure => have := HK1.out; have := HK2.out; have := HJ43.out; omega
                case rel => exact ⟨(x3_2), (x8_2), (wrap64 (x12_2 + 1)), (by first | rfl | (simp; done) | (simp [*]; done)), H', ⟨by have := HK1.out; have := HK2.out; have := HJ43.out; omega⟩, ⟨by (try simp only [hl3_1]); (try simp only [hl3_2]); (with_reducible repeat (first | apply Kd.R_alloc | apply Kd.R_drewN | apply Kd.R_drew)); exact HO_3.out⟩, ⟨by (try simp only [hl3_1]); (try simp only [hl3_2]); (with_reducible repeat (first | apply Kd.Q_alloc | apply Kd.Q_drewN | apply Kd.Q_drew)); exact Kd.Q_mono HO_8.out (fun _ hk => ⟨hk.1, hk.2.1⟩)⟩, ⟨by (try simp only [hl3_1]); (try simp only [hl3_2]); (with_reducible repeat (first | refine blk_drewN ?_ _ | refine blk_drew ?_ | refine blk_alloc ?_ _)); exact BK118.out⟩, ⟨by (try simp only [hl3_1]); (try simp only [hl3_2]); (with_reducible repeat (first | refine blk_drewN ?_ _ | refine blk_drew ?_ | refine blk_alloc ?_ _)); exact BK123.out⟩, ⟨by (try simp only [hl3_1]); (try simp only [hl3_2]); (with_reducible repeat (first | refine blk_drewN ?_ _ | refine blk_drew ?_ | refine blk_alloc ?_ _)); exact BK131.out⟩, ⟨by repeat (first | (with_reducible first | exact HB.out | apply below_alloc | apply pw_below_drewN | apply below_drew1 | refine below_set ?_ GE118.out | refine below_set ?_ GE123.out | refine below_set ?_ GE131.out | refine below_set ?_ GE140.out) | exact HB.out)⟩⟩
               ·
                replace c61 := Bool.eq_false_iff.mpr c61
                subst c61
                have H1 : (if 0 ≤ t135 then (if t135 < (x3_2.length : Int) then (if 0 ≤ t141 then (if t141 < (x3_2.length : Int) then ((some (x3_2.set (t141 : Int).toNat (wrap64 ((rd x3_2 t135) + 1)) : List Int)).bind fun y145 => (if (t137 == 0 && (t138 == 0 && (t139 == 0))) = true then (some y145) else (if x8_2.length < 5864062014805 then (mintime_space_left.l1 kj43 y145 (x8_2 ++ [(⟨t137, t138, t139⟩ : S33)]) t135 (wrap64 (x12_2 + 1)) a0_0 a0_1 a0_2 a0_3 ((rd_T33 x8_1 0).f0) ((rd_T33 x8_1 0).f1) ((rd_T33 x8_1 0).f2)) else (none)))) else (none)) else (none)) else (none)) else (none)) = some r := by rw [if_neg (show ¬ (false = true) by decide)] at H; exact H
                clear H
                have H := H1
                clear H1
                by_cases c62 : 0 ≤ t135
                ·
                 rw [if_pos c62] at H
                 have c62b0 : decide (0 ≤ t135) = true := decide_eq_true c62
                 clear c62
                 by_cases c63 : t135 < (x3_2.length : Int)
                 ·
                  rw [if_pos c63] at H
                  have c63b0 : decide (t135 < (x3_2.length : Int)) = true := decide_eq_true c63
                  clear c63
                  by_cases c64 : 0 ≤ t141
                  ·
                   rw [if_pos c64] at H
                   have c64b0 : decide (0 ≤ t141) = true := decide_eq_true c64
                   clear c64
                   by_cases c65 : t141 < (x3_2.length : Int)
                   ·
                    rw [if_pos c65] at H
                    have c65b0 : decide (t141 < (x3_2.length : Int)) = true := decide_eq_true c65
                    clear c65
                    obtain ⟨y145, hy145⟩ : ∃ y_ : List Int, y_ = (x3_2.set (t141 : Int).toNat (wrap64 ((rd x3_2 t135) + 1))) := ⟨_, rfl⟩
                    replace H : (if (t137 == 0 && (t138 == 0 && (t139 == 0))) = true then (some y145) else (if x8_2.length < 5864062014805 then (mintime_space_left.l1 kj43 y145 (x8_2 ++ [(⟨t137, t138, t139⟩ : S33)]) t135 (wrap64 (x12_2 + 1)) a0_0 a0_1 a0_2 a0_3 ((rd_T33 x8_1 0).f0) ((rd_T33 x8_1 0).f1) ((rd_T33 x8_1 0).f2)) else (none))) = some r := by first | (rw [hy145]; with_reducible exact H) | (have H2_ := (Option.bind_some _ _).symm.trans H; rw [hy145]; with_reducible exact H2_) | (have H2_ := (Option.bind_some _ _).symm.trans H; with_reducible exact H2_) | with_reducible exact H | (rw [hy145]; exact H) | exact H
                    have Ny145 := Aside0.mk hy145
                    clear hy145
                    by_cases c67 : (t137 == 0 && (t138 == 0 && (t139 == 0))) = true
                    ·
                     rw [if_pos c67] at H
                     have c67b0 : (t137 == 0 && (t138 == 0 && (t139 == 0))) = true := c67
                     clear c67
                     obtain rfl := Option.some.inj H
                     have p144 : 0 ≤ (t135 : Int) := od_
                     have q144 : t135 < (x3_2.length : Int) := od_
                     obtain ⟨ad144, e144, hx144_0⟩ := Kd.at_int (Kd.R_reads' HO_3.out).2.2 t135 p144 q144
                     obtain rfl : (⟨go8, 0, none⟩ : Addr) = ad144 := (by injection e144)
                     (first | simp only [add_plain] at hx144_0 | simp only [add_at] at hx144_0 | simp only [Addr.add, Nat.zero_add] at hx144_0 | skip)
                     replace p144 := eq_true p144
                     replace q144 := eq_true q144
                     have p66 : 0 ≤ (t141 : Int) := od_
                     have q66 : (t141 : Int) < ((x3_2.length : Int) : Int) := od_
                     obtain ⟨hx66_0, hf66_0⟩ := Kd.R_celln 0 HO_3.out (t141 : Int) p66 q66
                     replace p66 := eq_true p66
                     replace q66 := eq_true q66
                     have HP68 := Kd.R_putg HO_3.out (t141 : Int) (wrap64 ((rd x3_2 t135) + 1))
                     go_wp2_with (first | ((with_reducible refine gate_store (t := 3) (p := 85) rfl ?_); refine store_event (t := 3) (p := 85) (v := ?vo_w69) (w1 := (wc.setCell ⟨go8, (t141 : Int).toNat, none⟩ (.int .i64 (wrap64 ((rd x3_2 t135) + 1))))) ?hg ?ho ?hn ?hr ?_; (case ho => rfl); (case hg => rfl); (case hn => rfl); (case hr => first | (go_simp; done) | (go_simp; rfl)); intro w69 hw; have hg : wc.grownBy w69 (some go8) := (by rw [hw]; exact HP68.2); have hp_ : Kd.R (Kd.int .i64) 3 w69 w.heap.size (fun _ => True) (.slice (some ⟨go8, 0, none⟩) x3_2.length co8) y145 := (by rw [hw, Ny145.out]; exact HP68.1); clear HP68; have n0_ := Aside0.mk (hp_); have n1_ := Aside0.mk (Kd.Q_over' (v := (.slice (some ⟨go8, 0, none⟩) x3_2.length co8)) (qk_ HO_8.out) (Kd.R_typed HO_3.out) (by decide) hg); have n2_ := Aside0.mk (bg_ BK118.out hg (Kd.R_ne HO_3.out BK118.out (by decide))); have n3_ := Aside0.mk (bg_ BK123.out hg (Kd.R_ne HO_3.out BK123.out (by decide))); have n4_ := Aside0.mk (bg_ BK131.out hg (Kd.R_ne HO_3.out BK131.out (by decide))); have n5_ := Aside0.mk (bg_ BK140.out hg (Kd.R_ne HO_3.out BK140.out (by decide))); have n6_ := Aside0.mk ((by rw [hw]; exact below_set (HB.out) GB8.out : Below w.heap.size w w69)); clear HO_3; clear HO_8; clear BK118; clear BK123; clear BK131; clear BK140; clear HB; have HO_3 := n0_; have HO_8 := n1_; have BK118 := n2_; have BK123 := n3_; have BK131 := n4_; have BK140 := n5_; have HB := n6_; clear n0_ n1_ n2_ n3_ n4_ n5_ n6_; clear hg hw hp_; have hnb70 := NB140_118.out; have hnc70 := NB118_140.out; have hnb71 := NB140_123.out; have hnc71 := NB123_140.out; have hnb72 := NB140_131.out; have hnc72 := NB131_140.out; have hcz73_0 : w69.cell? ⟨gb140, 0, none⟩ = some (.int .i64 t137) := (blk_cell BK140.out 0).trans rfl; have hcz73_1 : w69.cell? ⟨gb140, 1, none⟩ = some (.int .i64 t138) := (blk_cell BK140.out 1).trans rfl; have hcz73_2 : w69.cell? ⟨gb140, 2, none⟩ = some (.int .i64 t139) := (blk_cell BK140.out 2).trans rfl; have hfz73_0 := blk_frozen BK140.out 0; have hfz73_1 := blk_frozen BK140.out 1; have hfz73_2 := blk_frozen BK140.out 2))
                     go_ret
                     exact ⟨_, by first | rfl | (simp [errW_none, errW_some] <;> rfl) | (simp [*, errW_none, errW_some] <;> rfl), by (with_reducible repeat (first | apply Kd.R_alloc | apply Kd.R_drewN | apply Kd.R_drew)); exact HO_3.out, by repeat (first | (with_reducible first | exact HB.out | apply below_alloc | apply pw_below_drewN | apply below_drew1 | refine below_set ?_ GE118.out | refine below_set ?_ GE123.out | refine below_set ?_ GE131.out | refine below_set ?_ GE140.out) | exact HB.out)⟩
                    ·
                     rw [if_neg c67] at H
                     have c67b0 : (t137 == 0 && (t138 == 0 && (t139 == 0))) = false := by simpa using c67
                     clear c67
                     by_cases c74 : x8_2.length < 5864062014805
                     ·
                      rw [if_pos c74] at H
                      have LMc74 := Aside0.mk c74
                      clear c74
                      obtain ⟨y146, hy146⟩ : ∃ y_ : List (S33), y_ = (x8_2 ++ [(⟨t137, t138, t139⟩ : S33)]) := ⟨_, rfl⟩
                      replace H : (mintime_space_left.l1 kj43 y145 y146 t135 (wrap64 (x12_2 + 1)) a0_0 a0_1 a0_2 a0_3 ((rd_T33 x8_1 0).f0) ((rd_T33 x8_1 0).f1) ((rd_T33 x8_1 0).f2)) = some r := by first | (rw [hy146]; with_reducible exact H) | (have H2_ := (Option.bind_some _ _).symm.trans H; rw [hy146]; with_reducible exact H2_) | (have H2_ := (Option.bind_some _ _).symm.trans H; with_reducible exact H2_) | with_reducible exact H | (rw [hy146]; exact H) | exact H
                      have Ny146 := Aside0.mk hy146
                      clear hy146
                      have H' := Aside0.mk H
                      clear H
                      have p144 : 0 ≤ (t135 : Int) := od_
                      have q144 : t135 < (x3_2.length : Int) := od_
                      obtain ⟨ad144, e144, hx144_0⟩ := Kd.at_int (Kd.R_reads' HO_3.out).2.2 t135 p144 q144
                      obtain rfl : (⟨go8, 0, none⟩ : Addr) = ad144 := (by injection e144)
                      (first | simp only [add_plain] at hx144_0 | simp only [add_at] at hx144_0 | simp only [Addr.add, Nat.zero_add] at hx144_0 | skip)
                      replace p144 := eq_true p144
                      replace q144 := eq_true q144
                      have p66 : 0 ≤ (t141 : Int) := od_
                      have q66 : (t141 : Int) < ((x3_2.length : Int) : Int) := od_
                      obtain ⟨hx66_0, hf66_0⟩ := Kd.R_celln 0 HO_3.out (t141 : Int) p66 q66
                      replace p66 := eq_true p66
                      replace q66 := eq_true q66
                      have HP75 := Kd.R_putg HO_3.out (t141 : Int) (wrap64 ((rd x3_2 t135) + 1))
                      go_wp2_with (first | ((with_reducible refine gate_store (t := 3) (p := 85) rfl ?_); refine store_event (t := 3) (p := 85) (v := ?vo_w76) (w1 := (wc.setCell ⟨go8, (t141 : Int).toNat, none⟩ (.int .i64 (wrap64 ((rd x3_2 t135) + 1))))) ?hg ?ho ?hn ?hr ?_; (case ho => rfl); (case hg => rfl); (case hn => rfl); (case hr => first | (go_simp; done) | (go_simp; rfl)); intro w76 hw; have hg : wc.grownBy w76 (some go8) := (by rw [hw]; exact HP75.2); have hp_ : Kd.R (Kd.int .i64) 3 w76 w.heap.size (fun _ => True) (.slice (some ⟨go8, 0, none⟩) x3_2.length co8) y145 := (by rw [hw, Ny145.out]; exact HP75.1); clear HP75; have n0_ := Aside0.mk (hp_); have n1_ := Aside0.mk (Kd.Q_over' (v := (.slice (some ⟨go8, 0, none⟩) x3_2.length co8)) (qk_ HO_8.out) (Kd.R_typed HO_3.out) (by decide) hg); have n2_ := Aside0.mk (bg_ BK118.out hg (Kd.R_ne HO_3.out BK118.out (by decide))); have n3_ := Aside0.mk (bg_ BK123.out hg (Kd.R_ne HO_3.out BK123.out (by decide))); have n4_ := Aside0.mk (bg_ BK131.out hg (Kd.R_ne HO_3.out BK131.out (by decide))); have n5_ := Aside0.mk (bg_ BK140.out hg (Kd.R_ne HO_3.out BK140.out (by decide))); have n6_ := Aside0.mk ((by rw [hw]; exact below_set (HB.out) GB8.out : Below w.heap.size w w76)); clear HO_3; clear HO_8; clear BK118; clear BK123; clear BK131; clear BK140; clear HB; have HO_3 := n0_; have HO_8 := n1_; have BK118 := n2_; have BK123 := n3_; have BK131 := n4_; have BK140 := n5_; have HB := n6_; clear n0_ n1_ n2_ n3_ n4_ n5_ n6_; clear hg hw hp_; have hnb77 := NB140_118.out; have hnc77 := NB118_140.out; have hnb78 := NB140_123.out; have hnc78 := NB123_140.out; have hnb79 := NB140_131.out; have hnc79 := NB131_140.out; have hcz80_0 : w76.cell? ⟨gb140, 0, none⟩ = some (.int .i64 t137) := (blk_cell BK140.out 0).trans rfl; have hcz80_1 : w76.cell? ⟨gb140, 1, none⟩ = some (.int .i64 t138) := (blk_cell BK140.out 1).trans rfl; have hcz80_2 : w76.cell? ⟨gb140, 2, none⟩ = some (.int .i64 t139) := (blk_cell BK140.out 2).trans rfl; have hfz80_0 := blk_frozen BK140.out 0; have hfz80_1 := blk_frozen BK140.out 1; have hfz80_2 := blk_frozen BK140.out 2) | ((with_reducible refine gate_builtin (b := .append) (xs := #[.tmp 89, .tmp 91]) rfl ?_); at_builtin; refine Kd.Q_append k33 (w0 := w) w.heap.size rfl (.tmp 89) (.tmp 91) 38 33 (.agg #[(.int .i64 0), (.int .i64 0), (.int .i64 0)]) 24 rfl Try.underlying38 info33 rfl (by decide) (by omega) u8 x8_2 (⟨t137, t138, t139⟩ : S33) [.int .i64 t137, .int .i64 t138, .int .i64 t139] (fun k_ => k_ ≠ gb123 ∧ k_ ≠ gb131 ∧ k_ ≠ gb140) (fun _ => False) rfl rfl ?aP (fun _ hk => hk.elim) ?aF ?aO ?aB ?aS ?aL ?_; (case aP => exact k33_mkM _ _ _ (⟨t137, t138, t139⟩ : S33)); (case aB => exact hb_); (case aF => exact (fun k_ hk => ⟨Kd.freshB (g := gb123) (o := .cells #[.int .i64 a0_3, .int .i64 0, .int .i64 0] 33 (0, 0)) (bk_ BK123.out) k_ hk, Kd.freshB (g := gb131) (o := .cells #[.int .i64 ((rd_T33 x8_1 0).f0), .int .i64 ((rd_T33 x8_1 0).f1), .int .i64 ((rd_T33 x8_1 0).f2)] 33 (0, 0)) (bk_ BK131.out) k_ hk, Kd.freshB (g := gb140) (o := .cells #[.int .i64 t137, .int .i64 t138, .int .i64 t139] 33 (0, 0)) (bk_ BK140.out) k_ hk⟩)); (case aO => exact (qk_ HO_8.out)); (case aS => exact (below_size hb_)); (case aL => have := LMc74.out; omega); intro v147 w81 ho hb hg hat; rw [← Ny146.out] at ho; have n0_ := Aside0.mk (Kd.R_over' (rk_ HO_3.out) (Kd.Q_typed (qk_ HO_8.out)) (by decide) hg); have n1_ := Aside0.mk (bg_ BK118.out hg (Kd.Q_ne HO_8.out BK118.out (by decide))); have n2_ := Aside0.mk (bg_ BK123.out hg (Kd.Q_away HO_8.out (fun _ hk => hk.1))); have n3_ := Aside0.mk (bg_ BK131.out hg (Kd.Q_away HO_8.out (fun _ hk => hk.2.1))); have n4_ := Aside0.mk (bg_ BK140.out hg (Kd.Q_away HO_8.out (fun _ hk => hk.2.2))); have n5_ := Aside0.mk (hb); have n6_ := Aside0.mk (ho); clear HO_3; clear BK118; clear BK123; clear BK131; clear BK140; clear HB; clear HO_8; have HO_3 := n0_; have BK118 := n1_; have BK123 := n2_; have BK131 := n3_; have BK140 := n4_; have HB := n5_; have HO148 := n6_; clear n0_ n1_ n2_ n3_ n4_ n5_ n6_; clear ho hb hg hat))
                      (try simp only [← hl3_2])
                      go_roundg kj43
                      case measure => have := HK1.out; have := HK2.out; have := HJ43.out; omega
                      case rel => exact ⟨(y145), (y146), (wrap64 (x12_2 + 1)), (by first | rfl | (simp; done) | (simp [*]; done)), H', ⟨by have := HK1.out; have := HK2.out; have := HJ43.out; omega⟩, ⟨by (try simp only [hl3_1]); (try simp only [hl3_2]); (with_reducible repeat (first | apply Kd.R_alloc | apply Kd.R_drewN | apply Kd.R_drew)); exact HO_3.out⟩, ⟨by (try simp only [hl3_1]); (try simp only [hl3_2]); (with_reducible repeat (first | apply Kd.Q_alloc | apply Kd.Q_drewN | apply Kd.Q_drew)); exact Kd.Q_mono HO148.out (fun _ hk => ⟨hk.1, hk.2.1⟩)⟩, ⟨by (try simp only [hl3_1]); (try simp only [hl3_2]); (with_reducible repeat (first | refine blk_drewN ?_ _ | refine blk_drew ?_ | refine blk_alloc ?_ _)); exact BK118.out⟩, ⟨by (try simp only [hl3_1]); (try simp only [hl3_2]); (with_reducible repeat (first | refine blk_drewN ?_ _ | refine blk_drew ?_ | refine blk_alloc ?_ _)); exact BK123.out⟩, ⟨by (try simp only [hl3_1]); (try simp only [hl3_2]); (with_reducible repeat (first | refine blk_drewN ?_ _ | refine blk_drew ?_ | refine blk_alloc ?_ _)); exact BK131.out⟩, ⟨by repeat (first | (with_reducible first | exact HB.out | apply below_alloc | apply pw_below_drewN | apply below_drew1 | refine below_set ?_ GE118.out | refine below_set ?_ GE123.out | refine below_set ?_ GE131.out | refine below_set ?_ GE140.out) | exact HB.out)⟩⟩
                     ·
                      rw [if_neg c74] at H
                      exact absurd H (by simp)
                   ·
                    rw [if_neg c65] at H
                    exact absurd H (by simp)
                  ·
                   rw [if_neg c64] at H
                   exact absurd H (by simp)
                 ·
                  rw [if_neg c63] at H
                  exact absurd H (by simp)
                ·
                 rw [if_neg c62] at H
                 exact absurd H (by simp)
            ·
             rw [if_neg c41] at H
             have c41b0 : decide (x12_2 ≤ a0_2) = false := decide_eq_false c41
             clear c41
             have H' := Aside0.mk H
             clear H
             have hnb82 := NB118_123.out
             have hnc82 := NB123_118.out
             have hnb83 := NB118_131.out
             have hnc83 := NB131_118.out
             have hcz84_0 : wr.cell? ⟨gb118, 0, none⟩ = some (.int .i64 a0_0) := (blk_cell BK118.out 0).trans rfl
             have hcz84_1 : wr.cell? ⟨gb118, 1, none⟩ = some (.int .i64 a0_1) := (blk_cell BK118.out 1).trans rfl
             have hcz84_2 : wr.cell? ⟨gb118, 2, none⟩ = some (.int .i64 a0_2) := (blk_cell BK118.out 2).trans rfl
             have hcz84_3 : wr.cell? ⟨gb118, 3, none⟩ = some (.int .i64 a0_3) := (blk_cell BK118.out 3).trans rfl
             have hfz84_0 := blk_frozen BK118.out 0
             have hfz84_1 := blk_frozen BK118.out 1
             have hfz84_2 := blk_frozen BK118.out 2
             have hfz84_3 := blk_frozen BK118.out 3
             go_wp2
             (try simp only [← hl3_1, ← hl3_2])
             go_roundg k2
             case measure => have := HK1.out; have := HK2.out; omega
             case rel => exact ⟨(x3_2), (x8_2), H', ⟨by have := HK1.out; have := HK2.out; omega⟩, ⟨by (try simp only [hl3_1]); (try simp only [hl3_2]); (with_reducible repeat (first | apply Kd.R_alloc | apply Kd.R_drewN | apply Kd.R_drew)); exact HO_3.out⟩, ⟨by (try simp only [hl3_1]); (try simp only [hl3_2]); (with_reducible repeat (first | apply Kd.Q_alloc | apply Kd.Q_drewN | apply Kd.Q_drew)); exact Kd.Q_mono HO_8.out (fun _ hk => hk.1)⟩, ⟨by (try simp only [hl3_1]); (try simp only [hl3_2]); (with_reducible repeat (first | refine blk_drewN ?_ _ | refine blk_drew ?_ | refine blk_alloc ?_ _)); exact BK118.out⟩, ⟨by (try simp only [hl3_1]); (try simp only [hl3_2]); (with_reducible repeat (first | refine blk_drewN ?_ _ | refine blk_drew ?_ | refine blk_alloc ?_ _)); exact BK123.out⟩, ⟨by repeat (first | (with_reducible first | exact HB.out | apply below_alloc | apply pw_below_drewN | apply below_drew1 | refine below_set ?_ GE118.out | refine below_set ?_ GE123.out | refine below_set ?_ GE131.out) | exact HB.out)⟩⟩
         ·
          rw [if_neg c27] at H
          exact absurd H (by simp)
        ·
         rw [if_neg c26] at H
         exact absurd H (by simp)
       ·
        rw [if_neg c25] at H
        have c25b0 : decide (0 < (x8_1.length : Int)) = false := decide_eq_false c25
        have c25b1 : decide (0 < x8_1.length) = false := decide_eq_false (by omega)
        clear c25
        obtain rfl := Option.some.inj H
        obtain ⟨Ao85, co85, eo85, _⟩ := Kd.Q_slice HO_8.out
        subst eo85
        go_wp2
        go_ret
        exact ⟨_, by first | rfl | (simp [errW_none, errW_some] <;> rfl) | (simp [*, errW_none, errW_some] <;> rfl), by (with_reducible repeat (first | apply Kd.R_alloc | apply Kd.R_drewN | apply Kd.R_drew)); exact HO_3.out, by repeat (first | (with_reducible first | exact HB.out | apply below_alloc | apply pw_below_drewN | apply below_drew1 | refine below_set ?_ GE118.out | refine below_set ?_ GE123.out) | exact HB.out)⟩
    ·
     rw [if_neg c7] at H
     exact absurd H (by simp)
   ·
    rw [if_neg c6] at H
    exact absurd H (by simp)
  ·
   rw [if_neg c4] at H
   exact absurd H (by simp)
 ·
  rw [if_neg c3] at H
  exact absurd H (by simp)

end Go.Proofs.Ytmmaodlngnjmlaa.P
