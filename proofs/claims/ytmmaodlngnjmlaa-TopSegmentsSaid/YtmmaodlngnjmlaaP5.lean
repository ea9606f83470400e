-- Written by this session's own program, for this seat. Lean checks it.
import Derived.Test.YtmmaodlngnjmlaaP0
import Derived.Test.YtmmaodlngnjmlaaP1
import Derived.Test.YtmmaodlngnjmlaaP3
import Derived.Test.YtmmaodlngnjmlaaP4
import Derived.Test.YtmmaodlngnjmlaaP21
import Derived.Test.YtmmaodlngnjmlaaXSegs23
import Derived.Test.YtmmaodlngnjmlaaXShort2
namespace Go.Proofs.Ytmmaodlngnjmlaa.P
open Go.RowKit Go.Proofs.YtmmaodlngnjmlaaW.PrintWords Go.Proofs.YtmmaodlngnjmlaaW.PrintLast Go.Proofs.YtmmaodlngnjmlaaW.PrintMore
attribute [local go_sem] max2_int min2_int max_two min_two max_three min_three max_four min_four   -- for this text's walks alone
set_option linter.unusedVariables false
set_option linter.unusedSimpArgs false

attribute [local go_sem high] eqA65

theorem mm_ {p q : Prop} (x : p) (h : p → q := by intro hk; (first | exact hk | ((repeat' apply And.intro) <;> (first | trivial | exact hk | exact hk.1 | exact hk.2 | exact hk.1.1 | exact hk.1.2 | exact hk.2.1 | exact hk.2.2 | (revert hk; simp only [and_imp]; intros; assumption))))) : q := h x

theorem hsb_ {w w' : World} {a : Addr} {v : Value} (hb : Below w.heap.size w w') (h : w.cell? a = some v) : w'.cell? a = some v := (hb.cell (World.block_lt_of_cell? _ _ h)).trans h

set_option maxHeartbeats 8000000 in
set_option maxRecDepth 100000 in
theorem ambidextertop_head23.calls0 (k : Nat)  (r : Bool) (w : World) (h : ambidextertop_head23.f k  = some r) (hT : r = true) :
  Calls Try.prog 26 #[] w fun e w' => e = .returned (.bool r) ∧ Below w.heap.size w w' := by
 have hu25 := Try.underlying25
 have hu63 := Try.underlying63
 have hu58 := Try.underlying58
 have hu59 := Try.underlying59
 have hu69 := Try.underlying69
 have hu65 := Try.underlying65
 have HB := Aside0.mk (Below.refl w.heap.size w)
 have H : ((timetable_Sequential.f k 8 4 2 (([(⟨1, 2, (-1)⟩ : S63), (⟨1, 2, (-1)⟩ : S63), (⟨0, 0, 1⟩ : S63)] : List (S63)))).bind fun bt220 => ((mintime_Duration.f k 8 4 2 24).bind fun bt224 => ((mintime_Duration.f k 8 4 2 12).bind fun bt226 => (if (bt220.1.length : Int) = 2 then ((timetable_PositionsAt.f 1 0 0 0 0 3 bt220.1 bt224.1).bind fun bt228 => (if bt220.2 = 0 then (if bt224.2 = true then (if bt226.2 = true then (if 0 < (bt220.1.length : Int) then (if ((((rd_T67 bt220.1 0).f0.f0.f0) == 1 && (((rd_T67 bt220.1 0).f0.f0.f1) == 2 && (((rd_T67 bt220.1 0).f0.f0.f2) == (-1)))) && (((rd_T67 bt220.1 0).f0.f1) == 2)) = true then (if 1 < (bt220.1.length : Int) then (if ((rd_T67 bt220.1 1).f1) = bt224.1 then ((timetable_Duration.f k bt220.1).bind fun t237 => (if t237 = (wrap64 (bt224.1 + bt226.1)) then (if bt228.2.2.2.2.2 = 12 then (if bt228.1 = 12 then ((profile_ValidLimits.f 8 4 2).bind fun t238 => (some t238)) else (some false)) else (some false)) else (some false))) else (some false)) else (none)) else (some false)) else (none)) else (some false)) else (some false)) else (some false))) else (some false))))) = some r := h
 clear h
 have HT := Aside0.mk hT
 clear hT
 obtain ⟨y217, hy217⟩ : ∃ y_ : List (S63), y_ = (([(⟨1, 2, (-1)⟩ : S63), (⟨1, 2, (-1)⟩ : S63), (⟨0, 0, 1⟩ : S63)] : List (S63))) := ⟨_, rfl⟩
 replace H : ((timetable_Sequential.f k 8 4 2 y217).bind fun bt220 => ((mintime_Duration.f k 8 4 2 24).bind fun bt224 => ((mintime_Duration.f k 8 4 2 12).bind fun bt226 => (if (bt220.1.length : Int) = 2 then ((timetable_PositionsAt.f 1 0 0 0 0 3 bt220.1 bt224.1).bind fun bt228 => (if bt220.2 = 0 then (if bt224.2 = true then (if bt226.2 = true then (if 0 < (bt220.1.length : Int) then (if ((((rd_T67 bt220.1 0).f0.f0.f0) == 1 && (((rd_T67 bt220.1 0).f0.f0.f1) == 2 && (((rd_T67 bt220.1 0).f0.f0.f2) == (-1)))) && (((rd_T67 bt220.1 0).f0.f1) == 2)) = true then (if 1 < (bt220.1.length : Int) then (if ((rd_T67 bt220.1 1).f1) = bt224.1 then ((timetable_Duration.f k bt220.1).bind fun t237 => (if t237 = (wrap64 (bt224.1 + bt226.1)) then (if bt228.2.2.2.2.2 = 12 then (if bt228.1 = 12 then ((profile_ValidLimits.f 8 4 2).bind fun t238 => (some t238)) else (some false)) else (some false)) else (some false))) else (some false)) else (none)) else (some false)) else (none)) else (some false)) else (some false)) else (some false))) else (some false))))) = some r := by first | (rw [hy217]; with_reducible exact H) | (have H2_ := (Option.bind_some _ _).symm.trans H; rw [hy217]; with_reducible exact H2_) | (have H2_ := (Option.bind_some _ _).symm.trans H; with_reducible exact H2_) | with_reducible exact H | (rw [hy217]; exact H) | exact H
 have Ny217 := Aside0.mk hy217
 clear hy217
 replace H := Option.bind_eq_some_iff.mp H
 obtain ⟨⟨t220, t223⟩, A10, H⟩ := H
 replace H : ((mintime_Duration.f k 8 4 2 24).bind fun bt224 => ((mintime_Duration.f k 8 4 2 12).bind fun bt226 => (if (t220.length : Int) = 2 then ((timetable_PositionsAt.f 1 0 0 0 0 3 t220 bt224.1).bind fun bt228 => (if t223 = 0 then (if bt224.2 = true then (if bt226.2 = true then (if 0 < (t220.length : Int) then (if ((((rd_T67 t220 0).f0.f0.f0) == 1 && (((rd_T67 t220 0).f0.f0.f1) == 2 && (((rd_T67 t220 0).f0.f0.f2) == (-1)))) && (((rd_T67 t220 0).f0.f1) == 2)) = true then (if 1 < (t220.length : Int) then (if ((rd_T67 t220 1).f1) = bt224.1 then ((timetable_Duration.f k t220).bind fun t237 => (if t237 = (wrap64 (bt224.1 + bt226.1)) then (if bt228.2.2.2.2.2 = 12 then (if bt228.1 = 12 then ((profile_ValidLimits.f 8 4 2).bind fun t238 => (some t238)) else (some false)) else (some false)) else (some false))) else (some false)) else (none)) else (some false)) else (none)) else (some false)) else (some false)) else (some false))) else (some false)))) = some r := H
 have A1 := Aside0.mk A10
 clear A10
 replace H := Option.bind_eq_some_iff.mp H
 obtain ⟨⟨t224, t225⟩, A20, H⟩ := H
 replace H : ((mintime_Duration.f k 8 4 2 12).bind fun bt226 => (if (t220.length : Int) = 2 then ((timetable_PositionsAt.f 1 0 0 0 0 3 t220 t224).bind fun bt228 => (if t223 = 0 then (if t225 = true then (if bt226.2 = true then (if 0 < (t220.length : Int) then (if ((((rd_T67 t220 0).f0.f0.f0) == 1 && (((rd_T67 t220 0).f0.f0.f1) == 2 && (((rd_T67 t220 0).f0.f0.f2) == (-1)))) && (((rd_T67 t220 0).f0.f1) == 2)) = true then (if 1 < (t220.length : Int) then (if ((rd_T67 t220 1).f1) = t224 then ((timetable_Duration.f k t220).bind fun t237 => (if t237 = (wrap64 (t224 + bt226.1)) then (if bt228.2.2.2.2.2 = 12 then (if bt228.1 = 12 then ((profile_ValidLimits.f 8 4 2).bind fun t238 => (some t238)) else (some false)) else (some false)) else (some false))) else (some false)) else (none)) else (some false)) else (none)) else (some false)) else (some false)) else (some false))) else (some false))) = some r := H
 have A2 := Aside0.mk A20
 clear A20
 replace H := Option.bind_eq_some_iff.mp H
 obtain ⟨⟨t226, t227⟩, A30, H⟩ := H
 replace H : (if (t220.length : Int) = 2 then ((timetable_PositionsAt.f 1 0 0 0 0 3 t220 t224).bind fun bt228 => (if t223 = 0 then (if t225 = true then (if t227 = true then (if 0 < (t220.length : Int) then (if ((((rd_T67 t220 0).f0.f0.f0) == 1 && (((rd_T67 t220 0).f0.f0.f1) == 2 && (((rd_T67 t220 0).f0.f0.f2) == (-1)))) && (((rd_T67 t220 0).f0.f1) == 2)) = true then (if 1 < (t220.length : Int) then (if ((rd_T67 t220 1).f1) = t224 then ((timetable_Duration.f k t220).bind fun t237 => (if t237 = (wrap64 (t224 + t226)) then (if bt228.2.2.2.2.2 = 12 then (if bt228.1 = 12 then ((profile_ValidLimits.f 8 4 2).bind fun t238 => (some t238)) else (some false)) else (some false)) else (some false))) else (some false)) else (none)) else (some false)) else (none)) else (some false)) else (some false)) else (some false))) else (some false)) = some r := H
 have A3 := Aside0.mk A30
 clear A30
 by_cases c4 : (t220.length : Int) = 2
 case neg =>
  rw [if_neg c4] at H
  have c4b0 : ((t220.length : Int) == 2) = false := beq_eq_false_iff_ne.mpr c4
  have c4b1 : ((t220.length : Int) != 2) = true := bne_iff_ne.mpr c4
  exact absurd HT.out (by rw [← Option.some.inj H]; decide)

 rw [if_pos c4] at H
 have c4b0 : ((t220.length : Int) == 2) = true := beq_iff_eq.mpr c4
 have c4b1 : ((t220.length : Int) != 2) = false := bne_eq_false_iff_eq.mpr c4
 clear c4
 replace H := Option.bind_eq_some_iff.mp H
 obtain ⟨⟨t228, t229, t230, t231, t232, t233⟩, A50, H⟩ := H
 replace H : (if t223 = 0 then (if t225 = true then (if t227 = true then (if 0 < (t220.length : Int) then (if ((((rd_T67 t220 0).f0.f0.f0) == 1 && (((rd_T67 t220 0).f0.f0.f1) == 2 && (((rd_T67 t220 0).f0.f0.f2) == (-1)))) && (((rd_T67 t220 0).f0.f1) == 2)) = true then (if 1 < (t220.length : Int) then (if ((rd_T67 t220 1).f1) = t224 then ((timetable_Duration.f k t220).bind fun t237 => (if t237 = (wrap64 (t224 + t226)) then (if t233 = 12 then (if t228 = 12 then ((profile_ValidLimits.f 8 4 2).bind fun t238 => (some t238)) else (some false)) else (some false)) else (some false))) else (some false)) else (none)) else (some false)) else (none)) else (some false)) else (some false)) else (some false)) = some r := H
 have A5 := Aside0.mk A50
 clear A50
 by_cases c6 : t223 = 0
 case neg =>
  rw [if_neg c6] at H
  have c6b0 : (t223 == 0) = false := beq_eq_false_iff_ne.mpr c6
  have c6b1 : (t223 != 0) = true := bne_iff_ne.mpr c6
  exact absurd HT.out (by rw [← Option.some.inj H]; decide)
 rw [if_pos c6] at H
 have c6b0 : (t223 == 0) = true := beq_iff_eq.mpr c6
 have c6b1 : (t223 != 0) = false := bne_eq_false_iff_eq.mpr c6
 clear c6
 by_cases c7 : t225 = true
 case neg =>
  replace c7 := Bool.eq_false_iff.mpr c7
  subst c7
  have H1 : (some false) = some r := by rw [if_neg (show ¬ (false = true) by decide)] at H; exact H
  clear H
  have H := H1
  clear H1
  exact absurd HT.out (by rw [← Option.some.inj H]; decide)
 subst c7
 have H1 : (if t227 = true then (if 0 < (t220.length : Int) then (if ((((rd_T67 t220 0).f0.f0.f0) == 1 && (((rd_T67 t220 0).f0.f0.f1) == 2 && (((rd_T67 t220 0).f0.f0.f2) == (-1)))) && (((rd_T67 t220 0).f0.f1) == 2)) = true then (if 1 < (t220.length : Int) then (if ((rd_T67 t220 1).f1) = t224 then ((timetable_Duration.f k t220).bind fun t237 => (if t237 = (wrap64 (t224 + t226)) then (if t233 = 12 then (if t228 = 12 then ((profile_ValidLimits.f 8 4 2).bind fun t238 => (some t238)) else (some false)) else (some false)) else (some false))) else (some false)) else (none)) else (some false)) else (none)) else (some false)) = some r := by rw [if_pos rfl] at H; exact H
 clear H
 have H := H1
 clear H1
 by_cases c8 : t227 = true
 case neg =>
  replace c8 := Bool.eq_false_iff.mpr c8
  subst c8
  have H1 : (some false) = some r := by rw [if_neg (show ¬ (false = true) by decide)] at H; exact H
  clear H
  have H := H1
  clear H1
  exact absurd HT.out (by rw [← Option.some.inj H]; decide)
 subst c8
 have H1 : (if 0 < (t220.length : Int) then (if ((((rd_T67 t220 0).f0.f0.f0) == 1 && (((rd_T67 t220 0).f0.f0.f1) == 2 && (((rd_T67 t220 0).f0.f0.f2) == (-1)))) && (((rd_T67 t220 0).f0.f1) == 2)) = true then (if 1 < (t220.length : Int) then (if ((rd_T67 t220 1).f1) = t224 then ((timetable_Duration.f k t220).bind fun t237 => (if t237 = (wrap64 (t224 + t226)) then (if t233 = 12 then (if t228 = 12 then ((profile_ValidLimits.f 8 4 2).bind fun t238 => (some t238)) else (some false)) else (some false)) else (some false))) else (some false)) else (none)) else (some false)) else (none)) = some r := by rw [if_pos rfl] at H; exact H
 clear H
 have H := H1
 clear H1
 by_cases c9 : 0 < (t220.length : Int)
 case neg =>
  rw [if_neg c9] at H
  exact absurd H (by simp)
 rw [if_pos c9] at H
 have c9b0 : decide (0 < (t220.length : Int)) = true := decide_eq_true c9
 have c9b1 : decide (0 < t220.length) = true := decide_eq_true (by omega)
 clear c9
 by_cases c10 : ((((rd_T67 t220 0).f0.f0.f0) == 1 && (((rd_T67 t220 0).f0.f0.f1) == 2 && (((rd_T67 t220 0).f0.f0.f2) == (-1)))) && (((rd_T67 t220 0).f0.f1) == 2)) = true
 case neg =>
  rw [if_neg c10] at H
  have c10b0 : ((((rd_T67 t220 0).f0.f0.f0) == 1 && (((rd_T67 t220 0).f0.f0.f1) == 2 && (((rd_T67 t220 0).f0.f0.f2) == (-1)))) && (((rd_T67 t220 0).f0.f1) == 2)) = false := by simpa using c10
  clear c10
  exact absurd HT.out (by rw [← Option.some.inj H]; decide)
 rw [if_pos c10] at H
 have c10b0 : ((((rd_T67 t220 0).f0.f0.f0) == 1 && (((rd_T67 t220 0).f0.f0.f1) == 2 && (((rd_T67 t220 0).f0.f0.f2) == (-1)))) && (((rd_T67 t220 0).f0.f1) == 2)) = true := c10
 clear c10
 by_cases c11 : 1 < (t220.length : Int)
 case neg =>
  rw [if_neg c11] at H
  exact absurd H (by simp)
 rw [if_pos c11] at H
 have c11b0 : decide (1 < (t220.length : Int)) = true := decide_eq_true c11
 have c11b1 : decide (1 < t220.length) = true := decide_eq_true (by omega)
 clear c11
 by_cases c12 : ((rd_T67 t220 1).f1) = t224
 case neg =>
  rw [if_neg c12] at H
  have c12b0 : (((rd_T67 t220 1).f1) == t224) = false := beq_eq_false_iff_ne.mpr c12
  have c12b1 : (((rd_T67 t220 1).f1) != t224) = true := bne_iff_ne.mpr c12
  exact absurd HT.out (by rw [← Option.some.inj H]; decide)
 rw [if_pos c12] at H
 have c12b0 : (((rd_T67 t220 1).f1) == t224) = true := beq_iff_eq.mpr c12
 have c12b1 : (((rd_T67 t220 1).f1) != t224) = false := bne_eq_false_iff_eq.mpr c12
 clear c12
 replace H := Option.bind_eq_some_iff.mp H
 obtain ⟨t237, A130, H⟩ := H
 replace H : (if t237 = (wrap64 (t224 + t226)) then (if t233 = 12 then (if t228 = 12 then ((profile_ValidLimits.f 8 4 2).bind fun t238 => (some t238)) else (some false)) else (some false)) else (some false)) = some r := H
 have A13 := Aside0.mk A130
 clear A130
 by_cases c14 : t237 = (wrap64 (t224 + t226))
 case neg =>
  rw [if_neg c14] at H
  have c14b0 : (t237 == (wrap64 (t224 + t226))) = false := beq_eq_false_iff_ne.mpr c14
  have c14b1 : (t237 != (wrap64 (t224 + t226))) = true := bne_iff_ne.mpr c14
  exact absurd HT.out (by rw [← Option.some.inj H]; decide)
 rw [if_pos c14] at H
 have c14b0 : (t237 == (wrap64 (t224 + t226))) = true := beq_iff_eq.mpr c14
 have c14b1 : (t237 != (wrap64 (t224 + t226))) = false := bne_eq_false_iff_eq.mpr c14
 clear c14
 by_cases c15 : t233 = 12
 case neg =>
  rw [if_neg c15] at H
  have c15b0 : (t233 == 12) = false := beq_eq_false_iff_ne.mpr c15
  have c15b1 : (t233 != 12) = true := bne_iff_ne.mpr c15
  exact absurd HT.out (by rw [← Option.some.inj H]; decide)
 rw [if_pos c15] at H
 have c15b0 : (t233 == 12) = true := beq_iff_eq.mpr c15
 have c15b1 : (t233 != 12) = false := bne_eq_false_iff_eq.mpr c15
 clear c15
 by_cases c16 : t228 = 12
 case neg =>
  rw [if_neg c16] at H
  have c16b0 : (t228 == 12) = false := beq_eq_false_iff_ne.mpr c16
  have c16b1 : (t228 != 12) = true := bne_iff_ne.mpr c16
  exact absurd HT.out (by rw [← Option.some.inj H]; decide)
 rw [if_pos c16] at H
 have c16b0 : (t228 == 12) = true := beq_iff_eq.mpr c16
 have c16b1 : (t228 != 12) = false := bne_eq_false_iff_eq.mpr c16
 clear c16
 replace H := Option.bind_eq_some_iff.mp H
 obtain ⟨t238, A170, H⟩ := H
 replace H : (some t238) = some r := H
 have A17 := Aside0.mk A170
 clear A170
 obtain rfl := Option.some.inj H
 go_enter Try.func26, Try.ntmps26
 try go_wp2_with (first | ((with_reducible refine gate_dst (N := 1) rfl ?_); refine box_event ?hg (N := 1) ?hd (cs := #[.int .i64 0, .int .i64 0, .int .i64 0]) (t := 25) ?hr ?_; (case hd => rfl); (case hg => rfl); (case hr => first | (go_simp; done) | (go_simp; rfl)); intro gb215 hg w18 hbox hb; have n0_ := Aside0.mk (below_step (by repeat (first | (with_reducible first | exact HB.out | apply below_alloc | apply pw_below_drewN | apply below_drew1) | exact HB.out)) hb); have n1_ := Aside0.mk (hbox); have n2_ := Aside0.mk ((by rw [hg]; exact (below_size (by repeat (first | (with_reducible first | exact HB.out | apply below_alloc | apply pw_below_drewN | apply below_drew1) | exact HB.out))) : w.heap.size ≤ gb215)); have n3_ := Aside0.mk ((by rw [hg]; exact (below_size (by repeat (first | (with_reducible first | exact HB.out | apply below_alloc | apply pw_below_drewN | apply below_drew1) | exact HB.out))) : w.heap.size ≤ gb215)); clear HB; have HB := n0_; have BK215 := n1_; have GW215 := n2_; have GE215 := n3_; clear n0_ n1_ n2_ n3_; clear hb hbox hg; have hcz19_0 : w18.cell? ⟨gb215, 0, none⟩ = some (.int .i64 0) := (blk_cell BK215.out 0).trans rfl; have hcz19_1 : w18.cell? ⟨gb215, 1, none⟩ = some (.int .i64 0) := (blk_cell BK215.out 1).trans rfl; have hcz19_2 : w18.cell? ⟨gb215, 2, none⟩ = some (.int .i64 0) := (blk_cell BK215.out 2).trans rfl; have hfz19_0 := blk_frozen BK215.out 0; have hfz19_1 := blk_frozen BK215.out 1; have hfz19_2 := blk_frozen BK215.out 2) | ((with_reducible refine gate_dst (N := 2) rfl ?_); refine box_event ?hg (N := 2) ?hd (cs := #[.int .i64 0, .int .i64 0, .int .i64 0]) (t := 63) ?hr ?_; (case hd => rfl); (case hg => rfl); (case hr => first | (go_simp; done) | (go_simp; rfl)); intro gb216 hg w20 hbox hb; have n0_ := Aside0.mk (blk_below (g := gb215) (o := .cells #[.int .i64 8, .int .i64 4, .int .i64 2] 25 (0, 0)) (by (with_reducible repeat (first | refine blk_drewN ?_ _ | refine blk_drew ?_ | refine blk_alloc ?_ _)); refine blk_put (cs := #[.int .i64 8, .int .i64 4, .int .i64 0]) ?_ 2 _ rfl; (with_reducible repeat (first | refine blk_drewN ?_ _ | refine blk_drew ?_ | refine blk_alloc ?_ _)); refine blk_put (cs := #[.int .i64 8, .int .i64 0, .int .i64 0]) ?_ 1 _ rfl; (with_reducible repeat (first | refine blk_drewN ?_ _ | refine blk_drew ?_ | refine blk_alloc ?_ _)); refine blk_put (cs := #[.int .i64 0, .int .i64 0, .int .i64 0]) ?_ 0 _ rfl; (with_reducible repeat (first | refine blk_drewN ?_ _ | refine blk_drew ?_ | refine blk_alloc ?_ _)); exact BK215.out) hb); have n1_ := Aside0.mk (below_step (by repeat (first | (with_reducible first | exact HB.out | apply below_alloc | apply pw_below_drewN | apply below_drew1 | refine below_set ?_ GE215.out) | exact HB.out)) hb); have n2_ := Aside0.mk (hbox); have n3_ := Aside0.mk ((by rw [hg]; exact (below_size (by repeat (first | (with_reducible first | exact HB.out | apply below_alloc | apply pw_below_drewN | apply below_drew1 | refine below_set ?_ GE215.out) | exact HB.out))) : w.heap.size ≤ gb216)); have n4_ := Aside0.mk ((by rw [hg]; exact (below_size (by repeat (first | (with_reducible first | exact HB.out | apply below_alloc | apply pw_below_drewN | apply below_drew1 | refine below_set ?_ GE215.out) | exact HB.out))) : w.heap.size ≤ gb216)); have n5_ := Aside0.mk ((by rw [hg]; exact Nat.ne_of_lt (blk_lt (g := gb215) (o := .cells #[.int .i64 8, .int .i64 4, .int .i64 2] 25 (0, 0)) (by (with_reducible repeat (first | refine blk_drewN ?_ _ | refine blk_drew ?_ | refine blk_alloc ?_ _)); refine blk_put (cs := #[.int .i64 8, .int .i64 4, .int .i64 0]) ?_ 2 _ rfl; (with_reducible repeat (first | refine blk_drewN ?_ _ | refine blk_drew ?_ | refine blk_alloc ?_ _)); refine blk_put (cs := #[.int .i64 8, .int .i64 0, .int .i64 0]) ?_ 1 _ rfl; (with_reducible repeat (first | refine blk_drewN ?_ _ | refine blk_drew ?_ | refine blk_alloc ?_ _)); refine blk_put (cs := #[.int .i64 0, .int .i64 0, .int .i64 0]) ?_ 0 _ rfl; (with_reducible repeat (first | refine blk_drewN ?_ _ | refine blk_drew ?_ | refine blk_alloc ?_ _)); exact BK215.out)) : gb215 ≠ gb216)); have n6_ := Aside0.mk ((by rw [hg]; exact Nat.ne_of_gt (blk_lt (g := gb215) (o := .cells #[.int .i64 8, .int .i64 4, .int .i64 2] 25 (0, 0)) (by (with_reducible repeat (first | refine blk_drewN ?_ _ | refine blk_drew ?_ | refine blk_alloc ?_ _)); refine blk_put (cs := #[.int .i64 8, .int .i64 4, .int .i64 0]) ?_ 2 _ rfl; (with_reducible repeat (first | refine blk_drewN ?_ _ | refine blk_drew ?_ | refine blk_alloc ?_ _)); refine blk_put (cs := #[.int .i64 8, .int .i64 0, .int .i64 0]) ?_ 1 _ rfl; (with_reducible repeat (first | refine blk_drewN ?_ _ | refine blk_drew ?_ | refine blk_alloc ?_ _)); refine blk_put (cs := #[.int .i64 0, .int .i64 0, .int .i64 0]) ?_ 0 _ rfl; (with_reducible repeat (first | refine blk_drewN ?_ _ | refine blk_drew ?_ | refine blk_alloc ?_ _)); exact BK215.out)) : gb216 ≠ gb215)); clear BK215; clear HB; have BK215 := n0_; have HB := n1_; have BK216 := n2_; have GW216 := n3_; have GE216 := n4_; have NB215_216 := n5_; have NB216_215 := n6_; clear n0_ n1_ n2_ n3_ n4_ n5_ n6_; clear hb hbox hg; have hnb21 := NB216_215.out; have hnc21 := NB215_216.out; have hcz22_0 : w20.cell? ⟨gb216, 0, none⟩ = some (.int .i64 0) := (blk_cell BK216.out 0).trans rfl; have hcz22_1 : w20.cell? ⟨gb216, 1, none⟩ = some (.int .i64 0) := (blk_cell BK216.out 1).trans rfl; have hcz22_2 : w20.cell? ⟨gb216, 2, none⟩ = some (.int .i64 0) := (blk_cell BK216.out 2).trans rfl; have hfz22_0 := blk_frozen BK216.out 0; have hfz22_1 := blk_frozen BK216.out 1; have hfz22_2 := blk_frozen BK216.out 2; have hcz23_0 : w20.cell? ⟨gb215, 0, none⟩ = some (.int .i64 8) := (blk_cell BK215.out 0).trans rfl; have hcz23_1 : w20.cell? ⟨gb215, 1, none⟩ = some (.int .i64 4) := (blk_cell BK215.out 1).trans rfl; have hcz23_2 : w20.cell? ⟨gb215, 2, none⟩ = some (.int .i64 2) := (blk_cell BK215.out 2).trans rfl; have hfz23_0 := blk_frozen BK215.out 0; have hfz23_1 := blk_frozen BK215.out 1; have hfz23_2 := blk_frozen BK215.out 2) | ((with_reducible refine gate_dst (N := 17) rfl ?_); refine Kd.R_lit k63 _ 63 ?hg (N := 17) ?hd (xs := ([(⟨1, 2, (-1)⟩ : S63), (⟨1, 2, (-1)⟩ : S63), (⟨0, 0, 1⟩ : S63)] : List (S63))) (inner := [.int .i64 1, .int .i64 2, .int .i64 (-1), .int .i64 1, .int .i64 2, .int .i64 (-1), .int .i64 0, .int .i64 0, .int .i64 1]) (ok := fun _ => True) (okp := fun _ => True) ?hr ?hp (fun _ hk => hk) trivial (Below.refl _ _) (Nat.le_refl _) (by simp) ?_; (case hd => rfl); (case hg => rfl); (case hr => first | (go_simp; done) | (go_simp; rfl)); (case hp => exact (Reps.c3 (show Kd.M k63 _ _ _ (⟨1, 2, (-1)⟩ : S63) [.int .i64 1, .int .i64 2, .int .i64 (-1)] from (k63_mkM _ _ _ (⟨1, 2, (-1)⟩ : S63) )) (Reps.c3 (show Kd.M k63 _ _ _ (⟨1, 2, (-1)⟩ : S63) [.int .i64 1, .int .i64 2, .int .i64 (-1)] from (k63_mkM _ _ _ (⟨1, 2, (-1)⟩ : S63) )) (Reps.c3 (show Kd.M k63 _ _ _ (⟨0, 0, 1⟩ : S63) [.int .i64 0, .int .i64 0, .int .i64 1] from (k63_mkM _ _ _ (⟨0, 0, 1⟩ : S63) )) (Reps.none _ _))))); intro v218 w24 ho25 hb hg_ hnew_; clear hg_ hnew_; (first | rw [← Ny217.out] at ho25 | (simp only [Int.reduceToNat] at ho25; rw [← Ny217.out] at ho25)); have n0_ := Aside0.mk (Kd.R_lower (Kd.R_newB ho25 (g := gb216) (o := .cells #[.int .i64 1, .int .i64 2, .int .i64 (-1)] 63 (0, 0)) (by (with_reducible repeat (first | refine blk_drewN ?_ _ | refine blk_drew ?_ | refine blk_alloc ?_ _)); refine blk_put (cs := #[.int .i64 1, .int .i64 2, .int .i64 0]) ?_ 2 _ rfl; (with_reducible repeat (first | refine blk_drewN ?_ _ | refine blk_drew ?_ | refine blk_alloc ?_ _)); refine blk_put (cs := #[.int .i64 1, .int .i64 0, .int .i64 0]) ?_ 1 _ rfl; (with_reducible repeat (first | refine blk_drewN ?_ _ | refine blk_drew ?_ | refine blk_alloc ?_ _)); refine blk_put (cs := #[.int .i64 0, .int .i64 0, .int .i64 0]) ?_ 0 _ rfl; (with_reducible repeat (first | refine blk_drewN ?_ _ | refine blk_drew ?_ | refine blk_alloc ?_ _)); exact BK216.out)) (below_size (by repeat (first | (with_reducible first | exact HB.out | apply below_alloc | apply pw_below_drewN | apply below_drew1 | refine below_set ?_ GE215.out | refine below_set ?_ GE216.out) | exact HB.out)))); have n1_ := Aside0.mk (blk_below (g := gb215) (o := .cells #[.int .i64 8, .int .i64 4, .int .i64 2] 25 (0, 0)) (by (with_reducible repeat (first | refine blk_drewN ?_ _ | refine blk_drew ?_ | refine blk_alloc ?_ _)); refine blk_far ?_ NB215_216.out _; (with_reducible repeat (first | refine blk_drewN ?_ _ | refine blk_drew ?_ | refine blk_alloc ?_ _)); refine blk_far ?_ NB215_216.out _; (with_reducible repeat (first | refine blk_drewN ?_ _ | refine blk_drew ?_ | refine blk_alloc ?_ _)); refine blk_far ?_ NB215_216.out _; (with_reducible repeat (first | refine blk_drewN ?_ _ | refine blk_drew ?_ | refine blk_alloc ?_ _)); exact BK215.out) hb); have n2_ := Aside0.mk (blk_below (g := gb216) (o := .cells #[.int .i64 1, .int .i64 2, .int .i64 (-1)] 63 (0, 0)) (by (with_reducible repeat (first | refine blk_drewN ?_ _ | refine blk_drew ?_ | refine blk_alloc ?_ _)); refine blk_put (cs := #[.int .i64 1, .int .i64 2, .int .i64 0]) ?_ 2 _ rfl; (with_reducible repeat (first | refine blk_drewN ?_ _ | refine blk_drew ?_ | refine blk_alloc ?_ _)); refine blk_put (cs := #[.int .i64 1, .int .i64 0, .int .i64 0]) ?_ 1 _ rfl; (with_reducible repeat (first | refine blk_drewN ?_ _ | refine blk_drew ?_ | refine blk_alloc ?_ _)); refine blk_put (cs := #[.int .i64 0, .int .i64 0, .int .i64 0]) ?_ 0 _ rfl; (with_reducible repeat (first | refine blk_drewN ?_ _ | refine blk_drew ?_ | refine blk_alloc ?_ _)); exact BK216.out) hb); have n3_ := Aside0.mk (below_step (by repeat (first | (with_reducible first | exact HB.out | apply below_alloc | apply pw_below_drewN | apply below_drew1 | refine below_set ?_ GE215.out | refine below_set ?_ GE216.out) | exact HB.out)) hb); clear BK215; clear BK216; clear HB; have HO219 := n0_; have BK215 := n1_; have BK216 := n2_; have HB := n3_; clear n0_ n1_ n2_ n3_; clear hb ho25; obtain ⟨Ao26, co26, eo26⟩ := Kd.R_slice HO219.out; subst eo26) | ((with_reducible refine gate_callee (f := 27) rfl ?_); refine goesL_ (some 18) rfl rfl Try.func27 (by kernel_rfl) rfl #[.agg #[.int .i64 8, .int .i64 4, .int .i64 2], .slice Ao26 y217.length co26] rfl (by (try simp only [List.map_toArray, List.map_cons, List.map_nil]); first | done | rfl | (simp only [List.length_drop, List.length_take]; rfl)) ?_; (with_reducible refine (timetable_Sequential.calls k 8 4 2 _ _ y217 t220 t223 _ ?side1 ?side2 A1.out).mono ?_); (case side1 => repeat (first | exact (Kd.R_reads' HO219.out).2.2 | (with_reducible refine Kd.C_alloc ?_ _) | (with_reducible refine Kd.C_drewN ?_ _) | (with_reducible refine Kd.C_drew ?_))); (case side2 => exact (Kd.R_reads' HO219.out).2.1); rintro e w27 ⟨v221, rfl, ho0, hb⟩; refine ⟨_, rfl, ?_⟩; have n0_ := Aside0.mk (Kd.R_below (by (with_reducible repeat (first | apply Kd.R_alloc | apply Kd.R_drewN | apply Kd.R_drew)); exact HO219.out) hb); have n1_ := Aside0.mk (Kd.S_lower ho0 (below_size (by repeat (first | (with_reducible first | exact HB.out | apply below_alloc | apply pw_below_drewN | apply below_drew1 | refine below_set ?_ GE215.out | refine below_set ?_ GE216.out) | exact HB.out)))); have n2_ := Aside0.mk (blk_below (g := gb215) (o := .cells #[.int .i64 8, .int .i64 4, .int .i64 2] 25 (0, 0)) (by (with_reducible repeat (first | refine blk_drewN ?_ _ | refine blk_drew ?_ | refine blk_alloc ?_ _)); exact BK215.out) hb); have n3_ := Aside0.mk (blk_below (g := gb216) (o := .cells #[.int .i64 1, .int .i64 2, .int .i64 (-1)] 63 (0, 0)) (by (with_reducible repeat (first | refine blk_drewN ?_ _ | refine blk_drew ?_ | refine blk_alloc ?_ _)); exact BK216.out) hb); have n4_ := Aside0.mk (below_step (by repeat (first | (with_reducible first | exact HB.out | apply below_alloc | apply pw_below_drewN | apply below_drew1 | refine below_set ?_ GE215.out | refine below_set ?_ GE216.out) | exact HB.out)) hb); clear HO219; clear BK215; clear BK216; clear HB; have HO219 := n0_; have HO222 := n1_; have BK215 := n2_; have BK216 := n3_; have HB := n4_; clear n0_ n1_ n2_ n3_ n4_; (try clear hb); (try clear hb2); (try clear hk); (try clear hi); (try clear ho0); have hcz28_0 : w27.cell? ⟨gb215, 0, none⟩ = some (.int .i64 8) := (blk_cell BK215.out 0).trans rfl; have hcz28_1 : w27.cell? ⟨gb215, 1, none⟩ = some (.int .i64 4) := (blk_cell BK215.out 1).trans rfl; have hcz28_2 : w27.cell? ⟨gb215, 2, none⟩ = some (.int .i64 2) := (blk_cell BK215.out 2).trans rfl; have hfz28_0 := blk_frozen BK215.out 0; have hfz28_1 := blk_frozen BK215.out 1; have hfz28_2 := blk_frozen BK215.out 2) | ((with_reducible refine gate_callee (f := 17) rfl ?_); refine goesL_ (some 23) rfl rfl Try.func17 (by kernel_rfl) rfl #[.agg #[.int .i64 8, .int .i64 4, .int .i64 2], .int .i64 24] rfl (by (try simp only [List.map_toArray, List.map_cons, List.map_nil]); first | done | rfl | (simp only [List.length_drop, List.length_take]; rfl)) ?_; (with_reducible refine (mintime_Duration.calls k 8 4 2 24 t224 true _ A2.out).mono ?_); rintro e w29 ⟨rfl, hb⟩; refine ⟨_, rfl, ?_⟩; have n0_ := Aside0.mk (Kd.R_below (by (with_reducible repeat (first | apply Kd.R_alloc | apply Kd.R_drewN | apply Kd.R_drew)); exact HO219.out) hb); have n1_ := Aside0.mk (Kd.S_below (by (with_reducible repeat (first | apply Kd.S_alloc | apply Kd.S_drewN | apply Kd.S_drew)); exact HO222.out) hb); have n2_ := Aside0.mk (blk_below (g := gb215) (o := .cells #[.int .i64 8, .int .i64 4, .int .i64 2] 25 (0, 0)) (by (with_reducible repeat (first | refine blk_drewN ?_ _ | refine blk_drew ?_ | refine blk_alloc ?_ _)); exact BK215.out) hb); have n3_ := Aside0.mk (blk_below (g := gb216) (o := .cells #[.int .i64 1, .int .i64 2, .int .i64 (-1)] 63 (0, 0)) (by (with_reducible repeat (first | refine blk_drewN ?_ _ | refine blk_drew ?_ | refine blk_alloc ?_ _)); exact BK216.out) hb); have n4_ := Aside0.mk (below_step (by repeat (first | (with_reducible first | exact HB.out | apply below_alloc | apply pw_below_drewN | apply below_drew1 | refine below_set ?_ GE215.out | refine below_set ?_ GE216.out) | exact HB.out)) hb); clear HO219; clear HO222; clear BK215; clear BK216; clear HB; have HO219 := n0_; have HO222 := n1_; have BK215 := n2_; have BK216 := n3_; have HB := n4_; clear n0_ n1_ n2_ n3_ n4_; (try clear hb); (try clear hb2); (try clear hk); (try clear hi); have hcz30_0 : w29.cell? ⟨gb215, 0, none⟩ = some (.int .i64 8) := (blk_cell BK215.out 0).trans rfl; have hcz30_1 : w29.cell? ⟨gb215, 1, none⟩ = some (.int .i64 4) := (blk_cell BK215.out 1).trans rfl; have hcz30_2 : w29.cell? ⟨gb215, 2, none⟩ = some (.int .i64 2) := (blk_cell BK215.out 2).trans rfl; have hfz30_0 := blk_frozen BK215.out 0; have hfz30_1 := blk_frozen BK215.out 1; have hfz30_2 := blk_frozen BK215.out 2) | ((with_reducible refine gate_callee (f := 17) rfl ?_); refine goesL_ (some 28) rfl rfl Try.func17 (by kernel_rfl) rfl #[.agg #[.int .i64 8, .int .i64 4, .int .i64 2], .int .i64 12] rfl (by (try simp only [List.map_toArray, List.map_cons, List.map_nil]); first | done | rfl | (simp only [List.length_drop, List.length_take]; rfl)) ?_; (with_reducible refine (mintime_Duration.calls k 8 4 2 12 t226 true _ A3.out).mono ?_); rintro e w31 ⟨rfl, hb⟩; refine ⟨_, rfl, ?_⟩; have n0_ := Aside0.mk (Kd.R_below (by (with_reducible repeat (first | apply Kd.R_alloc | apply Kd.R_drewN | apply Kd.R_drew)); exact HO219.out) hb); have n1_ := Aside0.mk (Kd.S_below (by (with_reducible repeat (first | apply Kd.S_alloc | apply Kd.S_drewN | apply Kd.S_drew)); exact HO222.out) hb); have n2_ := Aside0.mk (blk_below (g := gb215) (o := .cells #[.int .i64 8, .int .i64 4, .int .i64 2] 25 (0, 0)) (by (with_reducible repeat (first | refine blk_drewN ?_ _ | refine blk_drew ?_ | refine blk_alloc ?_ _)); exact BK215.out) hb); have n3_ := Aside0.mk (blk_below (g := gb216) (o := .cells #[.int .i64 1, .int .i64 2, .int .i64 (-1)] 63 (0, 0)) (by (with_reducible repeat (first | refine blk_drewN ?_ _ | refine blk_drew ?_ | refine blk_alloc ?_ _)); exact BK216.out) hb); have n4_ := Aside0.mk (below_step (by repeat (first | (with_reducible first | exact HB.out | apply below_alloc | apply pw_below_drewN | apply below_drew1 | refine below_set ?_ GE215.out | refine below_set ?_ GE216.out) | exact HB.out)) hb); clear HO219; clear HO222; clear BK215; clear BK216; clear HB; have HO219 := n0_; have HO222 := n1_; have BK215 := n2_; have BK216 := n3_; have HB := n4_; clear n0_ n1_ n2_ n3_ n4_; (try clear hb); (try clear hb2); (try clear hk); (try clear hi); obtain ⟨Ao32, co32, eo32⟩ := Kd.S_slice HO222.out; subst eo32) | ((with_reducible refine gate_callee (f := 30) rfl ?_); refine goesL_ (some 39) rfl rfl Try.func30 (by kernel_rfl) rfl #[.agg #[.int .i64 1, .int .i64 0, .int .i64 0, .int .i64 0, .int .i64 0, .int .i64 3], .slice Ao32 t220.length co32, .int .i64 t224] rfl (by (try simp only [List.map_toArray, List.map_cons, List.map_nil]); first | done | rfl | (simp only [List.length_drop, List.length_take]; rfl)) ?_; (with_reducible refine (timetable_PositionsAt.calls 1 0 0 0 0 3 _ _ t220 t224 t228 t229 t230 t231 t232 t233 _ ?side1 ?side2 A5.out).mono ?_); (case side1 => repeat (first | exact (Kd.S_reads' HO222.out).2.2 | (with_reducible refine Kd.C_alloc ?_ _) | (with_reducible refine Kd.C_drewN ?_ _) | (with_reducible refine Kd.C_drew ?_))); (case side2 => exact (Kd.S_reads' HO222.out).2.1); rintro e w33 ⟨rfl, hb⟩; refine ⟨_, rfl, ?_⟩; have n0_ := Aside0.mk (Kd.R_below (by (with_reducible repeat (first | apply Kd.R_alloc | apply Kd.R_drewN | apply Kd.R_drew)); exact HO219.out) hb); have n1_ := Aside0.mk (Kd.S_below (by (with_reducible repeat (first | apply Kd.S_alloc | apply Kd.S_drewN | apply Kd.S_drew)); exact HO222.out) hb); have n2_ := Aside0.mk (blk_below (g := gb215) (o := .cells #[.int .i64 8, .int .i64 4, .int .i64 2] 25 (0, 0)) (by (with_reducible repeat (first | refine blk_drewN ?_ _ | refine blk_drew ?_ | refine blk_alloc ?_ _)); exact BK215.out) hb); have n3_ := Aside0.mk (blk_below (g := gb216) (o := .cells #[.int .i64 1, .int .i64 2, .int .i64 (-1)] 63 (0, 0)) (by (with_reducible repeat (first | refine blk_drewN ?_ _ | refine blk_drew ?_ | refine blk_alloc ?_ _)); exact BK216.out) hb); have n4_ := Aside0.mk (below_step (by repeat (first | (with_reducible first | exact HB.out | apply below_alloc | apply pw_below_drewN | apply below_drew1 | refine below_set ?_ GE215.out | refine below_set ?_ GE216.out) | exact HB.out)) hb); clear HO219; clear HO222; clear BK215; clear BK216; clear HB; have HO219 := n0_; have HO222 := n1_; have BK215 := n2_; have BK216 := n3_; have HB := n4_; clear n0_ n1_ n2_ n3_ n4_; (try clear hb); (try clear hb2); (try clear hk); (try clear hi)) | ((with_reducible refine gate_dst (N := 9) rfl ?_); refine box_event ?hg (N := 9) ?hd (cs := #[.int .i64 0, .int .i64 0, .int .i64 0, .int .i64 0, .int .i64 0, .int .i64 0]) (t := 69) ?hr ?_; (case hd => rfl); (case hg => rfl); (case hr => first | (go_simp; done) | (go_simp; rfl)); intro gb234 hg w34 hbox hb; have n0_ := Aside0.mk (Kd.R_below (by (with_reducible repeat (first | apply Kd.R_alloc | apply Kd.R_drewN | apply Kd.R_drew)); exact HO219.out) hb); have n1_ := Aside0.mk (Kd.S_below (by (with_reducible repeat (first | apply Kd.S_alloc | apply Kd.S_drewN | apply Kd.S_drew)); exact HO222.out) hb); have n2_ := Aside0.mk (blk_below (g := gb215) (o := .cells #[.int .i64 8, .int .i64 4, .int .i64 2] 25 (0, 0)) (by (with_reducible repeat (first | refine blk_drewN ?_ _ | refine blk_drew ?_ | refine blk_alloc ?_ _)); exact BK215.out) hb); have n3_ := Aside0.mk (blk_below (g := gb216) (o := .cells #[.int .i64 1, .int .i64 2, .int .i64 (-1)] 63 (0, 0)) (by (with_reducible repeat (first | refine blk_drewN ?_ _ | refine blk_drew ?_ | refine blk_alloc ?_ _)); exact BK216.out) hb); have n4_ := Aside0.mk (below_step (by repeat (first | (with_reducible first | exact HB.out | apply below_alloc | apply pw_below_drewN | apply below_drew1 | refine below_set ?_ GE215.out | refine below_set ?_ GE216.out) | exact HB.out)) hb); have n5_ := Aside0.mk (hbox); have n6_ := Aside0.mk ((by rw [hg]; exact (below_size (by repeat (first | (with_reducible first | exact HB.out | apply below_alloc | apply pw_below_drewN | apply below_drew1 | refine below_set ?_ GE215.out | refine below_set ?_ GE216.out) | exact HB.out))) : w.heap.size ≤ gb234)); have n7_ := Aside0.mk ((by rw [hg]; exact (below_size (by repeat (first | (with_reducible first | exact HB.out | apply below_alloc | apply pw_below_drewN | apply below_drew1 | refine below_set ?_ GE215.out | refine below_set ?_ GE216.out) | exact HB.out))) : w.heap.size ≤ gb234)); have n8_ := Aside0.mk ((by rw [hg]; exact Nat.ne_of_lt (blk_lt (g := gb215) (o := .cells #[.int .i64 8, .int .i64 4, .int .i64 2] 25 (0, 0)) (by (with_reducible repeat (first | refine blk_drewN ?_ _ | refine blk_drew ?_ | refine blk_alloc ?_ _)); exact BK215.out)) : gb215 ≠ gb234)); have n9_ := Aside0.mk ((by rw [hg]; exact Nat.ne_of_gt (blk_lt (g := gb215) (o := .cells #[.int .i64 8, .int .i64 4, .int .i64 2] 25 (0, 0)) (by (with_reducible repeat (first | refine blk_drewN ?_ _ | refine blk_drew ?_ | refine blk_alloc ?_ _)); exact BK215.out)) : gb234 ≠ gb215)); have n10_ := Aside0.mk ((by rw [hg]; exact Nat.ne_of_lt (blk_lt (g := gb216) (o := .cells #[.int .i64 1, .int .i64 2, .int .i64 (-1)] 63 (0, 0)) (by (with_reducible repeat (first | refine blk_drewN ?_ _ | refine blk_drew ?_ | refine blk_alloc ?_ _)); exact BK216.out)) : gb216 ≠ gb234)); have n11_ := Aside0.mk ((by rw [hg]; exact Nat.ne_of_gt (blk_lt (g := gb216) (o := .cells #[.int .i64 1, .int .i64 2, .int .i64 (-1)] 63 (0, 0)) (by (with_reducible repeat (first | refine blk_drewN ?_ _ | refine blk_drew ?_ | refine blk_alloc ?_ _)); exact BK216.out)) : gb234 ≠ gb216)); clear HO219; clear HO222; clear BK215; clear BK216; clear HB; have HO219 := n0_; have HO222 := n1_; have BK215 := n2_; have BK216 := n3_; have HB := n4_; have BK234 := n5_; have GW234 := n6_; have GE234 := n7_; have NB215_234 := n8_; have NB234_215 := n9_; have NB216_234 := n10_; have NB234_216 := n11_; clear n0_ n1_ n2_ n3_ n4_ n5_ n6_ n7_ n8_ n9_ n10_ n11_; clear hb hbox hg; have hnb35 := NB234_215.out; have hnc35 := NB215_234.out; have hnb36 := NB234_216.out; have hnc36 := NB216_234.out; have hcz37_0 : w34.cell? ⟨gb234, 0, none⟩ = some (.int .i64 0) := (blk_cell BK234.out 0).trans rfl; have hcz37_1 : w34.cell? ⟨gb234, 1, none⟩ = some (.int .i64 0) := (blk_cell BK234.out 1).trans rfl; have hcz37_2 : w34.cell? ⟨gb234, 2, none⟩ = some (.int .i64 0) := (blk_cell BK234.out 2).trans rfl; have hcz37_3 : w34.cell? ⟨gb234, 3, none⟩ = some (.int .i64 0) := (blk_cell BK234.out 3).trans rfl; have hcz37_4 : w34.cell? ⟨gb234, 4, none⟩ = some (.int .i64 0) := (blk_cell BK234.out 4).trans rfl; have hcz37_5 : w34.cell? ⟨gb234, 5, none⟩ = some (.int .i64 0) := (blk_cell BK234.out 5).trans rfl; have hfz37_0 := blk_frozen BK234.out 0; have hfz37_1 := blk_frozen BK234.out 1; have hfz37_2 := blk_frozen BK234.out 2; have hfz37_3 := blk_frozen BK234.out 3; have hfz37_4 := blk_frozen BK234.out 4; have hfz37_5 := blk_frozen BK234.out 5))
 have n0_ : Aside0 (Kd.R k63 63 ((((((w34.setCell ⟨gb234, 0, none⟩ (.int .i64 t228)).setCell ⟨gb234, 1, none⟩ (.int .i64 t229)).setCell ⟨gb234, 2, none⟩ (.int .i64 t230)).setCell ⟨gb234, 3, none⟩ (.int .i64 t231)).setCell ⟨gb234, 4, none⟩ (.int .i64 t232)).setCell ⟨gb234, 5, none⟩ (.int .i64 t233)) w.heap.size (fun k_ => k_ ≠ gb216) (.slice Ao26 y217.length co26) y217) := ⟨by (with_reducible repeat (first | apply Kd.R_alloc | apply Kd.R_drewN | apply Kd.R_drew)); exact Kd.R_mono (Kd.R_far (p := ⟨gb234, 5, none⟩) (Kd.R_far (p := ⟨gb234, 4, none⟩) (Kd.R_far (p := ⟨gb234, 3, none⟩) (Kd.R_far (p := ⟨gb234, 2, none⟩) (Kd.R_far (p := ⟨gb234, 1, none⟩) (Kd.R_far (p := ⟨gb234, 0, none⟩) (Kd.R_types HO219.out BK234.out (by decide)) (fun _ hk => hk.2) (.int .i64 t228)) (fun _ hk => hk.2) (.int .i64 t229)) (fun _ hk => hk.2) (.int .i64 t230)) (fun _ hk => hk.2) (.int .i64 t231)) (fun _ hk => hk.2) (.int .i64 t232)) (fun _ hk => hk.2) (.int .i64 t233)) (fun _ hk => hk.1.2)⟩
 have n1_ : Aside0 (Kd.S k67 67 ((((((w34.setCell ⟨gb234, 0, none⟩ (.int .i64 t228)).setCell ⟨gb234, 1, none⟩ (.int .i64 t229)).setCell ⟨gb234, 2, none⟩ (.int .i64 t230)).setCell ⟨gb234, 3, none⟩ (.int .i64 t231)).setCell ⟨gb234, 4, none⟩ (.int .i64 t232)).setCell ⟨gb234, 5, none⟩ (.int .i64 t233)) w.heap.size (fun _ => True) (.slice Ao32 t220.length co32) t220) := ⟨by (with_reducible repeat (first | apply Kd.S_alloc | apply Kd.S_drewN | apply Kd.S_drew)); exact Kd.S_mono (Kd.S_far (p := ⟨gb234, 5, none⟩) (Kd.S_far (p := ⟨gb234, 4, none⟩) (Kd.S_far (p := ⟨gb234, 3, none⟩) (Kd.S_far (p := ⟨gb234, 2, none⟩) (Kd.S_far (p := ⟨gb234, 1, none⟩) (Kd.S_far (p := ⟨gb234, 0, none⟩) (Kd.S_types HO222.out BK234.out (by decide)) (fun _ hk => hk.2) (.int .i64 t228)) (fun _ hk => hk.2) (.int .i64 t229)) (fun _ hk => hk.2) (.int .i64 t230)) (fun _ hk => hk.2) (.int .i64 t231)) (fun _ hk => hk.2) (.int .i64 t232)) (fun _ hk => hk.2) (.int .i64 t233)) (fun _ hk => trivial)⟩
 have n2_ : Aside0 (((((((w34.setCell ⟨gb234, 0, none⟩ (.int .i64 t228)).setCell ⟨gb234, 1, none⟩ (.int .i64 t229)).setCell ⟨gb234, 2, none⟩ (.int .i64 t230)).setCell ⟨gb234, 3, none⟩ (.int .i64 t231)).setCell ⟨gb234, 4, none⟩ (.int .i64 t232)).setCell ⟨gb234, 5, none⟩ (.int .i64 t233)).heap[gb215]? = some (.cells #[.int .i64 8, .int .i64 4, .int .i64 2] 25 (0, 0))) := ⟨by (with_reducible repeat (first | refine blk_drewN ?_ _ | refine blk_drew ?_ | refine blk_alloc ?_ _)); refine blk_far ?_ NB215_234.out _; (with_reducible repeat (first | refine blk_drewN ?_ _ | refine blk_drew ?_ | refine blk_alloc ?_ _)); refine blk_far ?_ NB215_234.out _; (with_reducible repeat (first | refine blk_drewN ?_ _ | refine blk_drew ?_ | refine blk_alloc ?_ _)); refine blk_far ?_ NB215_234.out _; (with_reducible repeat (first | refine blk_drewN ?_ _ | refine blk_drew ?_ | refine blk_alloc ?_ _)); refine blk_far ?_ NB215_234.out _; (with_reducible repeat (first | refine blk_drewN ?_ _ | refine blk_drew ?_ | refine blk_alloc ?_ _)); refine blk_far ?_ NB215_234.out _; (with_reducible repeat (first | refine blk_drewN ?_ _ | refine blk_drew ?_ | refine blk_alloc ?_ _)); refine blk_far ?_ NB215_234.out _; (with_reducible repeat (first | refine blk_drewN ?_ _ | refine blk_drew ?_ | refine blk_alloc ?_ _)); exact BK215.out⟩
 have n3_ : Aside0 (((((((w34.setCell ⟨gb234, 0, none⟩ (.int .i64 t228)).setCell ⟨gb234, 1, none⟩ (.int .i64 t229)).setCell ⟨gb234, 2, none⟩ (.int .i64 t230)).setCell ⟨gb234, 3, none⟩ (.int .i64 t231)).setCell ⟨gb234, 4, none⟩ (.int .i64 t232)).setCell ⟨gb234, 5, none⟩ (.int .i64 t233)).heap[gb216]? = some (.cells #[.int .i64 1, .int .i64 2, .int .i64 (-1)] 63 (0, 0))) := ⟨by (with_reducible repeat (first | refine blk_drewN ?_ _ | refine blk_drew ?_ | refine blk_alloc ?_ _)); refine blk_far ?_ NB216_234.out _; (with_reducible repeat (first | refine blk_drewN ?_ _ | refine blk_drew ?_ | refine blk_alloc ?_ _)); refine blk_far ?_ NB216_234.out _; (with_reducible repeat (first | refine blk_drewN ?_ _ | refine blk_drew ?_ | refine blk_alloc ?_ _)); refine blk_far ?_ NB216_234.out _; (with_reducible repeat (first | refine blk_drewN ?_ _ | refine blk_drew ?_ | refine blk_alloc ?_ _)); refine blk_far ?_ NB216_234.out _; (with_reducible repeat (first | refine blk_drewN ?_ _ | refine blk_drew ?_ | refine blk_alloc ?_ _)); refine blk_far ?_ NB216_234.out _; (with_reducible repeat (first | refine blk_drewN ?_ _ | refine blk_drew ?_ | refine blk_alloc ?_ _)); refine blk_far ?_ NB216_234.out _; (with_reducible repeat (first | refine blk_drewN ?_ _ | refine blk_drew ?_ | refine blk_alloc ?_ _)); exact BK216.out⟩
 have n4_ : Aside0 (((((((w34.setCell ⟨gb234, 0, none⟩ (.int .i64 t228)).setCell ⟨gb234, 1, none⟩ (.int .i64 t229)).setCell ⟨gb234, 2, none⟩ (.int .i64 t230)).setCell ⟨gb234, 3, none⟩ (.int .i64 t231)).setCell ⟨gb234, 4, none⟩ (.int .i64 t232)).setCell ⟨gb234, 5, none⟩ (.int .i64 t233)).heap[gb234]? = some (.cells #[.int .i64 t228, .int .i64 t229, .int .i64 t230, .int .i64 t231, .int .i64 t232, .int .i64 t233] 69 (0, 0))) := ⟨by (with_reducible repeat (first | refine blk_drewN ?_ _ | refine blk_drew ?_ | refine blk_alloc ?_ _)); refine blk_put (cs := #[.int .i64 t228, .int .i64 t229, .int .i64 t230, .int .i64 t231, .int .i64 t232, .int .i64 0]) ?_ 5 _ rfl; (with_reducible repeat (first | refine blk_drewN ?_ _ | refine blk_drew ?_ | refine blk_alloc ?_ _)); refine blk_put (cs := #[.int .i64 t228, .int .i64 t229, .int .i64 t230, .int .i64 t231, .int .i64 0, .int .i64 0]) ?_ 4 _ rfl; (with_reducible repeat (first | refine blk_drewN ?_ _ | refine blk_drew ?_ | refine blk_alloc ?_ _)); refine blk_put (cs := #[.int .i64 t228, .int .i64 t229, .int .i64 t230, .int .i64 0, .int .i64 0, .int .i64 0]) ?_ 3 _ rfl; (with_reducible repeat (first | refine blk_drewN ?_ _ | refine blk_drew ?_ | refine blk_alloc ?_ _)); refine blk_put (cs := #[.int .i64 t228, .int .i64 t229, .int .i64 0, .int .i64 0, .int .i64 0, .int .i64 0]) ?_ 2 _ rfl; (with_reducible repeat (first | refine blk_drewN ?_ _ | refine blk_drew ?_ | refine blk_alloc ?_ _)); refine blk_put (cs := #[.int .i64 t228, .int .i64 0, .int .i64 0, .int .i64 0, .int .i64 0, .int .i64 0]) ?_ 1 _ rfl; (with_reducible repeat (first | refine blk_drewN ?_ _ | refine blk_drew ?_ | refine blk_alloc ?_ _)); refine blk_put (cs := #[.int .i64 0, .int .i64 0, .int .i64 0, .int .i64 0, .int .i64 0, .int .i64 0]) ?_ 0 _ rfl; (with_reducible repeat (first | refine blk_drewN ?_ _ | refine blk_drew ?_ | refine blk_alloc ?_ _)); exact BK234.out⟩
 have n5_ : Aside0 (Below w.heap.size w ((((((w34.setCell ⟨gb234, 0, none⟩ (.int .i64 t228)).setCell ⟨gb234, 1, none⟩ (.int .i64 t229)).setCell ⟨gb234, 2, none⟩ (.int .i64 t230)).setCell ⟨gb234, 3, none⟩ (.int .i64 t231)).setCell ⟨gb234, 4, none⟩ (.int .i64 t232)).setCell ⟨gb234, 5, none⟩ (.int .i64 t233))) := ⟨by repeat (first | (with_reducible first | exact HB.out | apply below_alloc | apply pw_below_drewN | apply below_drew1 | refine below_set ?_ GE215.out | refine below_set ?_ GE216.out | refine below_set ?_ GE234.out) | exact HB.out)⟩
 (try clear HO219)
 (try clear HO222)
 (try clear BK215)
 (try clear BK216)
 (try clear BK234)
 (try clear HB)
 generalize ((((((w34.setCell ⟨gb234, 0, none⟩ (.int .i64 t228)).setCell ⟨gb234, 1, none⟩ (.int .i64 t229)).setCell ⟨gb234, 2, none⟩ (.int .i64 t230)).setCell ⟨gb234, 3, none⟩ (.int .i64 t231)).setCell ⟨gb234, 4, none⟩ (.int .i64 t232)).setCell ⟨gb234, 5, none⟩ (.int .i64 t233)) = w38 at n0_ n1_ n2_ n3_ n4_ n5_ ⊢
 have HO219 := n0_
 have HO222 := n1_
 have BK215 := n2_
 have BK216 := n3_
 have BK234 := n4_
 have HB := n5_
 clear n0_ n1_ n2_ n3_ n4_ n5_
 have n0_ := Aside0.mk (Kd.R_drew HO219.out)
 have n1_ := Aside0.mk (Kd.S_drew HO222.out)
 have n2_ := Aside0.mk (blk_drew BK215.out)
 have n3_ := Aside0.mk (blk_drew BK216.out)
 have n4_ := Aside0.mk (blk_drew BK234.out)
 have n5_ := Aside0.mk (below_drew1 HB.out)
 clear HO219
 clear HO222
 clear BK215
 clear BK216
 clear BK234
 clear HB
 have HO219 := n0_
 have HO222 := n1_
 have BK215 := n2_
 have BK216 := n3_
 have BK234 := n4_
 have HB := n5_
 clear n0_ n1_ n2_ n3_ n4_ n5_
 have p235 : 0 ≤ (0 : Int) := (by omega)
 have q235 : 0 < (t220.length : Int) := of_decide_eq_true (by first | (with_reducible assumption) | assumption)
 obtain ⟨ad235, A235_5, c235_5, e235, hx235_0, hx235_1, hx235_2, hx235_3, hx235_4, hx235_5, hl235_5, hi235_5⟩ := at_T67 (Kd.S_reads' HO222.out).2.2 0 p235 q235
 cases e235
 obtain ⟨ce235, hce235, hMe235, hcc235⟩ := Kd.S_get HO222.out z67 0 p235 (by first | exact q235 | exact of_decide_eq_true (by first | (with_reducible assumption) | assumption) | (have e_ := (Kd.S_reads' HO222.out).1; omega))
 obtain ⟨ve235_5, rfl, ge235_5⟩ := k67_openM hMe235
 have hv235_5 := hcc235 5 _ rfl
 rw [add_field _ _ 5 (by omega)] at hv235_5
 replace hv235_5 := Option.some.inj (hv235_5.symm.trans hx235_5)
 rw [hv235_5] at ge235_5
 have HL235_5 := Aside0.mk (show Kd.R (Kd.int .i64) 3 _ _ _ _ ((rd_T67 t220 0).f2) from ge235_5)
 clear hv235_5 ge235_5
 clear hcc235 hce235
 have qi235 : (0 < t220.length) = True := eq_true (by omega)
 (try rw [show ((0 : Int)).toNat = 0 from rfl] at hx235_0)
 (try rw [show 0 * 6 = 0 from rfl] at hx235_0)
 (try rw [Addr.add_zero'] at hx235_0)
 (try rw [show ((0 : Int)).toNat = 0 from rfl] at hx235_1)
 (try rw [show 0 * 6 = 0 from rfl] at hx235_1)
 (try rw [Addr.add_zero'] at hx235_1)
 (try rw [show ((0 : Int)).toNat = 0 from rfl] at hx235_2)
 (try rw [show 0 * 6 = 0 from rfl] at hx235_2)
 (try rw [Addr.add_zero'] at hx235_2)
 (try rw [show ((0 : Int)).toNat = 0 from rfl] at hx235_3)
 (try rw [show 0 * 6 = 0 from rfl] at hx235_3)
 (try rw [Addr.add_zero'] at hx235_3)
 (try rw [show ((0 : Int)).toNat = 0 from rfl] at hx235_4)
 (try rw [show 0 * 6 = 0 from rfl] at hx235_4)
 (try rw [Addr.add_zero'] at hx235_4)
 (try rw [show ((0 : Int)).toNat = 0 from rfl] at hx235_5)
 (try rw [show 0 * 6 = 0 from rfl] at hx235_5)
 (try rw [Addr.add_zero'] at hx235_5)
 have HR235_5 := Aside0.mk hi235_5
 have HC235_5 := Aside0.mk hl235_5
 clear hi235_5 hl235_5
 replace p235 := eq_true p235
 replace q235 := eq_true q235
 have p236 : 0 ≤ (1 : Int) := (by omega)
 have q236 : 1 < (t220.length : Int) := of_decide_eq_true (by first | (with_reducible assumption) | assumption)
 obtain ⟨ad236, A236_5, c236_5, e236, hx236_0, hx236_1, hx236_2, hx236_3, hx236_4, hx236_5, hl236_5, hi236_5⟩ := at_T67 (Kd.S_reads' HO222.out).2.2 1 p236 q236
 obtain rfl : ad235 = ad236 := (by injection e236)
 obtain ⟨ce236, hce236, hMe236, hcc236⟩ := Kd.S_get HO222.out z67 1 p236 (by first | exact q236 | exact of_decide_eq_true (by first | (with_reducible assumption) | assumption) | (have e_ := (Kd.S_reads' HO222.out).1; omega))
 obtain ⟨ve236_5, rfl, ge236_5⟩ := k67_openM hMe236
 have hv236_5 := hcc236 5 _ rfl
 rw [add_field _ _ 5 (by omega)] at hv236_5
 replace hv236_5 := Option.some.inj (hv236_5.symm.trans hx236_5)
 rw [hv236_5] at ge236_5
 have HL236_5 := Aside0.mk (show Kd.R (Kd.int .i64) 3 _ _ _ _ ((rd_T67 t220 1).f2) from ge236_5)
 clear hv236_5 ge236_5
 clear hcc236 hce236
 (try simp only [show (1 : Int).toNat = 1 from rfl, Nat.reduceMul, Nat.reduceEqDiff, Go.Addr.add, ↓reduceIte] at hx236_0)
 (try simp only [show (1 : Int).toNat = 1 from rfl, Nat.reduceMul, Nat.reduceEqDiff, Go.Addr.add, ↓reduceIte] at hx236_1)
 (try simp only [show (1 : Int).toNat = 1 from rfl, Nat.reduceMul, Nat.reduceEqDiff, Go.Addr.add, ↓reduceIte] at hx236_2)
 (try simp only [show (1 : Int).toNat = 1 from rfl, Nat.reduceMul, Nat.reduceEqDiff, Go.Addr.add, ↓reduceIte] at hx236_3)
 (try simp only [show (1 : Int).toNat = 1 from rfl, Nat.reduceMul, Nat.reduceEqDiff, Go.Addr.add, ↓reduceIte] at hx236_4)
 (try simp only [show (1 : Int).toNat = 1 from rfl, Nat.reduceMul, Nat.reduceEqDiff, Go.Addr.add, ↓reduceIte] at hx236_5)
 have qi236 : (1 < t220.length) = True := eq_true (by omega)
 (try rw [show ((1 : Int)).toNat = 1 from rfl] at hx236_0)
 (try rw [show 1 * 6 = 6 from rfl] at hx236_0)
 (try rw [show ((1 : Int)).toNat = 1 from rfl] at hx236_1)
 (try rw [show 1 * 6 = 6 from rfl] at hx236_1)
 (try rw [show ((1 : Int)).toNat = 1 from rfl] at hx236_2)
 (try rw [show 1 * 6 = 6 from rfl] at hx236_2)
 (try rw [show ((1 : Int)).toNat = 1 from rfl] at hx236_3)
 (try rw [show 1 * 6 = 6 from rfl] at hx236_3)
 (try rw [show ((1 : Int)).toNat = 1 from rfl] at hx236_4)
 (try rw [show 1 * 6 = 6 from rfl] at hx236_4)
 (try rw [show ((1 : Int)).toNat = 1 from rfl] at hx236_5)
 (try rw [show 1 * 6 = 6 from rfl] at hx236_5)
 have HR236_5 := Aside0.mk hi236_5
 have HC236_5 := Aside0.mk hl236_5
 clear hi236_5 hl236_5
 replace p236 := eq_true p236
 replace q236 := eq_true q236
 refine start_ (n := 50) (S := fun w' => w'.cell? ⟨gb216, 0, none⟩ = some (.int .i64 1) ∧ w'.cell? ⟨gb216, 1, none⟩ = some (.int .i64 2) ∧ w'.cell? ⟨gb216, 2, none⟩ = some (.int .i64 (-1)) ∧ w'.cell? ⟨gb234, 0, none⟩ = some (.int .i64 t228) ∧ w'.cell? ⟨gb234, 1, none⟩ = some (.int .i64 t229) ∧ w'.cell? ⟨gb234, 2, none⟩ = some (.int .i64 t230) ∧ w'.cell? ⟨gb234, 3, none⟩ = some (.int .i64 t231) ∧ w'.cell? ⟨gb234, 4, none⟩ = some (.int .i64 t232) ∧ w'.cell? ⟨gb234, 5, none⟩ = some (.int .i64 t233) ∧ w'.cell? ⟨gb215, 0, none⟩ = some (.int .i64 8) ∧ w'.cell? ⟨gb215, 1, none⟩ = some (.int .i64 4) ∧ w'.cell? ⟨gb215, 2, none⟩ = some (.int .i64 2) ∧ w'.cell? ad235 = some (.int .i64 ((rd_T67 t220 0).f0.f0.f0)) ∧ w'.cell? ⟨ad235.block, ad235.off + 1, none⟩ = some (.int .i64 ((rd_T67 t220 0).f0.f0.f1)) ∧ w'.cell? ⟨ad235.block, ad235.off + 2, none⟩ = some (.int .i64 ((rd_T67 t220 0).f0.f0.f2)) ∧ w'.cell? ⟨ad235.block, ad235.off + 3, none⟩ = some (.int .i64 ((rd_T67 t220 0).f0.f1)) ∧ w'.cell? ⟨ad235.block, ad235.off + 4, none⟩ = some (.int .i64 ((rd_T67 t220 0).f1)) ∧ w'.cell? ⟨ad235.block, ad235.off + 5, none⟩ = some (.slice A235_5 ((rd_T67 t220 0).f2).length c235_5) ∧ w'.cell? ⟨ad235.block, ad235.off + 6, none⟩ = some (.int .i64 ((rd_T67 t220 1).f0.f0.f0)) ∧ w'.cell? ⟨ad235.block, ad235.off + 6 + 1, none⟩ = some (.int .i64 ((rd_T67 t220 1).f0.f0.f1)) ∧ w'.cell? ⟨ad235.block, ad235.off + 6 + 2, none⟩ = some (.int .i64 ((rd_T67 t220 1).f0.f0.f2)) ∧ w'.cell? ⟨ad235.block, ad235.off + 6 + 3, none⟩ = some (.int .i64 ((rd_T67 t220 1).f0.f1)) ∧ w'.cell? ⟨ad235.block, ad235.off + 6 + 4, none⟩ = some (.int .i64 ((rd_T67 t220 1).f1)) ∧ w'.cell? ⟨ad235.block, ad235.off + 6 + 5, none⟩ = some (.slice A236_5 ((rd_T67 t220 1).f2).length c236_5)) (ds := []) #[O,O,O,O,O,O,O,O,O,O,O,O,O,O,O,O,O,O,O,O,O,O,O,O,O,O,O,O,O,O,O,O,O,O,O,O,O,O,O,O,O,O,O,O,O,O,O,O,O,O] (by kernel_rfl) rfl rfl ⟨(blk_cell BK216.out 0).trans rfl, (blk_cell BK216.out 1).trans rfl, (blk_cell BK216.out 2).trans rfl, (blk_cell BK234.out 0).trans rfl, (blk_cell BK234.out 1).trans rfl, (blk_cell BK234.out 2).trans rfl, (blk_cell BK234.out 3).trans rfl, (blk_cell BK234.out 4).trans rfl, (blk_cell BK234.out 5).trans rfl, (blk_cell BK215.out 0).trans rfl, (blk_cell BK215.out 1).trans rfl, (blk_cell BK215.out 2).trans rfl, hx235_0, hx235_1, hx235_2, hx235_3, hx235_4, hx235_5, hx236_0, hx236_1, hx236_2, hx236_3, hx236_4, hx236_5⟩ (fun hHeld => ?_); refine with_tabW ambidextertop_head23.tab9 ambidextertop_head23.bits9 (fun HT_ HW_ => ?_)
 generalize w38.drew = w39 at HO219 HO222 BK215 BK216 BK234 HB HL235_5 HL236_5 HR235_5 HR236_5 hx235_0 hx235_1 hx235_2 hx235_3 hx235_4 hx235_5 hx236_0 hx236_1 hx236_2 hx236_3 hx236_4 hx236_5 hHeld ⊢
 refine pq_ (i := 0) (N := some 40) #[I,O,O,O,O,O,O,O,O,O,O,O,O,O,O,O,O,O,O,O,O,O,O,O,O,O,O,O,O,O,O,O,O,O,O,O,O,O,O,O,O,O,O,O,O,O,O,O,O,O] HT_ ?_
 refine pq_ (i := 1) (N := some 41) #[I,I,O,O,O,O,O,O,O,O,O,O,O,O,O,O,O,O,O,O,O,O,O,O,O,O,O,O,O,O,O,O,O,O,O,O,O,O,O,O,O,O,O,O,O,O,O,O,O,O] HT_ ?_
 refine pq_ (i := 2) (N := some 42) #[I,I,I,O,O,O,O,O,O,O,O,O,O,O,O,O,O,O,O,O,O,O,O,O,O,O,O,O,O,O,O,O,O,O,O,O,O,O,O,O,O,O,O,O,O,O,O,O,O,O] HT_ ?_
 refine pq_ (i := 3) (N := some 43) #[I,I,I,I,O,O,O,O,O,O,O,O,O,O,O,O,O,O,O,O,O,O,O,O,O,O,O,O,O,O,O,O,O,O,O,O,O,O,O,O,O,O,O,O,O,O,O,O,O,O] HT_ ?_
 refine pq_ (i := 4) (N := some 44) #[I,I,I,I,I,O,O,O,O,O,O,O,O,O,O,O,O,O,O,O,O,O,O,O,O,O,O,O,O,O,O,O,O,O,O,O,O,O,O,O,O,O,O,O,O,O,O,O,O,O] HT_ ?_
 refine pq_ (i := 5) (N := some 45) #[I,I,I,I,I,I,O,O,O,O,O,O,O,O,O,O,O,O,O,O,O,O,O,O,O,O,O,O,O,O,O,O,O,O,O,O,O,O,O,O,O,O,O,O,O,O,O,O,O,O] HT_ ?_
 refine pq_ (i := 6) (N := some 46) #[I,I,I,I,I,I,I,O,O,O,O,O,O,O,O,O,O,O,O,O,O,O,O,O,O,O,O,O,O,O,O,O,O,O,O,O,O,O,O,O,O,O,O,O,O,O,O,O,O,O] HT_ ?_
 refine pq_ (i := 7) (N := some 47) #[I,I,I,I,I,I,I,I,O,O,O,O,O,O,O,O,O,O,O,O,O,O,O,O,O,O,O,O,O,O,O,O,O,O,O,O,O,O,O,O,O,O,O,O,O,O,O,O,O,O] HT_ ?_
 refine pq_ (i := 8) (N := some 48) #[I,I,I,I,I,I,I,I,I,O,O,O,O,O,O,O,O,O,O,O,O,O,O,O,O,O,O,O,O,O,O,O,O,O,O,O,O,O,O,O,O,O,O,O,O,O,O,O,O,O] HT_ ?_
 refine pq_ (i := 9) (N := some 49) #[I,I,I,I,I,I,I,I,I,I,O,O,O,O,O,O,O,O,O,O,O,O,O,O,O,O,O,O,O,O,O,O,O,O,O,O,O,O,O,O,O,O,O,O,O,O,O,O,O,O] HT_ ?_
 refine pq_ (i := 10) (N := some 50) #[I,I,I,I,I,I,I,I,I,I,I,O,O,O,O,O,O,O,O,O,O,O,O,O,O,O,O,O,O,O,O,O,O,O,O,O,O,O,O,O,O,O,O,O,O,O,O,O,O,O] HT_ ?_
 refine pq_ (i := 11) (N := some 51) #[I,I,I,I,I,I,I,I,I,I,I,I,O,O,O,O,O,O,O,O,O,O,O,O,O,O,O,O,O,O,O,O,O,O,O,O,O,O,O,O,O,O,O,O,O,O,O,O,O,O] HT_ ?_
 refine take_ (i := 12) (N := some 52) (v := ?_) (a' := ?_) #[I,I,I,I,I,I,I,I,I,I,I,I,I,O,O,O,O,O,O,O,O,O,O,O,O,O,O,O,O,O,O,O,O,O,O,O,O,O,O,O,O,O,O,O,O,O,O,O,O,O] rfl rfl (take_ofW HT_.out HW_.out (by kernel_rfl)) (fun _ _ _ h => h) (Or.inl ⟨by rfl, ?_⟩) hHeld ?_ ?_
 rotate_left
 ·
  rintro w' ⟨s0, s1, s2, s3, s4, s5, s6, s7, s8, s9, s10, s11, s12, s13, s14, s15, s16, s17, s18, s19, s20, s21, s22, s23⟩
  go_simp
  with_reducible rfl
 rotate_left; · (simp only [Act.put, List.setIfInBounds_toArray, List.set_cons_zero, List.set_cons_succ, i64_w, i32_w]; rfl)
 refine take_ (i := 13) (N := some 53) (v := ?_) (a' := ?_) #[I,I,I,I,I,I,I,I,I,I,I,I,I,I,O,O,O,O,O,O,O,O,O,O,O,O,O,O,O,O,O,O,O,O,O,O,O,O,O,O,O,O,O,O,O,O,O,O,O,O] rfl rfl (take_ofW HT_.out HW_.out (by kernel_rfl)) (fun _ _ _ h => h) (Or.inl ⟨by rfl, ?_⟩) hHeld ?_ ?_
 rotate_left
 ·
  rintro w' ⟨s0, s1, s2, s3, s4, s5, s6, s7, s8, s9, s10, s11, s12, s13, s14, s15, s16, s17, s18, s19, s20, s21, s22, s23⟩
  go_simp
  with_reducible rfl
 rotate_left; · (simp only [Act.put, List.setIfInBounds_toArray, List.set_cons_zero, List.set_cons_succ, i64_w, i32_w]; rfl)
 refine pq_ (i := 14) (N := some 54) #[I,I,I,I,I,I,I,I,I,I,I,I,I,I,I,O,O,O,O,O,O,O,O,O,O,O,O,O,O,O,O,O,O,O,O,O,O,O,O,O,O,O,O,O,O,O,O,O,O,O] HT_ ?_
 refine pq_ (i := 15) (N := some 55) #[I,I,I,I,I,I,I,I,I,I,I,I,I,I,I,I,O,O,O,O,O,O,O,O,O,O,O,O,O,O,O,O,O,O,O,O,O,O,O,O,O,O,O,O,O,O,O,O,O,O] HT_ ?_
 refine pq_ (i := 16) (N := some 56) #[I,I,I,I,I,I,I,I,I,I,I,I,I,I,I,I,I,O,O,O,O,O,O,O,O,O,O,O,O,O,O,O,O,O,O,O,O,O,O,O,O,O,O,O,O,O,O,O,O,O] HT_ ?_
 refine pq_ (i := 17) (N := some 57) #[I,I,I,I,I,I,I,I,I,I,I,I,I,I,I,I,I,I,O,O,O,O,O,O,O,O,O,O,O,O,O,O,O,O,O,O,O,O,O,O,O,O,O,O,O,O,O,O,O,O] HT_ ?_
 refine pq_ (i := 18) (N := some 58) #[I,I,I,I,I,I,I,I,I,I,I,I,I,I,I,I,I,I,I,O,O,O,O,O,O,O,O,O,O,O,O,O,O,O,O,O,O,O,O,O,O,O,O,O,O,O,O,O,O,O] HT_ ?_
 refine pq_ (i := 19) (N := some 59) #[I,I,I,I,I,I,I,I,I,I,I,I,I,I,I,I,I,I,I,I,O,O,O,O,O,O,O,O,O,O,O,O,O,O,O,O,O,O,O,O,O,O,O,O,O,O,O,O,O,O] HT_ ?_
 refine pq_ (i := 20) (N := some 60) #[I,I,I,I,I,I,I,I,I,I,I,I,I,I,I,I,I,I,I,I,I,O,O,O,O,O,O,O,O,O,O,O,O,O,O,O,O,O,O,O,O,O,O,O,O,O,O,O,O,O] HT_ ?_
 refine pq_ (i := 22) (N := some 62) #[I,I,I,I,I,I,I,I,I,I,I,I,I,I,I,I,I,I,I,I,I,O,I,O,O,O,O,O,O,O,O,O,O,O,O,O,O,O,O,O,O,O,O,O,O,O,O,O,O,O] HT_ ?_
 refine take_ (i := 21) (N := some 61) (v := ?_) (a' := ?_) #[I,I,I,I,I,I,I,I,I,I,I,I,I,I,I,I,I,I,I,I,I,I,I,O,O,O,O,O,O,O,O,O,O,O,O,O,O,O,O,O,O,O,O,O,O,O,O,O,O,O] rfl rfl (take_ofW HT_.out HW_.out (by kernel_rfl)) (fun _ _ _ h => h) (Or.inl ⟨by rfl, ?_⟩) hHeld ?_ ?_
 rotate_left
 ·
  rintro w' ⟨s0, s1, s2, s3, s4, s5, s6, s7, s8, s9, s10, s11, s12, s13, s14, s15, s16, s17, s18, s19, s20, s21, s22, s23⟩
  go_simp
  with_reducible rfl
 rotate_left; · (simp only [Act.put, List.setIfInBounds_toArray, List.set_cons_zero, List.set_cons_succ, i64_w, i32_w]; rfl)
 refine pq_ (i := 23) (N := some 63) #[I,I,I,I,I,I,I,I,I,I,I,I,I,I,I,I,I,I,I,I,I,I,I,I,O,O,O,O,O,O,O,O,O,O,O,O,O,O,O,O,O,O,O,O,O,O,O,O,O,O] HT_ ?_
 refine pq_ (i := 24) (N := some 64) #[I,I,I,I,I,I,I,I,I,I,I,I,I,I,I,I,I,I,I,I,I,I,I,I,I,O,O,O,O,O,O,O,O,O,O,O,O,O,O,O,O,O,O,O,O,O,O,O,O,O] HT_ ?_
 refine pq_ (i := 25) (N := some 65) #[I,I,I,I,I,I,I,I,I,I,I,I,I,I,I,I,I,I,I,I,I,I,I,I,I,I,O,O,O,O,O,O,O,O,O,O,O,O,O,O,O,O,O,O,O,O,O,O,O,O] HT_ ?_
 refine pq_ (i := 26) (N := some 66) #[I,I,I,I,I,I,I,I,I,I,I,I,I,I,I,I,I,I,I,I,I,I,I,I,I,I,I,O,O,O,O,O,O,O,O,O,O,O,O,O,O,O,O,O,O,O,O,O,O,O] HT_ ?_
 refine pq_ (i := 28) (N := some 68) #[I,I,I,I,I,I,I,I,I,I,I,I,I,I,I,I,I,I,I,I,I,I,I,I,I,I,I,O,I,O,O,O,O,O,O,O,O,O,O,O,O,O,O,O,O,O,O,O,O,O] HT_ ?_
 refine pq_ (i := 29) (N := some 69) #[I,I,I,I,I,I,I,I,I,I,I,I,I,I,I,I,I,I,I,I,I,I,I,I,I,I,I,O,I,I,O,O,O,O,O,O,O,O,O,O,O,O,O,O,O,O,O,O,O,O] HT_ ?_
 refine pq_ (i := 30) (N := some 70) #[I,I,I,I,I,I,I,I,I,I,I,I,I,I,I,I,I,I,I,I,I,I,I,I,I,I,I,O,I,I,I,O,O,O,O,O,O,O,O,O,O,O,O,O,O,O,O,O,O,O] HT_ ?_
 refine one_ (i := 27) (N := some 67) #[I,I,I,I,I,I,I,I,I,I,I,I,I,I,I,I,I,I,I,I,I,I,I,I,I,I,I,I,I,I,I,O,O,O,O,O,O,O,O,O,O,O,O,O,O,O,O,O,O,O] rfl rfl (one_of HT_.out (by kernel_rfl)) (by decide) (fun K hK => ?_)
 refine goes_ Try.func29 (by kernel_rfl) rfl #[.slice (some ad235) t220.length co32] (by rfl) rfl rfl (by (try simp only [List.map_toArray, List.map_cons, List.map_nil]); first | done | rfl | (simp only [List.length_drop, List.length_take]; rfl)) ?_
 with_reducible refine (timetable_Duration.calls k _ _ t220 t237 _ ?side1 ?side2 A13.out).mono ?_
 (case side1 => repeat (first | exact (Kd.S_reads' HO222.out).2.2 | (with_reducible refine Kd.C_alloc ?_ _) | (with_reducible refine Kd.C_drewN ?_ _) | (with_reducible refine Kd.C_drew ?_)))
 (case side2 => exact (Kd.S_reads' HO222.out).2.1)
 rintro e w40 ⟨rfl, hb⟩
 have HS12_ := hsb_ hb hHeld.2.2.2.2.2.2.2.2.2.2.2.2.1
 have HS13_ := hsb_ hb hHeld.2.2.2.2.2.2.2.2.2.2.2.2.2.1
 have HS14_ := hsb_ hb hHeld.2.2.2.2.2.2.2.2.2.2.2.2.2.2.1
 have HS15_ := hsb_ hb hHeld.2.2.2.2.2.2.2.2.2.2.2.2.2.2.2.1
 have HS16_ := hsb_ hb hHeld.2.2.2.2.2.2.2.2.2.2.2.2.2.2.2.2.1
 have HS17_ := hsb_ hb hHeld.2.2.2.2.2.2.2.2.2.2.2.2.2.2.2.2.2.1
 have HS18_ := hsb_ hb hHeld.2.2.2.2.2.2.2.2.2.2.2.2.2.2.2.2.2.2.1
 have HS19_ := hsb_ hb hHeld.2.2.2.2.2.2.2.2.2.2.2.2.2.2.2.2.2.2.2.1
 have HS20_ := hsb_ hb hHeld.2.2.2.2.2.2.2.2.2.2.2.2.2.2.2.2.2.2.2.2.1
 have HS21_ := hsb_ hb hHeld.2.2.2.2.2.2.2.2.2.2.2.2.2.2.2.2.2.2.2.2.2.1
 have HS22_ := hsb_ hb hHeld.2.2.2.2.2.2.2.2.2.2.2.2.2.2.2.2.2.2.2.2.2.2.1
 have HS23_ := hsb_ hb hHeld.2.2.2.2.2.2.2.2.2.2.2.2.2.2.2.2.2.2.2.2.2.2.2
 refine ⟨_, rfl, ?_⟩
 have n0_ := Aside0.mk (Kd.R_below (by (with_reducible repeat (first | apply Kd.R_alloc | apply Kd.R_drewN | apply Kd.R_drew)); exact HO219.out) hb)
 have n1_ := Aside0.mk (Kd.S_below (by (with_reducible repeat (first | apply Kd.S_alloc | apply Kd.S_drewN | apply Kd.S_drew)); exact HO222.out) hb)
 have n2_ := Aside0.mk (Kd.R_below (by (with_reducible repeat (first | apply Kd.R_alloc | apply Kd.R_drewN | apply Kd.R_drew)); exact HL235_5.out) hb)
 have n3_ := Aside0.mk (Kd.R_below (by (with_reducible repeat (first | apply Kd.R_alloc | apply Kd.R_drewN | apply Kd.R_drew)); exact HL236_5.out) hb)
 have n4_ := Aside0.mk (blk_below (g := gb215) (o := .cells #[.int .i64 8, .int .i64 4, .int .i64 2] 25 (0, 0)) (by (with_reducible repeat (first | refine blk_drewN ?_ _ | refine blk_drew ?_ | refine blk_alloc ?_ _)); exact BK215.out) hb)
 have n5_ := Aside0.mk (blk_below (g := gb216) (o := .cells #[.int .i64 1, .int .i64 2, .int .i64 (-1)] 63 (0, 0)) (by (with_reducible repeat (first | refine blk_drewN ?_ _ | refine blk_drew ?_ | refine blk_alloc ?_ _)); exact BK216.out) hb)
 have n6_ := Aside0.mk (blk_below (g := gb234) (o := .cells #[.int .i64 t228, .int .i64 t229, .int .i64 t230, .int .i64 t231, .int .i64 t232, .int .i64 t233] 69 (0, 0)) (by (with_reducible repeat (first | refine blk_drewN ?_ _ | refine blk_drew ?_ | refine blk_alloc ?_ _)); exact BK234.out) hb)
 have n7_ := Aside0.mk (Kd.C_below (by repeat (first | (with_reducible exact HR235_5.out) | (with_reducible refine Kd.C_alloc ?_ _) | (with_reducible refine Kd.C_drewN ?_ _) | (with_reducible refine Kd.C_drew ?_) | exact HR235_5.out)) hb)
 have n8_ := Aside0.mk (Kd.C_below (by repeat (first | (with_reducible exact HR236_5.out) | (with_reducible refine Kd.C_alloc ?_ _) | (with_reducible refine Kd.C_drewN ?_ _) | (with_reducible refine Kd.C_drew ?_) | exact HR236_5.out)) hb)
 have n9_ := Aside0.mk (below_step (by repeat (first | (with_reducible first | exact HB.out | apply below_alloc | apply pw_below_drewN | apply below_drew1 | refine below_set ?_ GE215.out | refine below_set ?_ GE216.out | refine below_set ?_ GE234.out) | exact HB.out)) hb)
 clear HO219
 clear HO222
 clear HL235_5
 clear HL236_5
 clear BK215
 clear BK216
 clear BK234
 clear HR235_5
 clear HR236_5
 clear HB
 have HO219 := n0_
 have HO222 := n1_
 have HL235_5 := n2_
 have HL236_5 := n3_
 have BK215 := n4_
 have BK216 := n5_
 have BK234 := n6_
 have HR235_5 := n7_
 have HR236_5 := n8_
 have HB := n9_
 clear n0_ n1_ n2_ n3_ n4_ n5_ n6_ n7_ n8_ n9_
 (try clear hb)
 (try clear hb2)
 (try clear hk)
 (try clear hi)
 refine hK.out _ _ ⟨(blk_cell BK216.out 0).trans rfl, (blk_cell BK216.out 1).trans rfl, (blk_cell BK216.out 2).trans rfl, (blk_cell BK234.out 0).trans rfl, (blk_cell BK234.out 1).trans rfl, (blk_cell BK234.out 2).trans rfl, (blk_cell BK234.out 3).trans rfl, (blk_cell BK234.out 4).trans rfl, (blk_cell BK234.out 5).trans rfl, (blk_cell BK215.out 0).trans rfl, (blk_cell BK215.out 1).trans rfl, (blk_cell BK215.out 2).trans rfl, HS12_, HS13_, HS14_, HS15_, HS16_, HS17_, HS18_, HS19_, HS20_, HS21_, HS22_, HS23_⟩ (fun hHeld => ?_)
 clear hK K
 refine norm_ (a' := ?_) ?_ ?_
 rotate_left
 ·
  show Act.put _ (some 67) _ = _
  simp only [Act.put, List.setIfInBounds_toArray, List.set_cons_zero, List.set_cons_succ, i64_w, i32_w]
  rfl
 refine pq_ (i := 31) (N := some 71) #[I,I,I,I,I,I,I,I,I,I,I,I,I,I,I,I,I,I,I,I,I,I,I,I,I,I,I,I,I,I,I,I,O,O,O,O,O,O,O,O,O,O,O,O,O,O,O,O,O,O] HT_ ?_
 refine pq_ (i := 32) (N := some 72) #[I,I,I,I,I,I,I,I,I,I,I,I,I,I,I,I,I,I,I,I,I,I,I,I,I,I,I,I,I,I,I,I,I,O,O,O,O,O,O,O,O,O,O,O,O,O,O,O,O,O] HT_ ?_
 refine pq_ (i := 33) (N := some 73) #[I,I,I,I,I,I,I,I,I,I,I,I,I,I,I,I,I,I,I,I,I,I,I,I,I,I,I,I,I,I,I,I,I,I,O,O,O,O,O,O,O,O,O,O,O,O,O,O,O,O] HT_ ?_
 refine pq_ (i := 34) (N := some 74) #[I,I,I,I,I,I,I,I,I,I,I,I,I,I,I,I,I,I,I,I,I,I,I,I,I,I,I,I,I,I,I,I,I,I,I,O,O,O,O,O,O,O,O,O,O,O,O,O,O,O] HT_ ?_
 refine pq_ (i := 35) (N := some 75) #[I,I,I,I,I,I,I,I,I,I,I,I,I,I,I,I,I,I,I,I,I,I,I,I,I,I,I,I,I,I,I,I,I,I,I,I,O,O,O,O,O,O,O,O,O,O,O,O,O,O] HT_ ?_
 refine take_ (i := 36) (N := some 76) (v := ?_) (a' := ?_) #[I,I,I,I,I,I,I,I,I,I,I,I,I,I,I,I,I,I,I,I,I,I,I,I,I,I,I,I,I,I,I,I,I,I,I,I,I,O,O,O,O,O,O,O,O,O,O,O,O,O] rfl rfl (take_ofW HT_.out HW_.out (by kernel_rfl)) (fun _ _ _ h => h) (Or.inl ⟨by rfl, ?_⟩) hHeld ?_ ?_
 rotate_left
 ·
  rintro w' ⟨s0, s1, s2, s3, s4, s5, s6, s7, s8, s9, s10, s11, s12, s13, s14, s15, s16, s17, s18, s19, s20, s21, s22, s23⟩
  go_simp
  with_reducible rfl
 rotate_left; · (simp only [Act.put, List.setIfInBounds_toArray, List.set_cons_zero, List.set_cons_succ, i64_w, i32_w]; rfl)
 refine pq_ (i := 37) (N := some 77) #[I,I,I,I,I,I,I,I,I,I,I,I,I,I,I,I,I,I,I,I,I,I,I,I,I,I,I,I,I,I,I,I,I,I,I,I,I,I,O,O,O,O,O,O,O,O,O,O,O,O] HT_ ?_
 refine pq_ (i := 38) (N := some 78) #[I,I,I,I,I,I,I,I,I,I,I,I,I,I,I,I,I,I,I,I,I,I,I,I,I,I,I,I,I,I,I,I,I,I,I,I,I,I,I,O,O,O,O,O,O,O,O,O,O,O] HT_ ?_
 refine pq_ (i := 39) (N := some 79) #[I,I,I,I,I,I,I,I,I,I,I,I,I,I,I,I,I,I,I,I,I,I,I,I,I,I,I,I,I,I,I,I,I,I,I,I,I,I,I,I,O,O,O,O,O,O,O,O,O,O] HT_ ?_
 refine pq_ (i := 40) (N := some 80) #[I,I,I,I,I,I,I,I,I,I,I,I,I,I,I,I,I,I,I,I,I,I,I,I,I,I,I,I,I,I,I,I,I,I,I,I,I,I,I,I,I,O,O,O,O,O,O,O,O,O] HT_ ?_
 refine pq_ (i := 41) (N := some 81) #[I,I,I,I,I,I,I,I,I,I,I,I,I,I,I,I,I,I,I,I,I,I,I,I,I,I,I,I,I,I,I,I,I,I,I,I,I,I,I,I,I,I,O,O,O,O,O,O,O,O] HT_ ?_
 refine take_ (i := 42) (N := some 82) (v := ?_) (a' := ?_) #[I,I,I,I,I,I,I,I,I,I,I,I,I,I,I,I,I,I,I,I,I,I,I,I,I,I,I,I,I,I,I,I,I,I,I,I,I,I,I,I,I,I,I,O,O,O,O,O,O,O] rfl rfl (take_ofW HT_.out HW_.out (by kernel_rfl)) (fun _ _ _ h => h) (Or.inl ⟨by rfl, ?_⟩) hHeld ?_ ?_
 rotate_left
 ·
  rintro w' ⟨s0, s1, s2, s3, s4, s5, s6, s7, s8, s9, s10, s11, s12, s13, s14, s15, s16, s17, s18, s19, s20, s21, s22, s23⟩
  go_simp
  with_reducible rfl
 rotate_left; · (simp only [Act.put, List.setIfInBounds_toArray, List.set_cons_zero, List.set_cons_succ, i64_w, i32_w]; rfl)
 refine pq_ (i := 43) (N := some 83) #[I,I,I,I,I,I,I,I,I,I,I,I,I,I,I,I,I,I,I,I,I,I,I,I,I,I,I,I,I,I,I,I,I,I,I,I,I,I,I,I,I,I,I,I,O,O,O,O,O,O] HT_ ?_
 refine pq_ (i := 44) (N := some 84) #[I,I,I,I,I,I,I,I,I,I,I,I,I,I,I,I,I,I,I,I,I,I,I,I,I,I,I,I,I,I,I,I,I,I,I,I,I,I,I,I,I,I,I,I,I,O,O,O,O,O] HT_ ?_
 refine pq_ (i := 45) (N := some 85) #[I,I,I,I,I,I,I,I,I,I,I,I,I,I,I,I,I,I,I,I,I,I,I,I,I,I,I,I,I,I,I,I,I,I,I,I,I,I,I,I,I,I,I,I,I,I,O,O,O,O] HT_ ?_
 refine take_ (i := 46) (N := some 86) (v := ?_) (a' := ?_) #[I,I,I,I,I,I,I,I,I,I,I,I,I,I,I,I,I,I,I,I,I,I,I,I,I,I,I,I,I,I,I,I,I,I,I,I,I,I,I,I,I,I,I,I,I,I,I,O,O,O] rfl rfl (take_ofW HT_.out HW_.out (by kernel_rfl)) (fun _ _ _ h => h) (Or.inl ⟨by rfl, ?_⟩) hHeld ?_ ?_
 rotate_left
 ·
  rintro w' ⟨s0, s1, s2, s3, s4, s5, s6, s7, s8, s9, s10, s11, s12, s13, s14, s15, s16, s17, s18, s19, s20, s21, s22, s23⟩
  go_simp
  with_reducible rfl
 rotate_left; · (simp only [Act.put, List.setIfInBounds_toArray, List.set_cons_zero, List.set_cons_succ, i64_w, i32_w]; rfl)
 refine one_ (i := 47) (N := some 87) #[I,I,I,I,I,I,I,I,I,I,I,I,I,I,I,I,I,I,I,I,I,I,I,I,I,I,I,I,I,I,I,I,I,I,I,I,I,I,I,I,I,I,I,I,I,I,I,I,O,O] rfl rfl (one_of HT_.out (by kernel_rfl)) (by decide) (fun K hK => ?_)
 refine goes_ Try.func48 (by kernel_rfl) rfl #[.agg #[.int .i64 8, .int .i64 4, .int .i64 2]] (by rfl) rfl rfl (by (try simp only [List.map_toArray, List.map_cons, List.map_nil]); first | done | rfl | (simp only [List.length_drop, List.length_take]; rfl)) ?_
 with_reducible refine (profile_ValidLimits.calls 8 4 2 t238 _ A17.out).mono ?_
 rintro e w41 ⟨rfl, hb⟩
 have HS12_ := hsb_ hb hHeld.2.2.2.2.2.2.2.2.2.2.2.2.1
 have HS13_ := hsb_ hb hHeld.2.2.2.2.2.2.2.2.2.2.2.2.2.1
 have HS14_ := hsb_ hb hHeld.2.2.2.2.2.2.2.2.2.2.2.2.2.2.1
 have HS15_ := hsb_ hb hHeld.2.2.2.2.2.2.2.2.2.2.2.2.2.2.2.1
 have HS16_ := hsb_ hb hHeld.2.2.2.2.2.2.2.2.2.2.2.2.2.2.2.2.1
 have HS17_ := hsb_ hb hHeld.2.2.2.2.2.2.2.2.2.2.2.2.2.2.2.2.2.1
 have HS18_ := hsb_ hb hHeld.2.2.2.2.2.2.2.2.2.2.2.2.2.2.2.2.2.2.1
 have HS19_ := hsb_ hb hHeld.2.2.2.2.2.2.2.2.2.2.2.2.2.2.2.2.2.2.2.1
 have HS20_ := hsb_ hb hHeld.2.2.2.2.2.2.2.2.2.2.2.2.2.2.2.2.2.2.2.2.1
 have HS21_ := hsb_ hb hHeld.2.2.2.2.2.2.2.2.2.2.2.2.2.2.2.2.2.2.2.2.2.1
 have HS22_ := hsb_ hb hHeld.2.2.2.2.2.2.2.2.2.2.2.2.2.2.2.2.2.2.2.2.2.2.1
 have HS23_ := hsb_ hb hHeld.2.2.2.2.2.2.2.2.2.2.2.2.2.2.2.2.2.2.2.2.2.2.2
 refine ⟨_, rfl, ?_⟩
 have n0_ := Aside0.mk (Kd.R_below (by (with_reducible repeat (first | apply Kd.R_alloc | apply Kd.R_drewN | apply Kd.R_drew)); exact HO219.out) hb)
 have n1_ := Aside0.mk (Kd.S_below (by (with_reducible repeat (first | apply Kd.S_alloc | apply Kd.S_drewN | apply Kd.S_drew)); exact HO222.out) hb)
 have n2_ := Aside0.mk (Kd.R_below (by (with_reducible repeat (first | apply Kd.R_alloc | apply Kd.R_drewN | apply Kd.R_drew)); exact HL235_5.out) hb)
 have n3_ := Aside0.mk (Kd.R_below (by (with_reducible repeat (first | apply Kd.R_alloc | apply Kd.R_drewN | apply Kd.R_drew)); exact HL236_5.out) hb)
 have n4_ := Aside0.mk (blk_below (g := gb215) (o := .cells #[.int .i64 8, .int .i64 4, .int .i64 2] 25 (0, 0)) (by (with_reducible repeat (first | refine blk_drewN ?_ _ | refine blk_drew ?_ | refine blk_alloc ?_ _)); exact BK215.out) hb)
 have n5_ := Aside0.mk (blk_below (g := gb216) (o := .cells #[.int .i64 1, .int .i64 2, .int .i64 (-1)] 63 (0, 0)) (by (with_reducible repeat (first | refine blk_drewN ?_ _ | refine blk_drew ?_ | refine blk_alloc ?_ _)); exact BK216.out) hb)
 have n6_ := Aside0.mk (blk_below (g := gb234) (o := .cells #[.int .i64 t228, .int .i64 t229, .int .i64 t230, .int .i64 t231, .int .i64 t232, .int .i64 t233] 69 (0, 0)) (by (with_reducible repeat (first | refine blk_drewN ?_ _ | refine blk_drew ?_ | refine blk_alloc ?_ _)); exact BK234.out) hb)
 have n7_ := Aside0.mk (Kd.C_below (by repeat (first | (with_reducible exact HR235_5.out) | (with_reducible refine Kd.C_alloc ?_ _) | (with_reducible refine Kd.C_drewN ?_ _) | (with_reducible refine Kd.C_drew ?_) | exact HR235_5.out)) hb)
 have n8_ := Aside0.mk (Kd.C_below (by repeat (first | (with_reducible exact HR236_5.out) | (with_reducible refine Kd.C_alloc ?_ _) | (with_reducible refine Kd.C_drewN ?_ _) | (with_reducible refine Kd.C_drew ?_) | exact HR236_5.out)) hb)
 have n9_ := Aside0.mk (below_step (by repeat (first | (with_reducible first | exact HB.out | apply below_alloc | apply pw_below_drewN | apply below_drew1 | refine below_set ?_ GE215.out | refine below_set ?_ GE216.out | refine below_set ?_ GE234.out) | exact HB.out)) hb)
 clear HO219
 clear HO222
 clear HL235_5
 clear HL236_5
 clear BK215
 clear BK216
 clear BK234
 clear HR235_5
 clear HR236_5
 clear HB
 have HO219 := n0_
 have HO222 := n1_
 have HL235_5 := n2_
 have HL236_5 := n3_
 have BK215 := n4_
 have BK216 := n5_
 have BK234 := n6_
 have HR235_5 := n7_
 have HR236_5 := n8_
 have HB := n9_
 clear n0_ n1_ n2_ n3_ n4_ n5_ n6_ n7_ n8_ n9_
 (try clear hb)
 (try clear hb2)
 (try clear hk)
 (try clear hi)
 refine hK.out _ _ ⟨(blk_cell BK216.out 0).trans rfl, (blk_cell BK216.out 1).trans rfl, (blk_cell BK216.out 2).trans rfl, (blk_cell BK234.out 0).trans rfl, (blk_cell BK234.out 1).trans rfl, (blk_cell BK234.out 2).trans rfl, (blk_cell BK234.out 3).trans rfl, (blk_cell BK234.out 4).trans rfl, (blk_cell BK234.out 5).trans rfl, (blk_cell BK215.out 0).trans rfl, (blk_cell BK215.out 1).trans rfl, (blk_cell BK215.out 2).trans rfl, HS12_, HS13_, HS14_, HS15_, HS16_, HS17_, HS18_, HS19_, HS20_, HS21_, HS22_, HS23_⟩ (fun hHeld => ?_)
 clear hK K
 refine norm_ (a' := ?_) ?_ ?_
 rotate_left
 ·
  show Act.put _ (some 87) _ = _
  simp only [Act.put, List.setIfInBounds_toArray, List.set_cons_zero, List.set_cons_succ, i64_w, i32_w]
  rfl
 refine pq_ (i := 48) (N := some 88) #[I,I,I,I,I,I,I,I,I,I,I,I,I,I,I,I,I,I,I,I,I,I,I,I,I,I,I,I,I,I,I,I,I,I,I,I,I,I,I,I,I,I,I,I,I,I,I,I,I,O] HT_ ?_
 refine pq_ (i := 49) (N := some 0) #[I,I,I,I,I,I,I,I,I,I,I,I,I,I,I,I,I,I,I,I,I,I,I,I,I,I,I,I,I,I,I,I,I,I,I,I,I,I,I,I,I,I,I,I,I,I,I,I,I,I] HT_ ?_
 refine done_ (done_of HT_.out (by kernel_rfl)) ?_
 try go_wp2
 go_ret
 exact ⟨by first | rfl | (simp [errW_none, errW_some] <;> rfl) | (simp [*, errW_none, errW_some] <;> rfl), by repeat (first | (with_reducible first | exact HB.out | apply below_alloc | apply pw_below_drewN | apply below_drew1 | refine below_set ?_ GE215.out | refine below_set ?_ GE216.out | refine below_set ?_ GE234.out) | exact HB.out)⟩
theorem ambidextertop_head23.is_true (k : Nat) {r : Bool} (h : ambidextertop_head23.f k = some r) : r = true := by
 obtain ⟨k2_, e⟩ := Pure.headTop23
 have h1 := at_rounds ambidextertop_head23.mono (Nat.le_max_left k k2_) h
 have h2 := at_rounds ambidextertop_head23.mono (Nat.le_max_right k k2_) e
 rw [h1] at h2
 exact Option.some.inj h2
theorem ambidextertop_head23.calls (k : Nat)  (r : Bool) (w : World) (h : ambidextertop_head23.f k  = some r) :
  Calls Try.prog 26 #[] w fun e w' => e = .returned (.bool r) ∧ Below w.heap.size w w' := ambidextertop_head23.calls0 k r w h (ambidextertop_head23.is_true k h)

end Go.Proofs.Ytmmaodlngnjmlaa.P
