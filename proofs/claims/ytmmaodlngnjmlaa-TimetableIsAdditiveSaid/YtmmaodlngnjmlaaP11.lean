-- Written by this session's own program, for this seat. Lean checks it.
import Derived.Test.YtmmaodlngnjmlaaP0
import Derived.Test.YtmmaodlngnjmlaaP1
import Derived.Test.YtmmaodlngnjmlaaP3
import Derived.Test.YtmmaodlngnjmlaaP7
import Derived.Test.YtmmaodlngnjmlaaP9
import Derived.Test.YtmmaodlngnjmlaaP10
import Derived.Test.YtmmaodlngnjmlaaXShorts
import Derived.Test.YtmmaodlngnjmlaaXShort2
import Derived.Test.YtmmaodlngnjmlaaXShort3
namespace Go.Proofs.Ytmmaodlngnjmlaa.P
open Go.RowKit Go.Proofs.YtmmaodlngnjmlaaW.PrintWords Go.Proofs.YtmmaodlngnjmlaaW.PrintLast Go.Proofs.YtmmaodlngnjmlaaW.PrintMore
attribute [local go_sem] max2_int min2_int max_two min_two max_three min_three max_four min_four   -- for this text's walks alone
set_option linter.unusedVariables false
set_option linter.unusedSimpArgs false

attribute [local go_sem high] eqA63

/-! ### ambidexterlaw23_TimetableIsAdditive: function 11 -/
mutual
def ambidexterlaw23_TimetableIsAdditive.j0 : Nat → List (S63) → List (S63) → Bool → Bool → Int → Int → Int → Option (Bool)
 | 0, _, _, _, _, _, _, _ => none
 | k + 1, x1, x2, x7, x45, x314000, x314001, x314002 => if x45 = true then (some x7) else ((ambidexterlaw23_lim.f x314000 x314001 x314002).bind fun bt317 => ((timetable_Sequential.f k bt317.1 bt317.2.1 bt317.2.2 x1).bind fun bt321 => ((timetable_Sequential.f k bt317.1 bt317.2.1 bt317.2.2 x2).bind fun bt325 => ((some (([] : List (S63)) : List (S63))).bind fun y329 => (if y329.length + x1.length < 5864062014805 then ((some (y329 ++ x1 : List (S63))).bind fun y332 => (if y332.length + x2.length < 5864062014805 then ((timetable_Sequential.f k bt317.1 bt317.2.1 bt317.2.2 (y332 ++ x2)).bind fun bt338 => (if bt321.2 = 1 then (ambidexterlaw23_TimetableIsAdditive.j1 k x7 bt321.1 bt321.2 bt325.1 bt325.2 bt338.1 bt338.2 true) else (ambidexterlaw23_TimetableIsAdditive.j1 k x7 bt321.1 bt321.2 bt325.1 bt325.2 bt338.1 bt338.2 (bt325.2 == 1)))) else (none))) else (none))))))
def ambidexterlaw23_TimetableIsAdditive.j1 : Nat → Bool → List (S67) → Int → List (S67) → Int → List (S67) → Int → Bool → Option (Bool)
 | 0, _, _, _, _, _, _, _, _ => none
 | k + 1, x7, x9, x10, x11, x12, x13, x14, x81 => if x81 = true then (if x7 = true then (some (x14 == 1)) else (some false)) else (if x14 = 0 then (if x7 = true then (if x10 = 0 then (if x12 = 0 then (if (x13.length : Int) = (wrap64 ((x9.length : Int) + (x11.length : Int))) then (if 0 ≤ (x9.length : Int) then (if (x9.length : Int) ≤ (x13.length : Int) then ((ambidexterref23_Same.f k (x13.take ((x9.length : Int) : Int).toNat) x9).bind fun t348 => (if t348 = true then ((timetable_Duration.f k x13).bind fun t349 => ((timetable_Duration.f k x9).bind fun t350 => ((timetable_Duration.f k x11).bind fun t351 => (some (t349 == (wrap64 (t350 + t351))))))) else (some false))) else (none)) else (none)) else (some false)) else (some false)) else (some false)) else (some false)) else (if x7 = true then (if x14 = 2 then (if x10 = 0 then (if x12 = 0 then ((timetable_Duration.f k x9).bind fun t342 => ((timetable_Duration.f k x11).bind fun t343 => (some (decide ((wrap64 (t342 + t343)) > 2000))))) else (some true)) else (some true)) else (some false)) else (some false)))
end
def ambidexterlaw23_TimetableIsAdditive.f (k : Nat) (a0_0 : Int) (a0_1 : Int) (a0_2 : Int) (l1 : List (S63)) (l2 : List (S63)) : Option (Bool) := (ambidexterlaw23_head.f k).bind fun t314 => (if (l1.length : Int) > 60 then (ambidexterlaw23_TimetableIsAdditive.j0 k l1 l2 t314 true a0_0 a0_1 a0_2) else (if (l2.length : Int) > 60 then (ambidexterlaw23_TimetableIsAdditive.j0 k l1 l2 t314 true a0_0 a0_1 a0_2) else (if (l1.length : Int) = 0 then (ambidexterlaw23_TimetableIsAdditive.j0 k l1 l2 t314 true a0_0 a0_1 a0_2) else (if (l2.length : Int) = 0 then (ambidexterlaw23_TimetableIsAdditive.j0 k l1 l2 t314 true a0_0 a0_1 a0_2) else (if 0 ≤ (wrap64 ((l1.length : Int) - 1)) then (if (wrap64 ((l1.length : Int) - 1)) < (l1.length : Int) then (if 0 < (l2.length : Int) then (ambidexterlaw23_TimetableIsAdditive.j0 k l1 l2 t314 (((rd_T63 l1 (wrap64 ((l1.length : Int) - 1))).f0) == ((rd_T63 l2 0).f0) && (((rd_T63 l1 (wrap64 ((l1.length : Int) - 1))).f1) == ((rd_T63 l2 0).f1) && (((rd_T63 l1 (wrap64 ((l1.length : Int) - 1))).f2) == ((rd_T63 l2 0).f2)))) a0_0 a0_1 a0_2) else (none)) else (none)) else (none))))))
theorem ambidexterlaw23_TimetableIsAdditive.mono_l : ∀ k, (∀ y0 y1 y2 y3 y4 y5 y6, LeO (ambidexterlaw23_TimetableIsAdditive.j0 k y0 y1 y2 y3 y4 y5 y6) (ambidexterlaw23_TimetableIsAdditive.j0 (k + 1) y0 y1 y2 y3 y4 y5 y6)) ∧ (∀ y0 y1 y2 y3 y4 y5 y6 y7, LeO (ambidexterlaw23_TimetableIsAdditive.j1 k y0 y1 y2 y3 y4 y5 y6 y7) (ambidexterlaw23_TimetableIsAdditive.j1 (k + 1) y0 y1 y2 y3 y4 y5 y6 y7))
 | 0 => ⟨fun _ _ _ _ _ _ _ r h => by simp [ambidexterlaw23_TimetableIsAdditive.j0] at h, fun _ _ _ _ _ _ _ _ r h => by simp [ambidexterlaw23_TimetableIsAdditive.j1] at h⟩
 | k + 1 => by
  obtain ⟨ih0, ih1⟩ := ambidexterlaw23_TimetableIsAdditive.mono_l k
  refine ⟨?_, ?_⟩
  ·
   intro y0 y1 y2 y3 y4 y5 y6
   unfold ambidexterlaw23_TimetableIsAdditive.j0
   repeat' first
   | (with_reducible exact ih0 _ _ _ _ _ _ _)
   | (with_reducible exact ih1 _ _ _ _ _ _ _ _)
   | (with_reducible exact ambidexterlaw23_head.mono _)
   | (with_reducible exact ambidexterref23_Same.mono _ _ _)
   | (with_reducible exact timetable_Duration.mono _ _)
   | (with_reducible exact timetable_Sequential.mono _ _ _ _ _)
   | (with_reducible exact LeO.refl _)
   | (with_reducible exact LeO.none _)
   | (with_reducible refine LeO.ite ?_ ?_)
   | (with_reducible refine LeO.bind ?_ (fun _ => ?_))
   | exact ih0 _ _ _ _ _ _ _
   | exact ih1 _ _ _ _ _ _ _ _
   | exact ambidexterlaw23_head.mono _
   | exact ambidexterref23_Same.mono _ _ _
   | exact timetable_Duration.mono _ _
   | exact timetable_Sequential.mono _ _ _ _ _
   | exact LeO.none _
   | refine LeO.ite ?_ ?_
   | refine LeO.bind ?_ (fun _ => ?_)
  ·
   intro y0 y1 y2 y3 y4 y5 y6 y7
   unfold ambidexterlaw23_TimetableIsAdditive.j1
   repeat' first
   | (with_reducible exact ih0 _ _ _ _ _ _ _)
   | (with_reducible exact ih1 _ _ _ _ _ _ _ _)
   | (with_reducible exact ambidexterlaw23_head.mono _)
   | (with_reducible exact ambidexterref23_Same.mono _ _ _)
   | (with_reducible exact timetable_Duration.mono _ _)
   | (with_reducible exact timetable_Sequential.mono _ _ _ _ _)
   | (with_reducible exact LeO.refl _)
   | (with_reducible exact LeO.none _)
   | (with_reducible refine LeO.ite ?_ ?_)
   | (with_reducible refine LeO.bind ?_ (fun _ => ?_))
   | exact ih0 _ _ _ _ _ _ _
   | exact ih1 _ _ _ _ _ _ _ _
   | exact ambidexterlaw23_head.mono _
   | exact ambidexterref23_Same.mono _ _ _
   | exact timetable_Duration.mono _ _
   | exact timetable_Sequential.mono _ _ _ _ _
   | exact LeO.none _
   | refine LeO.ite ?_ ?_
   | refine LeO.bind ?_ (fun _ => ?_)
theorem ambidexterlaw23_TimetableIsAdditive.mono : ∀ a0 a1 a2 a3 a4 k, LeO (ambidexterlaw23_TimetableIsAdditive.f k a0 a1 a2 a3 a4) (ambidexterlaw23_TimetableIsAdditive.f (k + 1) a0 a1 a2 a3 a4) := by
 intro a0 a1 a2 a3 a4 k
 obtain ⟨ih0, ih1⟩ := ambidexterlaw23_TimetableIsAdditive.mono_l k
 unfold ambidexterlaw23_TimetableIsAdditive.f
 repeat' first
   | (with_reducible exact ih0 _ _ _ _ _ _ _)
   | (with_reducible exact ih1 _ _ _ _ _ _ _ _)
   | (with_reducible exact ambidexterlaw23_head.mono _)
   | (with_reducible exact ambidexterref23_Same.mono _ _ _)
   | (with_reducible exact timetable_Duration.mono _ _)
   | (with_reducible exact timetable_Sequential.mono _ _ _ _ _)
   | (with_reducible exact LeO.refl _)
   | (with_reducible exact LeO.none _)
   | (with_reducible refine LeO.ite ?_ ?_)
   | (with_reducible refine LeO.bind ?_ (fun _ => ?_))
   | exact ih0 _ _ _ _ _ _ _
   | exact ih1 _ _ _ _ _ _ _ _
   | exact ambidexterlaw23_head.mono _
   | exact ambidexterref23_Same.mono _ _ _
   | exact timetable_Duration.mono _ _
   | exact timetable_Sequential.mono _ _ _ _ _
   | exact LeO.none _
   | refine LeO.ite ?_ ?_
   | refine LeO.bind ?_ (fun _ => ?_)
def ambidexterlaw23_TimetableIsAdditive.T2 : Bool × List (List Nat × List Nat) := (true, [([], []), ([0], [0]), ([1], [1]), ([2], [2]), ([3], [3]), ([4, 3], [3, 4]), ([5, 3], [3, 5]), ([3, 6], [3, 6]), ([7, 3], [7]), ([8], [8]), ([9, 8], [8, 9]), ([10, 8], [8, 10]), ([8, 11], [8, 11]), ([12, 8], [12]), ([13], [13]), ([14, 13], [13, 14]), ([15, 13], [13, 15]), ([13, 16], [13, 16]), ([17, 13], [17]), ([18], [18]), ([18], [18]), ([20, 18], [18, 20]), ([21, 18], [18, 21]), ([19, 22, 18], [18, 19, 22]), ([23, 18], [18, 23]), ([18], [18]), ([25, 18], [18, 25]), ([26, 18], [18, 26]), ([24, 27, 18], [18, 24, 27]), ([18, 28], [18, 28])])
def ambidexterlaw23_TimetableIsAdditive.B2 : List Nat := [0, 1, 3, 7, 15, 31, 63, 127, 255, 511, 1023, 2047, 4095, 8191, 16383, 32767, 65535, 131071, 262143, 524287, 524287, 1572863, 3670015, 8388607, 16777215, 524287, 34078719, 101187583, 268435455, 536870911]
theorem ambidexterlaw23_TimetableIsAdditive.tab2 : rtab .any (opsOf Try.f11 2) = ambidexterlaw23_TimetableIsAdditive.T2 := by kernel_rfl
theorem ambidexterlaw23_TimetableIsAdditive.bits2 : waitsOk ambidexterlaw23_TimetableIsAdditive.T2.2 ambidexterlaw23_TimetableIsAdditive.B2 = true := by kernel_rfl
def ambidexterlaw23_TimetableIsAdditive.T7 : Bool × List (List Nat × List Nat) := (true, [([], []), ([], []), ([], []), ([1, 2], [1, 2]), ([], []), ([3, 4, 3], [3, 4]), ([0, 5, 5], [0, 5]), ([6], [6]), ([7], [7]), ([7], [7]), ([8, 6, 0, 1, 2, 3, 4, 5, 6, 7, 8], [8]), ([9, 10, 0, 1, 2, 3, 4, 5, 6, 7, 8, 9, 10], [9])])
def ambidexterlaw23_TimetableIsAdditive.B7 : List Nat := [0, 0, 0, 6, 0, 30, 63, 127, 255, 255, 511, 2047]
theorem ambidexterlaw23_TimetableIsAdditive.tab7 : rtab .any (opsOf Try.f11 7) = ambidexterlaw23_TimetableIsAdditive.T7 := by kernel_rfl
theorem ambidexterlaw23_TimetableIsAdditive.bits7 : waitsOk ambidexterlaw23_TimetableIsAdditive.T7.2 ambidexterlaw23_TimetableIsAdditive.B7 = true := by kernel_rfl
set_option maxHeartbeats 8000000 in
set_option maxRecDepth 100000 in
theorem ambidexterlaw23_TimetableIsAdditive.calls0 (k : Nat) (a0_0 : Int) (a0_1 : Int) (a0_2 : Int) (A1 : Option Addr) (c1 : Nat) (l1 : List (S63)) (A2 : Option Addr) (c2 : Nat) (l2 : List (S63)) (r : Bool) (w : World) (hr1 : Kd.C k63 w A1 l1.length l1) (hc1 : l1.length ≤ c1) (hr2 : Kd.C k63 w A2 l2.length l2) (hc2 : l2.length ≤ c2) (h : ambidexterlaw23_TimetableIsAdditive.f k a0_0 a0_1 a0_2 l1 l2 = some r) (hT : r = true) :
  Calls Try.prog 11 #[.agg #[.int .u8 a0_0, .int .u8 a0_1, .int .u8 a0_2], .slice A1 l1.length c1, .slice A2 l2.length c2] w fun e w' => e = .returned (.bool r) ∧ Below w.heap.size w w' := by
 have hu51 := Try.underlying51
 have hu63 := Try.underlying63
 have hu25 := Try.underlying25
 have HR1 := Aside0.mk hr1
 have HC1 := Aside0.mk hc1
 clear hr1 hc1
 have HR2 := Aside0.mk hr2
 have HC2 := Aside0.mk hc2
 clear hr2 hc2
 have HB := Aside0.mk (Below.refl w.heap.size w)
 have H : ((ambidexterlaw23_head.f k).bind fun t314 => (if (l1.length : Int) > 60 then (ambidexterlaw23_TimetableIsAdditive.j0 k l1 l2 t314 true a0_0 a0_1 a0_2) else (if (l2.length : Int) > 60 then (ambidexterlaw23_TimetableIsAdditive.j0 k l1 l2 t314 true a0_0 a0_1 a0_2) else (if (l1.length : Int) = 0 then (ambidexterlaw23_TimetableIsAdditive.j0 k l1 l2 t314 true a0_0 a0_1 a0_2) else (if (l2.length : Int) = 0 then (ambidexterlaw23_TimetableIsAdditive.j0 k l1 l2 t314 true a0_0 a0_1 a0_2) else (if 0 ≤ (wrap64 ((l1.length : Int) - 1)) then (if (wrap64 ((l1.length : Int) - 1)) < (l1.length : Int) then (if 0 < (l2.length : Int) then (ambidexterlaw23_TimetableIsAdditive.j0 k l1 l2 t314 (((rd_T63 l1 (wrap64 ((l1.length : Int) - 1))).f0) == ((rd_T63 l2 0).f0) && (((rd_T63 l1 (wrap64 ((l1.length : Int) - 1))).f1) == ((rd_T63 l2 0).f1) && (((rd_T63 l1 (wrap64 ((l1.length : Int) - 1))).f2) == ((rd_T63 l2 0).f2)))) a0_0 a0_1 a0_2) else (none)) else (none)) else (none))))))) = some r := h
 clear h
 have HT := Aside0.mk hT
 clear hT
 replace H := Option.bind_eq_some_iff.mp H
 obtain ⟨t314, A40, H⟩ := H
 obtain rfl := ambidexterlaw23_head.is_true k A40
 replace H : (if (l1.length : Int) > 60 then (ambidexterlaw23_TimetableIsAdditive.j0 k l1 l2 true true a0_0 a0_1 a0_2) else (if (l2.length : Int) > 60 then (ambidexterlaw23_TimetableIsAdditive.j0 k l1 l2 true true a0_0 a0_1 a0_2) else (if (l1.length : Int) = 0 then (ambidexterlaw23_TimetableIsAdditive.j0 k l1 l2 true true a0_0 a0_1 a0_2) else (if (l2.length : Int) = 0 then (ambidexterlaw23_TimetableIsAdditive.j0 k l1 l2 true true a0_0 a0_1 a0_2) else (if 0 ≤ (wrap64 ((l1.length : Int) - 1)) then (if (wrap64 ((l1.length : Int) - 1)) < (l1.length : Int) then (if 0 < (l2.length : Int) then (ambidexterlaw23_TimetableIsAdditive.j0 k l1 l2 true (((rd_T63 l1 (wrap64 ((l1.length : Int) - 1))).f0) == ((rd_T63 l2 0).f0) && (((rd_T63 l1 (wrap64 ((l1.length : Int) - 1))).f1) == ((rd_T63 l2 0).f1) && (((rd_T63 l1 (wrap64 ((l1.length : Int) - 1))).f2) == ((rd_T63 l2 0).f2)))) a0_0 a0_1 a0_2) else (none)) else (none)) else (none)))))) = some r := H
 have A4 := Aside0.mk A40
 clear A40
 have HC5 := Aside0.mk H
 clear H
 go_enter Try.func11, Try.ntmps11
 go_upto_region 2 with (first | ((with_reducible refine gate_dst (N := 3) rfl ?_); (try (refine gate_guard (by rfl) ?_; dsimp only)); refine box_event ?hg (N := 3) ?hd (cs := #[.int .u8 a0_0, .int .u8 a0_1, .int .u8 a0_2]) (t := 51) ?hr ?_; (case hd => rfl); (case hg => rfl); (case hr => first | (go_simp; done) | (go_simp; rfl)); intro gb313 hg w6 hbox hb; have n0_ := Aside0.mk (below_step hb_ hb); have n1_ := Aside0.mk (hbox); have n2_ := Aside0.mk ((by rw [hg]; exact (below_size hb_) : w.heap.size ≤ gb313)); have n3_ := Aside0.mk ((by rw [hg]; exact (below_size hb_) : w.heap.size ≤ gb313)); clear HB; have HB := n0_; have BK313 := n1_; have GW313 := n2_; have GE313 := n3_; clear n0_ n1_ n2_ n3_; clear hb hbox hg) | ((with_reducible refine gate_callee (f := 31) rfl ?_); refine goesL_ (some 15) rfl rfl Try.func31 (by kernel_rfl) rfl #[] rfl (by (try simp only [List.map_toArray, List.map_cons, List.map_nil]); first | done | rfl | (simp only [List.length_drop, List.length_take]; rfl)) ?_; (with_reducible refine (ambidexterlaw23_head.calls k  true _ A4.out).mono ?_); rintro e w7 ⟨rfl, hb⟩; refine ⟨_, rfl, ?_⟩; have n0_ := Aside0.mk (blk_below (g := gb313) (o := .cells #[.int .u8 a0_0, .int .u8 a0_1, .int .u8 a0_2] 51 (0, 0)) (bk_ BK313.out) hb); have n1_ := Aside0.mk (below_step hb_ hb); clear BK313; clear HB; have BK313 := n0_; have HB := n1_; clear n0_ n1_; (try clear hb); (try clear hb2); (try clear hk); (try clear hi)))
 (try simp only [Act.put, List.setIfInBounds_toArray, List.set_cons_zero, List.set_cons_succ])
 go_cut [45] (fun v45 wc => ∃ (kq : Nat) (x45_4 : Bool), v45 = .bool x45_4 ∧ Aside0 (ambidexterlaw23_TimetableIsAdditive.j0 kq l1 l2 true x45_4 a0_0 a0_1 a0_2 = some r) ∧ Aside0 (kq ≤ k) ∧ Aside0 (wc.heap[gb313]? = some (.cells #[.int .u8 a0_0, .int .u8 a0_1, .int .u8 a0_2] 51 (0, 0))) ∧ Aside0 (Below w.heap.size w wc))
 case first =>
  have H := HC5.out
  clear HC5
  by_cases c8 : (l1.length : Int) > 60
  ·
   rw [if_pos c8] at H
   have c8b0 : decide (60 < (l1.length : Int)) = true := decide_eq_true c8
   have c8b1 : decide (60 < l1.length) = true := decide_eq_true (by omega)
   clear c8
   (first | rw [c8b0] | (simp only [i64_w, i32_w]; rw [c8b0]) | skip)
   have H' := Aside0.mk H
   clear H
   try go_wp2
   have n0_ := Aside0.mk (blk_drew BK313.out)
   have n1_ := Aside0.mk (below_drew1 HB.out)
   clear BK313
   clear HB
   have BK313 := n0_
   have HB := n1_
   clear n0_ n1_
   refine start_ (n := 30) (S := fun w' => True) (ds := []) #[O,O,O,O,O,O,O,O,O,O,O,O,O,O,O,O,O,O,O,O,O,O,O,O,O,O,O,O,O,O] (by kernel_rfl) rfl rfl trivial (fun hHeld => ?_); refine with_tabW ambidexterlaw23_TimetableIsAdditive.tab2 ambidexterlaw23_TimetableIsAdditive.bits2 (fun HT_ HW_ => ?_)
   generalize w7.drew = w9 at BK313 HB hHeld ⊢
   refine pq_ (i := 0) (N := some 16) #[I,O,O,O,O,O,O,O,O,O,O,O,O,O,O,O,O,O,O,O,O,O,O,O,O,O,O,O,O,O] HT_ ?_
   refine pq_ (i := 1) (N := some 17) #[I,I,O,O,O,O,O,O,O,O,O,O,O,O,O,O,O,O,O,O,O,O,O,O,O,O,O,O,O,O] HT_ ?_
   refine pq_ (i := 2) (N := some 18) #[I,I,I,O,O,O,O,O,O,O,O,O,O,O,O,O,O,O,O,O,O,O,O,O,O,O,O,O,O,O] HT_ ?_
   refine pq_ (i := 3) (N := some 19) #[I,I,I,I,O,O,O,O,O,O,O,O,O,O,O,O,O,O,O,O,O,O,O,O,O,O,O,O,O,O] HT_ ?_
   refine pu_ (i := 4) (N := some 20) #[I,I,I,I,I,O,O,O,O,O,O,O,O,O,O,O,O,O,O,O,O,O,O,O,O,O,O,O,O,O] HT_ ?_
   refine pu_ (i := 5) (N := some 21) #[I,I,I,I,I,I,O,O,O,O,O,O,O,O,O,O,O,O,O,O,O,O,O,O,O,O,O,O,O,O] HT_ ?_
   refine pu_ (i := 6) (N := some 22) #[I,I,I,I,I,I,I,O,O,O,O,O,O,O,O,O,O,O,O,O,O,O,O,O,O,O,O,O,O,O] HT_ ?_
   refine pq_ (i := 7) (N := some 23) #[I,I,I,I,I,I,I,I,O,O,O,O,O,O,O,O,O,O,O,O,O,O,O,O,O,O,O,O,O,O] HT_ ?_
   refine pq_ (i := 8) (N := some 24) #[I,I,I,I,I,I,I,I,I,O,O,O,O,O,O,O,O,O,O,O,O,O,O,O,O,O,O,O,O,O] HT_ ?_
   refine pu_ (i := 9) (N := some 25) #[I,I,I,I,I,I,I,I,I,I,O,O,O,O,O,O,O,O,O,O,O,O,O,O,O,O,O,O,O,O] HT_ ?_
   refine pu_ (i := 10) (N := some 26) #[I,I,I,I,I,I,I,I,I,I,I,O,O,O,O,O,O,O,O,O,O,O,O,O,O,O,O,O,O,O] HT_ ?_
   refine pu_ (i := 11) (N := some 27) #[I,I,I,I,I,I,I,I,I,I,I,I,O,O,O,O,O,O,O,O,O,O,O,O,O,O,O,O,O,O] HT_ ?_
   refine pq_ (i := 12) (N := some 28) #[I,I,I,I,I,I,I,I,I,I,I,I,I,O,O,O,O,O,O,O,O,O,O,O,O,O,O,O,O,O] HT_ ?_
   refine pq_ (i := 13) (N := some 29) #[I,I,I,I,I,I,I,I,I,I,I,I,I,I,O,O,O,O,O,O,O,O,O,O,O,O,O,O,O,O] HT_ ?_
   refine pu_ (i := 14) (N := some 30) #[I,I,I,I,I,I,I,I,I,I,I,I,I,I,I,O,O,O,O,O,O,O,O,O,O,O,O,O,O,O] HT_ ?_
   refine pu_ (i := 15) (N := some 31) #[I,I,I,I,I,I,I,I,I,I,I,I,I,I,I,I,O,O,O,O,O,O,O,O,O,O,O,O,O,O] HT_ ?_
   refine pu_ (i := 16) (N := some 32) #[I,I,I,I,I,I,I,I,I,I,I,I,I,I,I,I,I,O,O,O,O,O,O,O,O,O,O,O,O,O] HT_ ?_
   refine pq_ (i := 17) (N := some 33) #[I,I,I,I,I,I,I,I,I,I,I,I,I,I,I,I,I,I,O,O,O,O,O,O,O,O,O,O,O,O] HT_ ?_
   refine pq_ (i := 18) (N := some 34) #[I,I,I,I,I,I,I,I,I,I,I,I,I,I,I,I,I,I,I,O,O,O,O,O,O,O,O,O,O,O] HT_ ?_
   refine pu_ (i := 19) (N := some 35) #[I,I,I,I,I,I,I,I,I,I,I,I,I,I,I,I,I,I,I,I,O,O,O,O,O,O,O,O,O,O] HT_ ?_
   refine pu_ (i := 20) (N := some 36) #[I,I,I,I,I,I,I,I,I,I,I,I,I,I,I,I,I,I,I,I,I,O,O,O,O,O,O,O,O,O] HT_ ?_
   refine pu_ (i := 21) (N := some 37) #[I,I,I,I,I,I,I,I,I,I,I,I,I,I,I,I,I,I,I,I,I,I,O,O,O,O,O,O,O,O] HT_ ?_
   refine pu_ (i := 22) (N := some 38) #[I,I,I,I,I,I,I,I,I,I,I,I,I,I,I,I,I,I,I,I,I,I,I,O,O,O,O,O,O,O] HT_ ?_
   refine pu_ (i := 23) (N := some 39) #[I,I,I,I,I,I,I,I,I,I,I,I,I,I,I,I,I,I,I,I,I,I,I,I,O,O,O,O,O,O] HT_ ?_
   refine pu_ (i := 24) (N := some 40) #[I,I,I,I,I,I,I,I,I,I,I,I,I,I,I,I,I,I,I,I,I,I,I,I,I,O,O,O,O,O] HT_ ?_
   refine pu_ (i := 25) (N := some 41) #[I,I,I,I,I,I,I,I,I,I,I,I,I,I,I,I,I,I,I,I,I,I,I,I,I,I,O,O,O,O] HT_ ?_
   refine pu_ (i := 26) (N := some 42) #[I,I,I,I,I,I,I,I,I,I,I,I,I,I,I,I,I,I,I,I,I,I,I,I,I,I,I,O,O,O] HT_ ?_
   refine pu_ (i := 27) (N := some 43) #[I,I,I,I,I,I,I,I,I,I,I,I,I,I,I,I,I,I,I,I,I,I,I,I,I,I,I,I,O,O] HT_ ?_
   refine pu_ (i := 28) (N := some 44) #[I,I,I,I,I,I,I,I,I,I,I,I,I,I,I,I,I,I,I,I,I,I,I,I,I,I,I,I,I,O] HT_ ?_
   refine pq_ (i := 29) (N := some 45) #[I,I,I,I,I,I,I,I,I,I,I,I,I,I,I,I,I,I,I,I,I,I,I,I,I,I,I,I,I,I] HT_ ?_
   refine done_ (done_of HT_.out (by kernel_rfl)) ?_
   try go_wp2
   go_meet
   case rel => exact ⟨_, (true), (by first | rfl | (simp; done) | (simp [*]; done)), H', ⟨by first | omega | exact Nat.le_refl _⟩, ⟨by (with_reducible repeat (first | refine blk_drewN ?_ _ | refine blk_drew ?_ | refine blk_alloc ?_ _)); exact BK313.out⟩, ⟨by repeat (first | (with_reducible first | exact HB.out | apply below_alloc | apply pw_below_drewN | apply below_drew1 | refine below_set ?_ GE313.out) | exact HB.out)⟩⟩
  rw [if_neg c8] at H
  have c8b0 : decide (60 < (l1.length : Int)) = false := decide_eq_false c8
  have c8b1 : decide (60 < l1.length) = false := decide_eq_false (by omega)
  clear c8
  (first | rw [c8b0] | (simp only [i64_w, i32_w]; rw [c8b0]) | skip)
  by_cases c10 : (l2.length : Int) > 60
  ·
   rw [if_pos c10] at H
   have c10b0 : decide (60 < (l2.length : Int)) = true := decide_eq_true c10
   have c10b1 : decide (60 < l2.length) = true := decide_eq_true (by omega)
   clear c10
   have H' := Aside0.mk H
   clear H
   try go_wp2
   have n0_ := Aside0.mk (blk_drew BK313.out)
   have n1_ := Aside0.mk (below_drew1 HB.out)
   clear BK313
   clear HB
   have BK313 := n0_
   have HB := n1_
   clear n0_ n1_
   refine start_ (n := 30) (S := fun w' => True) (ds := []) #[O,O,O,O,O,O,O,O,O,O,O,O,O,O,O,O,O,O,O,O,O,O,O,O,O,O,O,O,O,O] (by kernel_rfl) rfl rfl trivial (fun hHeld => ?_); refine with_tabW ambidexterlaw23_TimetableIsAdditive.tab2 ambidexterlaw23_TimetableIsAdditive.bits2 (fun HT_ HW_ => ?_)
   generalize w7.drew = w11 at BK313 HB hHeld ⊢
   refine pq_ (i := 0) (N := some 16) #[I,O,O,O,O,O,O,O,O,O,O,O,O,O,O,O,O,O,O,O,O,O,O,O,O,O,O,O,O,O] HT_ ?_
   refine pq_ (i := 1) (N := some 17) #[I,I,O,O,O,O,O,O,O,O,O,O,O,O,O,O,O,O,O,O,O,O,O,O,O,O,O,O,O,O] HT_ ?_
   refine pq_ (i := 2) (N := some 18) #[I,I,I,O,O,O,O,O,O,O,O,O,O,O,O,O,O,O,O,O,O,O,O,O,O,O,O,O,O,O] HT_ ?_
   refine pq_ (i := 3) (N := some 19) #[I,I,I,I,O,O,O,O,O,O,O,O,O,O,O,O,O,O,O,O,O,O,O,O,O,O,O,O,O,O] HT_ ?_
   refine pq_ (i := 4) (N := some 20) #[I,I,I,I,I,O,O,O,O,O,O,O,O,O,O,O,O,O,O,O,O,O,O,O,O,O,O,O,O,O] HT_ ?_
   refine pq_ (i := 5) (N := some 21) #[I,I,I,I,I,I,O,O,O,O,O,O,O,O,O,O,O,O,O,O,O,O,O,O,O,O,O,O,O,O] HT_ ?_
   refine pq_ (i := 6) (N := some 22) #[I,I,I,I,I,I,I,O,O,O,O,O,O,O,O,O,O,O,O,O,O,O,O,O,O,O,O,O,O,O] HT_ ?_
   refine pq_ (i := 7) (N := some 23) #[I,I,I,I,I,I,I,I,O,O,O,O,O,O,O,O,O,O,O,O,O,O,O,O,O,O,O,O,O,O] HT_ ?_
   refine pq_ (i := 8) (N := some 24) #[I,I,I,I,I,I,I,I,I,O,O,O,O,O,O,O,O,O,O,O,O,O,O,O,O,O,O,O,O,O] HT_ ?_
   refine pu_ (i := 9) (N := some 25) #[I,I,I,I,I,I,I,I,I,I,O,O,O,O,O,O,O,O,O,O,O,O,O,O,O,O,O,O,O,O] HT_ ?_
   refine pu_ (i := 10) (N := some 26) #[I,I,I,I,I,I,I,I,I,I,I,O,O,O,O,O,O,O,O,O,O,O,O,O,O,O,O,O,O,O] HT_ ?_
   refine pu_ (i := 11) (N := some 27) #[I,I,I,I,I,I,I,I,I,I,I,I,O,O,O,O,O,O,O,O,O,O,O,O,O,O,O,O,O,O] HT_ ?_
   refine pq_ (i := 12) (N := some 28) #[I,I,I,I,I,I,I,I,I,I,I,I,I,O,O,O,O,O,O,O,O,O,O,O,O,O,O,O,O,O] HT_ ?_
   refine pq_ (i := 13) (N := some 29) #[I,I,I,I,I,I,I,I,I,I,I,I,I,I,O,O,O,O,O,O,O,O,O,O,O,O,O,O,O,O] HT_ ?_
   refine pu_ (i := 14) (N := some 30) #[I,I,I,I,I,I,I,I,I,I,I,I,I,I,I,O,O,O,O,O,O,O,O,O,O,O,O,O,O,O] HT_ ?_
   refine pu_ (i := 15) (N := some 31) #[I,I,I,I,I,I,I,I,I,I,I,I,I,I,I,I,O,O,O,O,O,O,O,O,O,O,O,O,O,O] HT_ ?_
   refine pu_ (i := 16) (N := some 32) #[I,I,I,I,I,I,I,I,I,I,I,I,I,I,I,I,I,O,O,O,O,O,O,O,O,O,O,O,O,O] HT_ ?_
   refine pq_ (i := 17) (N := some 33) #[I,I,I,I,I,I,I,I,I,I,I,I,I,I,I,I,I,I,O,O,O,O,O,O,O,O,O,O,O,O] HT_ ?_
   refine pq_ (i := 18) (N := some 34) #[I,I,I,I,I,I,I,I,I,I,I,I,I,I,I,I,I,I,I,O,O,O,O,O,O,O,O,O,O,O] HT_ ?_
   refine pu_ (i := 19) (N := some 35) #[I,I,I,I,I,I,I,I,I,I,I,I,I,I,I,I,I,I,I,I,O,O,O,O,O,O,O,O,O,O] HT_ ?_
   refine pu_ (i := 20) (N := some 36) #[I,I,I,I,I,I,I,I,I,I,I,I,I,I,I,I,I,I,I,I,I,O,O,O,O,O,O,O,O,O] HT_ ?_
   refine pu_ (i := 21) (N := some 37) #[I,I,I,I,I,I,I,I,I,I,I,I,I,I,I,I,I,I,I,I,I,I,O,O,O,O,O,O,O,O] HT_ ?_
   refine pu_ (i := 22) (N := some 38) #[I,I,I,I,I,I,I,I,I,I,I,I,I,I,I,I,I,I,I,I,I,I,I,O,O,O,O,O,O,O] HT_ ?_
   refine pu_ (i := 23) (N := some 39) #[I,I,I,I,I,I,I,I,I,I,I,I,I,I,I,I,I,I,I,I,I,I,I,I,O,O,O,O,O,O] HT_ ?_
   refine pu_ (i := 24) (N := some 40) #[I,I,I,I,I,I,I,I,I,I,I,I,I,I,I,I,I,I,I,I,I,I,I,I,I,O,O,O,O,O] HT_ ?_
   refine pu_ (i := 25) (N := some 41) #[I,I,I,I,I,I,I,I,I,I,I,I,I,I,I,I,I,I,I,I,I,I,I,I,I,I,O,O,O,O] HT_ ?_
   refine pu_ (i := 26) (N := some 42) #[I,I,I,I,I,I,I,I,I,I,I,I,I,I,I,I,I,I,I,I,I,I,I,I,I,I,I,O,O,O] HT_ ?_
   refine pu_ (i := 27) (N := some 43) #[I,I,I,I,I,I,I,I,I,I,I,I,I,I,I,I,I,I,I,I,I,I,I,I,I,I,I,I,O,O] HT_ ?_
   refine pu_ (i := 28) (N := some 44) #[I,I,I,I,I,I,I,I,I,I,I,I,I,I,I,I,I,I,I,I,I,I,I,I,I,I,I,I,I,O] HT_ ?_
   refine pq_ (i := 29) (N := some 45) #[I,I,I,I,I,I,I,I,I,I,I,I,I,I,I,I,I,I,I,I,I,I,I,I,I,I,I,I,I,I] HT_ ?_
   refine done_ (done_of HT_.out (by kernel_rfl)) ?_
   try go_wp2
   go_meet
   case rel => exact ⟨_, (true), (by first | rfl | (simp; done) | (simp [*]; done)), H', ⟨by first | omega | exact Nat.le_refl _⟩, ⟨by (with_reducible repeat (first | refine blk_drewN ?_ _ | refine blk_drew ?_ | refine blk_alloc ?_ _)); exact BK313.out⟩, ⟨by repeat (first | (with_reducible first | exact HB.out | apply below_alloc | apply pw_below_drewN | apply below_drew1 | refine below_set ?_ GE313.out) | exact HB.out)⟩⟩
  rw [if_neg c10] at H
  have c10b0 : decide (60 < (l2.length : Int)) = false := decide_eq_false c10
  have c10b1 : decide (60 < l2.length) = false := decide_eq_false (by omega)
  clear c10
  by_cases c12 : (l1.length : Int) = 0
  ·
   rw [if_pos c12] at H
   have c12b0 : ((l1.length : Int) == 0) = true := beq_iff_eq.mpr c12
   have c12b1 : ((l1.length : Int) != 0) = false := bne_eq_false_iff_eq.mpr c12
   clear c12
   have H' := Aside0.mk H
   clear H
   try go_wp2
   have n0_ := Aside0.mk (blk_drew BK313.out)
   have n1_ := Aside0.mk (below_drew1 HB.out)
   clear BK313
   clear HB
   have BK313 := n0_
   have HB := n1_
   clear n0_ n1_
   refine start_ (n := 30) (S := fun w' => True) (ds := []) #[O,O,O,O,O,O,O,O,O,O,O,O,O,O,O,O,O,O,O,O,O,O,O,O,O,O,O,O,O,O] (by kernel_rfl) rfl rfl trivial (fun hHeld => ?_); refine with_tabW ambidexterlaw23_TimetableIsAdditive.tab2 ambidexterlaw23_TimetableIsAdditive.bits2 (fun HT_ HW_ => ?_)
   generalize w7.drew = w13 at BK313 HB hHeld ⊢
   refine pq_ (i := 0) (N := some 16) #[I,O,O,O,O,O,O,O,O,O,O,O,O,O,O,O,O,O,O,O,O,O,O,O,O,O,O,O,O,O] HT_ ?_
   refine pq_ (i := 1) (N := some 17) #[I,I,O,O,O,O,O,O,O,O,O,O,O,O,O,O,O,O,O,O,O,O,O,O,O,O,O,O,O,O] HT_ ?_
   refine pq_ (i := 2) (N := some 18) #[I,I,I,O,O,O,O,O,O,O,O,O,O,O,O,O,O,O,O,O,O,O,O,O,O,O,O,O,O,O] HT_ ?_
   refine pq_ (i := 3) (N := some 19) #[I,I,I,I,O,O,O,O,O,O,O,O,O,O,O,O,O,O,O,O,O,O,O,O,O,O,O,O,O,O] HT_ ?_
   refine pq_ (i := 4) (N := some 20) #[I,I,I,I,I,O,O,O,O,O,O,O,O,O,O,O,O,O,O,O,O,O,O,O,O,O,O,O,O,O] HT_ ?_
   refine pq_ (i := 5) (N := some 21) #[I,I,I,I,I,I,O,O,O,O,O,O,O,O,O,O,O,O,O,O,O,O,O,O,O,O,O,O,O,O] HT_ ?_
   refine pq_ (i := 6) (N := some 22) #[I,I,I,I,I,I,I,O,O,O,O,O,O,O,O,O,O,O,O,O,O,O,O,O,O,O,O,O,O,O] HT_ ?_
   refine pq_ (i := 7) (N := some 23) #[I,I,I,I,I,I,I,I,O,O,O,O,O,O,O,O,O,O,O,O,O,O,O,O,O,O,O,O,O,O] HT_ ?_
   refine pq_ (i := 8) (N := some 24) #[I,I,I,I,I,I,I,I,I,O,O,O,O,O,O,O,O,O,O,O,O,O,O,O,O,O,O,O,O,O] HT_ ?_
   refine pq_ (i := 9) (N := some 25) #[I,I,I,I,I,I,I,I,I,I,O,O,O,O,O,O,O,O,O,O,O,O,O,O,O,O,O,O,O,O] HT_ ?_
   refine pq_ (i := 10) (N := some 26) #[I,I,I,I,I,I,I,I,I,I,I,O,O,O,O,O,O,O,O,O,O,O,O,O,O,O,O,O,O,O] HT_ ?_
   refine pq_ (i := 11) (N := some 27) #[I,I,I,I,I,I,I,I,I,I,I,I,O,O,O,O,O,O,O,O,O,O,O,O,O,O,O,O,O,O] HT_ ?_
   refine pq_ (i := 12) (N := some 28) #[I,I,I,I,I,I,I,I,I,I,I,I,I,O,O,O,O,O,O,O,O,O,O,O,O,O,O,O,O,O] HT_ ?_
   refine pq_ (i := 13) (N := some 29) #[I,I,I,I,I,I,I,I,I,I,I,I,I,I,O,O,O,O,O,O,O,O,O,O,O,O,O,O,O,O] HT_ ?_
   refine pu_ (i := 14) (N := some 30) #[I,I,I,I,I,I,I,I,I,I,I,I,I,I,I,O,O,O,O,O,O,O,O,O,O,O,O,O,O,O] HT_ ?_
   refine pu_ (i := 15) (N := some 31) #[I,I,I,I,I,I,I,I,I,I,I,I,I,I,I,I,O,O,O,O,O,O,O,O,O,O,O,O,O,O] HT_ ?_
   refine pu_ (i := 16) (N := some 32) #[I,I,I,I,I,I,I,I,I,I,I,I,I,I,I,I,I,O,O,O,O,O,O,O,O,O,O,O,O,O] HT_ ?_
   refine pq_ (i := 17) (N := some 33) #[I,I,I,I,I,I,I,I,I,I,I,I,I,I,I,I,I,I,O,O,O,O,O,O,O,O,O,O,O,O] HT_ ?_
   refine pq_ (i := 18) (N := some 34) #[I,I,I,I,I,I,I,I,I,I,I,I,I,I,I,I,I,I,I,O,O,O,O,O,O,O,O,O,O,O] HT_ ?_
   refine pu_ (i := 19) (N := some 35) #[I,I,I,I,I,I,I,I,I,I,I,I,I,I,I,I,I,I,I,I,O,O,O,O,O,O,O,O,O,O] HT_ ?_
   refine pu_ (i := 20) (N := some 36) #[I,I,I,I,I,I,I,I,I,I,I,I,I,I,I,I,I,I,I,I,I,O,O,O,O,O,O,O,O,O] HT_ ?_
   refine pu_ (i := 21) (N := some 37) #[I,I,I,I,I,I,I,I,I,I,I,I,I,I,I,I,I,I,I,I,I,I,O,O,O,O,O,O,O,O] HT_ ?_
   refine pu_ (i := 22) (N := some 38) #[I,I,I,I,I,I,I,I,I,I,I,I,I,I,I,I,I,I,I,I,I,I,I,O,O,O,O,O,O,O] HT_ ?_
   refine pu_ (i := 23) (N := some 39) #[I,I,I,I,I,I,I,I,I,I,I,I,I,I,I,I,I,I,I,I,I,I,I,I,O,O,O,O,O,O] HT_ ?_
   refine pu_ (i := 24) (N := some 40) #[I,I,I,I,I,I,I,I,I,I,I,I,I,I,I,I,I,I,I,I,I,I,I,I,I,O,O,O,O,O] HT_ ?_
   refine pu_ (i := 25) (N := some 41) #[I,I,I,I,I,I,I,I,I,I,I,I,I,I,I,I,I,I,I,I,I,I,I,I,I,I,O,O,O,O] HT_ ?_
   refine pu_ (i := 26) (N := some 42) #[I,I,I,I,I,I,I,I,I,I,I,I,I,I,I,I,I,I,I,I,I,I,I,I,I,I,I,O,O,O] HT_ ?_
   refine pu_ (i := 27) (N := some 43) #[I,I,I,I,I,I,I,I,I,I,I,I,I,I,I,I,I,I,I,I,I,I,I,I,I,I,I,I,O,O] HT_ ?_
   refine pu_ (i := 28) (N := some 44) #[I,I,I,I,I,I,I,I,I,I,I,I,I,I,I,I,I,I,I,I,I,I,I,I,I,I,I,I,I,O] HT_ ?_
   refine pq_ (i := 29) (N := some 45) #[I,I,I,I,I,I,I,I,I,I,I,I,I,I,I,I,I,I,I,I,I,I,I,I,I,I,I,I,I,I] HT_ ?_
   refine done_ (done_of HT_.out (by kernel_rfl)) ?_
   try go_wp2
   go_meet
   case rel => exact ⟨_, (true), (by first | rfl | (simp; done) | (simp [*]; done)), H', ⟨by first | omega | exact Nat.le_refl _⟩, ⟨by (with_reducible repeat (first | refine blk_drewN ?_ _ | refine blk_drew ?_ | refine blk_alloc ?_ _)); exact BK313.out⟩, ⟨by repeat (first | (with_reducible first | exact HB.out | apply below_alloc | apply pw_below_drewN | apply below_drew1 | refine below_set ?_ GE313.out) | exact HB.out)⟩⟩
  rw [if_neg c12] at H
  have c12b0 : ((l1.length : Int) == 0) = false := beq_eq_false_iff_ne.mpr c12
  have c12b1 : ((l1.length : Int) != 0) = true := bne_iff_ne.mpr c12
  have c12b2 : ¬ (l1 = []) := fun h_ => c12 (by rw [h_]; rfl)
  by_cases c14 : (l2.length : Int) = 0
  ·
   rw [if_pos c14] at H
   have c14b0 : ((l2.length : Int) == 0) = true := beq_iff_eq.mpr c14
   have c14b1 : ((l2.length : Int) != 0) = false := bne_eq_false_iff_eq.mpr c14
   clear c14
   have H' := Aside0.mk H
   clear H
   try go_wp2
   have n0_ := Aside0.mk (blk_drew BK313.out)
   have n1_ := Aside0.mk (below_drew1 HB.out)
   clear BK313
   clear HB
   have BK313 := n0_
   have HB := n1_
   clear n0_ n1_
   refine start_ (n := 30) (S := fun w' => True) (ds := []) #[O,O,O,O,O,O,O,O,O,O,O,O,O,O,O,O,O,O,O,O,O,O,O,O,O,O,O,O,O,O] (by kernel_rfl) rfl rfl trivial (fun hHeld => ?_); refine with_tabW ambidexterlaw23_TimetableIsAdditive.tab2 ambidexterlaw23_TimetableIsAdditive.bits2 (fun HT_ HW_ => ?_)
   generalize w7.drew = w15 at BK313 HB hHeld ⊢
   refine pq_ (i := 0) (N := some 16) #[I,O,O,O,O,O,O,O,O,O,O,O,O,O,O,O,O,O,O,O,O,O,O,O,O,O,O,O,O,O] HT_ ?_
   refine pq_ (i := 1) (N := some 17) #[I,I,O,O,O,O,O,O,O,O,O,O,O,O,O,O,O,O,O,O,O,O,O,O,O,O,O,O,O,O] HT_ ?_
   refine pq_ (i := 2) (N := some 18) #[I,I,I,O,O,O,O,O,O,O,O,O,O,O,O,O,O,O,O,O,O,O,O,O,O,O,O,O,O,O] HT_ ?_
   refine pq_ (i := 3) (N := some 19) #[I,I,I,I,O,O,O,O,O,O,O,O,O,O,O,O,O,O,O,O,O,O,O,O,O,O,O,O,O,O] HT_ ?_
   refine pq_ (i := 4) (N := some 20) #[I,I,I,I,I,O,O,O,O,O,O,O,O,O,O,O,O,O,O,O,O,O,O,O,O,O,O,O,O,O] HT_ ?_
   refine pq_ (i := 5) (N := some 21) #[I,I,I,I,I,I,O,O,O,O,O,O,O,O,O,O,O,O,O,O,O,O,O,O,O,O,O,O,O,O] HT_ ?_
   refine pq_ (i := 6) (N := some 22) #[I,I,I,I,I,I,I,O,O,O,O,O,O,O,O,O,O,O,O,O,O,O,O,O,O,O,O,O,O,O] HT_ ?_
   refine pq_ (i := 7) (N := some 23) #[I,I,I,I,I,I,I,I,O,O,O,O,O,O,O,O,O,O,O,O,O,O,O,O,O,O,O,O,O,O] HT_ ?_
   refine pq_ (i := 8) (N := some 24) #[I,I,I,I,I,I,I,I,I,O,O,O,O,O,O,O,O,O,O,O,O,O,O,O,O,O,O,O,O,O] HT_ ?_
   refine pq_ (i := 9) (N := some 25) #[I,I,I,I,I,I,I,I,I,I,O,O,O,O,O,O,O,O,O,O,O,O,O,O,O,O,O,O,O,O] HT_ ?_
   refine pq_ (i := 10) (N := some 26) #[I,I,I,I,I,I,I,I,I,I,I,O,O,O,O,O,O,O,O,O,O,O,O,O,O,O,O,O,O,O] HT_ ?_
   refine pq_ (i := 11) (N := some 27) #[I,I,I,I,I,I,I,I,I,I,I,I,O,O,O,O,O,O,O,O,O,O,O,O,O,O,O,O,O,O] HT_ ?_
   refine pq_ (i := 12) (N := some 28) #[I,I,I,I,I,I,I,I,I,I,I,I,I,O,O,O,O,O,O,O,O,O,O,O,O,O,O,O,O,O] HT_ ?_
   refine pq_ (i := 13) (N := some 29) #[I,I,I,I,I,I,I,I,I,I,I,I,I,I,O,O,O,O,O,O,O,O,O,O,O,O,O,O,O,O] HT_ ?_
   refine pq_ (i := 14) (N := some 30) #[I,I,I,I,I,I,I,I,I,I,I,I,I,I,I,O,O,O,O,O,O,O,O,O,O,O,O,O,O,O] HT_ ?_
   refine pq_ (i := 15) (N := some 31) #[I,I,I,I,I,I,I,I,I,I,I,I,I,I,I,I,O,O,O,O,O,O,O,O,O,O,O,O,O,O] HT_ ?_
   refine pq_ (i := 16) (N := some 32) #[I,I,I,I,I,I,I,I,I,I,I,I,I,I,I,I,I,O,O,O,O,O,O,O,O,O,O,O,O,O] HT_ ?_
   refine pq_ (i := 17) (N := some 33) #[I,I,I,I,I,I,I,I,I,I,I,I,I,I,I,I,I,I,O,O,O,O,O,O,O,O,O,O,O,O] HT_ ?_
   refine pq_ (i := 18) (N := some 34) #[I,I,I,I,I,I,I,I,I,I,I,I,I,I,I,I,I,I,I,O,O,O,O,O,O,O,O,O,O,O] HT_ ?_
   refine pu_ (i := 19) (N := some 35) #[I,I,I,I,I,I,I,I,I,I,I,I,I,I,I,I,I,I,I,I,O,O,O,O,O,O,O,O,O,O] HT_ ?_
   refine pu_ (i := 20) (N := some 36) #[I,I,I,I,I,I,I,I,I,I,I,I,I,I,I,I,I,I,I,I,I,O,O,O,O,O,O,O,O,O] HT_ ?_
   refine pu_ (i := 21) (N := some 37) #[I,I,I,I,I,I,I,I,I,I,I,I,I,I,I,I,I,I,I,I,I,I,O,O,O,O,O,O,O,O] HT_ ?_
   refine pu_ (i := 22) (N := some 38) #[I,I,I,I,I,I,I,I,I,I,I,I,I,I,I,I,I,I,I,I,I,I,I,O,O,O,O,O,O,O] HT_ ?_
   refine pu_ (i := 23) (N := some 39) #[I,I,I,I,I,I,I,I,I,I,I,I,I,I,I,I,I,I,I,I,I,I,I,I,O,O,O,O,O,O] HT_ ?_
   refine pu_ (i := 24) (N := some 40) #[I,I,I,I,I,I,I,I,I,I,I,I,I,I,I,I,I,I,I,I,I,I,I,I,I,O,O,O,O,O] HT_ ?_
   refine pu_ (i := 25) (N := some 41) #[I,I,I,I,I,I,I,I,I,I,I,I,I,I,I,I,I,I,I,I,I,I,I,I,I,I,O,O,O,O] HT_ ?_
   refine pu_ (i := 26) (N := some 42) #[I,I,I,I,I,I,I,I,I,I,I,I,I,I,I,I,I,I,I,I,I,I,I,I,I,I,I,O,O,O] HT_ ?_
   refine pu_ (i := 27) (N := some 43) #[I,I,I,I,I,I,I,I,I,I,I,I,I,I,I,I,I,I,I,I,I,I,I,I,I,I,I,I,O,O] HT_ ?_
   refine pu_ (i := 28) (N := some 44) #[I,I,I,I,I,I,I,I,I,I,I,I,I,I,I,I,I,I,I,I,I,I,I,I,I,I,I,I,I,O] HT_ ?_
   refine pq_ (i := 29) (N := some 45) #[I,I,I,I,I,I,I,I,I,I,I,I,I,I,I,I,I,I,I,I,I,I,I,I,I,I,I,I,I,I] HT_ ?_
   refine done_ (done_of HT_.out (by kernel_rfl)) ?_
   try go_wp2
   go_meet
   case rel => exact ⟨_, (true), (by first | rfl | (simp; done) | (simp [*]; done)), H', ⟨by first | omega | exact Nat.le_refl _⟩, ⟨by (with_reducible repeat (first | refine blk_drewN ?_ _ | refine blk_drew ?_ | refine blk_alloc ?_ _)); exact BK313.out⟩, ⟨by repeat (first | (with_reducible first | exact HB.out | apply below_alloc | apply pw_below_drewN | apply below_drew1 | refine below_set ?_ GE313.out) | exact HB.out)⟩⟩
  rw [if_neg c14] at H
  have c14b0 : ((l2.length : Int) == 0) = false := beq_eq_false_iff_ne.mpr c14
  have c14b1 : ((l2.length : Int) != 0) = true := bne_iff_ne.mpr c14
  have c14b2 : ¬ (l2 = []) := fun h_ => c14 (by rw [h_]; rfl)
  obtain ⟨ji16, hji16⟩ : ∃ j_ : Int, (wrap64 ((l1.length : Int) - 1)) = j_ := ⟨_, rfl⟩
  replace H : (if 0 ≤ (ji16) then (if (ji16) < (l1.length : Int) then (if 0 < (l2.length : Int) then (ambidexterlaw23_TimetableIsAdditive.j0 k l1 l2 true (((rd_T63 l1 (ji16)).f0) == ((rd_T63 l2 0).f0) && (((rd_T63 l1 (ji16)).f1) == ((rd_T63 l2 0).f1) && (((rd_T63 l1 (ji16)).f2) == ((rd_T63 l2 0).f2)))) a0_0 a0_1 a0_2) else (none)) else (none)) else (none)) = some r := by first | (rw [hji16] at H; exact H) | (simp only [hji16] at H ⊢; exact H)
  have hji16w : (IntKind.i64.wrap ((l1.length : Int) - 1)) = ji16 := (i64_w _).trans hji16
  by_cases c17 : 0 ≤ (ji16)
  case neg =>
   rw [if_neg c17] at H
   exact absurd H (by simp)
  rw [if_pos c17] at H
  have c17b0 : decide (0 ≤ (ji16)) = true := decide_eq_true c17
  clear c17
  by_cases c18 : (ji16) < (l1.length : Int)
  case neg =>
   rw [if_neg c18] at H
   exact absurd H (by simp)
  rw [if_pos c18] at H
  have c18b0 : decide ((ji16) < (l1.length : Int)) = true := decide_eq_true c18
  clear c18
  by_cases c19 : 0 < (l2.length : Int)
  case neg =>
   rw [if_neg c19] at H
   exact absurd H (by simp)
  rw [if_pos c19] at H
  have c19b0 : decide (0 < (l2.length : Int)) = true := decide_eq_true c19
  have c19b1 : decide (0 < l2.length) = true := decide_eq_true (by omega)
  clear c19
  have H' := Aside0.mk H
  clear H
  try go_wp2
  have n0_ := Aside0.mk (blk_drew BK313.out)
  have n1_ := Aside0.mk (below_drew1 HB.out)
  clear BK313
  clear HB
  have BK313 := n0_
  have HB := n1_
  clear n0_ n1_
  have p315 : 0 ≤ ((ji16) : Int) := od_
  have q315 : (ji16) < (l1.length : Int) := od_
  obtain ⟨ad315, e315, hx315_0, hx315_1, hx315_2⟩ := at_T63 HR1.out (ji16) p315 q315
  have hw315_2 := hx315_2
  have hw315_1 := hx315_1
  have hw315_0 := hx315_0
  cases e315
  replace hx315_0 := (HB.out.cell (World.block_lt_of_cell? w _ hx315_0)).trans hx315_0
  replace hx315_1 := (HB.out.cell (World.block_lt_of_cell? w _ hx315_1)).trans hx315_1
  replace hx315_2 := (HB.out.cell (World.block_lt_of_cell? w _ hx315_2)).trans hx315_2
  replace p315 := eq_true p315
  replace q315 := eq_true q315
  have p316 : 0 ≤ (0 : Int) := (by omega)
  have q316 : 0 < (l2.length : Int) := od_
  obtain ⟨ad316, e316, hx316_0, hx316_1, hx316_2⟩ := at_T63 HR2.out 0 p316 q316
  have hw316_2 := hx316_2
  (try rw [show ((0 : Int)).toNat = 0 from rfl] at hw316_2)
  (try rw [show 0 * 3 = 0 from rfl] at hw316_2)
  (try rw [Addr.add_zero'] at hw316_2)
  have hw316_1 := hx316_1
  (try rw [show ((0 : Int)).toNat = 0 from rfl] at hw316_1)
  (try rw [show 0 * 3 = 0 from rfl] at hw316_1)
  (try rw [Addr.add_zero'] at hw316_1)
  have hw316_0 := hx316_0
  (try rw [show ((0 : Int)).toNat = 0 from rfl] at hw316_0)
  (try rw [show 0 * 3 = 0 from rfl] at hw316_0)
  (try rw [Addr.add_zero'] at hw316_0)
  cases e316
  have qi316 : (0 < l2.length) = True := eq_true (by omega)
  (try rw [show ((0 : Int)).toNat = 0 from rfl] at hx316_0)
  (try rw [show 0 * 3 = 0 from rfl] at hx316_0)
  (try rw [Addr.add_zero'] at hx316_0)
  (try rw [show ((0 : Int)).toNat = 0 from rfl] at hx316_1)
  (try rw [show 0 * 3 = 0 from rfl] at hx316_1)
  (try rw [Addr.add_zero'] at hx316_1)
  (try rw [show ((0 : Int)).toNat = 0 from rfl] at hx316_2)
  (try rw [show 0 * 3 = 0 from rfl] at hx316_2)
  (try rw [Addr.add_zero'] at hx316_2)
  replace hx316_0 := (HB.out.cell (World.block_lt_of_cell? w _ hx316_0)).trans hx316_0
  replace hx316_1 := (HB.out.cell (World.block_lt_of_cell? w _ hx316_1)).trans hx316_1
  replace hx316_2 := (HB.out.cell (World.block_lt_of_cell? w _ hx316_2)).trans hx316_2
  replace p316 := eq_true p316
  replace q316 := eq_true q316
  refine start_ (n := 30) (S := fun w' => w'.cell? (ad315.add (((ji16)).toNat * 3)) = some (.int .i64 ((rd_T63 l1 (ji16)).f0)) ∧ w'.cell? ⟨(ad315.add (((ji16)).toNat * 3)).block, (ad315.add (((ji16)).toNat * 3)).off + 1, none⟩ = some (.int .i64 ((rd_T63 l1 (ji16)).f1)) ∧ w'.cell? ⟨(ad315.add (((ji16)).toNat * 3)).block, (ad315.add (((ji16)).toNat * 3)).off + 2, none⟩ = some (.int .i64 ((rd_T63 l1 (ji16)).f2)) ∧ w'.cell? ad316 = some (.int .i64 ((rd_T63 l2 0).f0)) ∧ w'.cell? ⟨ad316.block, ad316.off + 1, none⟩ = some (.int .i64 ((rd_T63 l2 0).f1)) ∧ w'.cell? ⟨ad316.block, ad316.off + 2, none⟩ = some (.int .i64 ((rd_T63 l2 0).f2))) (ds := []) #[O,O,O,O,O,O,O,O,O,O,O,O,O,O,O,O,O,O,O,O,O,O,O,O,O,O,O,O,O,O] (by kernel_rfl) rfl rfl ⟨((HB.out.cell (World.block_lt_of_cell? w _ hw315_0)).trans hw315_0), ((HB.out.cell (World.block_lt_of_cell? w _ hw315_1)).trans hw315_1), ((HB.out.cell (World.block_lt_of_cell? w _ hw315_2)).trans hw315_2), ((HB.out.cell (World.block_lt_of_cell? w _ hw316_0)).trans hw316_0), ((HB.out.cell (World.block_lt_of_cell? w _ hw316_1)).trans hw316_1), ((HB.out.cell (World.block_lt_of_cell? w _ hw316_2)).trans hw316_2)⟩ (fun hHeld => ?_); refine with_tabW ambidexterlaw23_TimetableIsAdditive.tab2 ambidexterlaw23_TimetableIsAdditive.bits2 (fun HT_ HW_ => ?_)
  generalize w7.drew = w20 at BK313 HB hx315_0 hx315_1 hx315_2 hx316_0 hx316_1 hx316_2 hHeld ⊢
  refine pq_ (i := 0) (N := some 16) #[I,O,O,O,O,O,O,O,O,O,O,O,O,O,O,O,O,O,O,O,O,O,O,O,O,O,O,O,O,O] HT_ ?_
  refine pq_ (i := 1) (N := some 17) #[I,I,O,O,O,O,O,O,O,O,O,O,O,O,O,O,O,O,O,O,O,O,O,O,O,O,O,O,O,O] HT_ ?_
  refine pq_ (i := 2) (N := some 18) #[I,I,I,O,O,O,O,O,O,O,O,O,O,O,O,O,O,O,O,O,O,O,O,O,O,O,O,O,O,O] HT_ ?_
  refine pq_ (i := 3) (N := some 19) #[I,I,I,I,O,O,O,O,O,O,O,O,O,O,O,O,O,O,O,O,O,O,O,O,O,O,O,O,O,O] HT_ ?_
  refine pq_ (i := 4) (N := some 20) #[I,I,I,I,I,O,O,O,O,O,O,O,O,O,O,O,O,O,O,O,O,O,O,O,O,O,O,O,O,O] HT_ ?_
  refine pq_ (i := 5) (N := some 21) #[I,I,I,I,I,I,O,O,O,O,O,O,O,O,O,O,O,O,O,O,O,O,O,O,O,O,O,O,O,O] HT_ ?_
  refine pq_ (i := 6) (N := some 22) #[I,I,I,I,I,I,I,O,O,O,O,O,O,O,O,O,O,O,O,O,O,O,O,O,O,O,O,O,O,O] HT_ ?_
  refine pq_ (i := 7) (N := some 23) #[I,I,I,I,I,I,I,I,O,O,O,O,O,O,O,O,O,O,O,O,O,O,O,O,O,O,O,O,O,O] HT_ ?_
  refine pq_ (i := 8) (N := some 24) #[I,I,I,I,I,I,I,I,I,O,O,O,O,O,O,O,O,O,O,O,O,O,O,O,O,O,O,O,O,O] HT_ ?_
  refine pq_ (i := 9) (N := some 25) #[I,I,I,I,I,I,I,I,I,I,O,O,O,O,O,O,O,O,O,O,O,O,O,O,O,O,O,O,O,O] HT_ ?_
  refine pq_ (i := 10) (N := some 26) #[I,I,I,I,I,I,I,I,I,I,I,O,O,O,O,O,O,O,O,O,O,O,O,O,O,O,O,O,O,O] HT_ ?_
  refine pq_ (i := 11) (N := some 27) #[I,I,I,I,I,I,I,I,I,I,I,I,O,O,O,O,O,O,O,O,O,O,O,O,O,O,O,O,O,O] HT_ ?_
  refine pq_ (i := 12) (N := some 28) #[I,I,I,I,I,I,I,I,I,I,I,I,I,O,O,O,O,O,O,O,O,O,O,O,O,O,O,O,O,O] HT_ ?_
  refine pq_ (i := 13) (N := some 29) #[I,I,I,I,I,I,I,I,I,I,I,I,I,I,O,O,O,O,O,O,O,O,O,O,O,O,O,O,O,O] HT_ ?_
  refine pq_ (i := 14) (N := some 30) #[I,I,I,I,I,I,I,I,I,I,I,I,I,I,I,O,O,O,O,O,O,O,O,O,O,O,O,O,O,O] HT_ ?_
  refine pq_ (i := 15) (N := some 31) #[I,I,I,I,I,I,I,I,I,I,I,I,I,I,I,I,O,O,O,O,O,O,O,O,O,O,O,O,O,O] HT_ ?_
  refine pq_ (i := 16) (N := some 32) #[I,I,I,I,I,I,I,I,I,I,I,I,I,I,I,I,I,O,O,O,O,O,O,O,O,O,O,O,O,O] HT_ ?_
  refine pq_ (i := 17) (N := some 33) #[I,I,I,I,I,I,I,I,I,I,I,I,I,I,I,I,I,I,O,O,O,O,O,O,O,O,O,O,O,O] HT_ ?_
  refine pq_ (i := 18) (N := some 34) #[I,I,I,I,I,I,I,I,I,I,I,I,I,I,I,I,I,I,I,O,O,O,O,O,O,O,O,O,O,O] HT_ ?_
  refine pq_ (i := 19) (N := some 35) #[I,I,I,I,I,I,I,I,I,I,I,I,I,I,I,I,I,I,I,I,O,O,O,O,O,O,O,O,O,O] HT_ ?_
  refine pq_ (i := 20) (N := some 36) #[I,I,I,I,I,I,I,I,I,I,I,I,I,I,I,I,I,I,I,I,I,O,O,O,O,O,O,O,O,O] HT_ ?_
  refine pq_ (i := 21) (N := some 37) #[I,I,I,I,I,I,I,I,I,I,I,I,I,I,I,I,I,I,I,I,I,I,O,O,O,O,O,O,O,O] HT_ ?_
  refine pq_ (i := 22) (N := some 38) #[I,I,I,I,I,I,I,I,I,I,I,I,I,I,I,I,I,I,I,I,I,I,I,O,O,O,O,O,O,O] HT_ ?_
  refine pq_ (i := 23) (N := some 39) #[I,I,I,I,I,I,I,I,I,I,I,I,I,I,I,I,I,I,I,I,I,I,I,I,O,O,O,O,O,O] HT_ ?_
  refine pq_ (i := 25) (N := some 41) #[I,I,I,I,I,I,I,I,I,I,I,I,I,I,I,I,I,I,I,I,I,I,I,I,O,I,O,O,O,O] HT_ ?_
  refine pq_ (i := 26) (N := some 42) #[I,I,I,I,I,I,I,I,I,I,I,I,I,I,I,I,I,I,I,I,I,I,I,I,O,I,I,O,O,O] HT_ ?_
  refine take_ (i := 24) (N := some 40) (v := ?_) (a' := ?_) #[I,I,I,I,I,I,I,I,I,I,I,I,I,I,I,I,I,I,I,I,I,I,I,I,I,I,I,O,O,O] rfl rfl (take_ofW HT_.out HW_.out (by kernel_rfl)) (fun _ _ _ h => h) (Or.inl ⟨by rfl, ?_⟩) hHeld ?_ ?_
  rotate_left; · (rintro w' ⟨s0, s1, s2, s3, s4, s5⟩; go_simp; with_reducible rfl)
  rotate_left; · (simp only [Act.put, List.setIfInBounds_toArray, List.set_cons_zero, List.set_cons_succ, i64_w, i32_w]; rfl)
  refine take_ (i := 27) (N := some 43) (v := ?_) (a' := ?_) #[I,I,I,I,I,I,I,I,I,I,I,I,I,I,I,I,I,I,I,I,I,I,I,I,I,I,I,I,O,O] rfl rfl (take_ofW HT_.out HW_.out (by kernel_rfl)) (fun _ _ _ h => h) (Or.inl ⟨by rfl, ?_⟩) hHeld ?_ ?_
  rotate_left; · (rintro w' ⟨s0, s1, s2, s3, s4, s5⟩; go_simp; with_reducible rfl)
  rotate_left; · (simp only [Act.put, List.setIfInBounds_toArray, List.set_cons_zero, List.set_cons_succ, i64_w, i32_w]; rfl)
  refine pq_ (i := 28) (N := some 44) #[I,I,I,I,I,I,I,I,I,I,I,I,I,I,I,I,I,I,I,I,I,I,I,I,I,I,I,I,I,O] HT_ ?_
  refine pq_ (i := 29) (N := some 45) #[I,I,I,I,I,I,I,I,I,I,I,I,I,I,I,I,I,I,I,I,I,I,I,I,I,I,I,I,I,I] HT_ ?_
  refine done_ (done_of HT_.out (by kernel_rfl)) ?_
  try go_wp2
  go_meet
  case rel => exact ⟨_, ((((rd_T63 l1 (ji16)).f0) == ((rd_T63 l2 0).f0) && (((rd_T63 l1 (ji16)).f1) == ((rd_T63 l2 0).f1) && (((rd_T63 l1 (ji16)).f2) == ((rd_T63 l2 0).f2))))), (by first | rfl | (simp; done) | (simp only [← hji16] <;> (first | rfl | simp)) | (simp [*]; done)), H', ⟨by first | omega | exact Nat.le_refl _⟩, ⟨by (with_reducible repeat (first | refine blk_drewN ?_ _ | refine blk_drew ?_ | refine blk_alloc ?_ _)); exact BK313.out⟩, ⟨by repeat (first | (with_reducible first | exact HB.out | apply below_alloc | apply pw_below_drewN | apply below_drew1 | refine below_set ?_ GE313.out) | exact HB.out)⟩⟩
 case rest =>
  clear HC5
  (try clear c1); (try clear p2); (try clear p3); (try clear q3); (try clear hx3); (try clear qi3); (try clear p6); (try clear c12); (try clear c12b0); (try clear c12b1); (try clear c12b2); (try clear c14); (try clear c14b0); (try clear c14b1); (try clear c14b2); (try clear c17); (try clear c17b0); (try clear c18); (try clear c18b0); (try clear c19); (try clear c19b0); (try clear c19b1); (try clear hx315_0)
  (try clear hx315_1); (try clear hx315_2); (try clear hx316_0); (try clear hx316_1); (try clear hx316_2); (try clear p315); (try clear p316); (try clear q315); (try clear q316)
  obtain ⟨kq, x45_4, rfl, HA, HJ4, BK313, HB⟩ := hcut
  cases kq with
  | zero => exact absurd HA.out (by simp [ambidexterlaw23_TimetableIsAdditive.j0])
  | succ kj4 =>
   have H := HA.out
   clear HA
   simp only [ambidexterlaw23_TimetableIsAdditive.j0] at H
   by_cases c21 : x45_4 = true
   ·
    subst c21
    have H1 : (some true) = some r := by rw [if_pos rfl] at H; exact H
    clear H
    have H := H1
    clear H1
    obtain rfl := Option.some.inj H
    go_wp2
    go_ret
    exact ⟨by first | rfl | (simp [errW_none, errW_some] <;> rfl) | (simp [*, errW_none, errW_some] <;> rfl), by repeat (first | (with_reducible first | exact HB.out | apply below_alloc | apply pw_below_drewN | apply below_drew1 | refine below_set ?_ GE313.out) | exact HB.out)⟩
   replace c21 := Bool.eq_false_iff.mpr c21
   subst c21
   have H1 : ((ambidexterlaw23_lim.f a0_0 a0_1 a0_2).bind fun bt317 => ((timetable_Sequential.f kj4 bt317.1 bt317.2.1 bt317.2.2 l1).bind fun bt321 => ((timetable_Sequential.f kj4 bt317.1 bt317.2.1 bt317.2.2 l2).bind fun bt325 => ((some (([] : List (S63)) : List (S63))).bind fun y329 => (if y329.length + l1.length < 5864062014805 then ((some (y329 ++ l1 : List (S63))).bind fun y332 => (if y332.length + l2.length < 5864062014805 then ((timetable_Sequential.f kj4 bt317.1 bt317.2.1 bt317.2.2 (y332 ++ l2)).bind fun bt338 => (if bt321.2 = 1 then (ambidexterlaw23_TimetableIsAdditive.j1 kj4 true bt321.1 bt321.2 bt325.1 bt325.2 bt338.1 bt338.2 true) else (ambidexterlaw23_TimetableIsAdditive.j1 kj4 true bt321.1 bt321.2 bt325.1 bt325.2 bt338.1 bt338.2 (bt325.2 == 1)))) else (none))) else (none)))))) = some r := by rw [if_neg (show ¬ (false = true) by decide)] at H; exact H
   clear H
   have H := H1
   clear H1
   replace H := Option.bind_eq_some_iff.mp H
   obtain ⟨⟨t317, t318, t319⟩, A220, H⟩ := H
   replace H : ((timetable_Sequential.f kj4 t317 t318 t319 l1).bind fun bt321 => ((timetable_Sequential.f kj4 t317 t318 t319 l2).bind fun bt325 => ((some (([] : List (S63)) : List (S63))).bind fun y329 => (if y329.length + l1.length < 5864062014805 then ((some (y329 ++ l1 : List (S63))).bind fun y332 => (if y332.length + l2.length < 5864062014805 then ((timetable_Sequential.f kj4 t317 t318 t319 (y332 ++ l2)).bind fun bt338 => (if bt321.2 = 1 then (ambidexterlaw23_TimetableIsAdditive.j1 kj4 true bt321.1 bt321.2 bt325.1 bt325.2 bt338.1 bt338.2 true) else (ambidexterlaw23_TimetableIsAdditive.j1 kj4 true bt321.1 bt321.2 bt325.1 bt325.2 bt338.1 bt338.2 (bt325.2 == 1)))) else (none))) else (none))))) = some r := H
   have A22 := Aside0.mk A220
   clear A220
   replace H := Option.bind_eq_some_iff.mp H
   obtain ⟨⟨t321, t324⟩, A230, H⟩ := H
   replace H : ((timetable_Sequential.f kj4 t317 t318 t319 l2).bind fun bt325 => ((some (([] : List (S63)) : List (S63))).bind fun y329 => (if y329.length + l1.length < 5864062014805 then ((some (y329 ++ l1 : List (S63))).bind fun y332 => (if y332.length + l2.length < 5864062014805 then ((timetable_Sequential.f kj4 t317 t318 t319 (y332 ++ l2)).bind fun bt338 => (if t324 = 1 then (ambidexterlaw23_TimetableIsAdditive.j1 kj4 true t321 t324 bt325.1 bt325.2 bt338.1 bt338.2 true) else (ambidexterlaw23_TimetableIsAdditive.j1 kj4 true t321 t324 bt325.1 bt325.2 bt338.1 bt338.2 (bt325.2 == 1)))) else (none))) else (none)))) = some r := H
   have A23 := Aside0.mk A230
   clear A230
   replace H := Option.bind_eq_some_iff.mp H
   obtain ⟨⟨t325, t328⟩, A240, H⟩ := H
   replace H : ((some (([] : List (S63)) : List (S63))).bind fun y329 => (if y329.length + l1.length < 5864062014805 then ((some (y329 ++ l1 : List (S63))).bind fun y332 => (if y332.length + l2.length < 5864062014805 then ((timetable_Sequential.f kj4 t317 t318 t319 (y332 ++ l2)).bind fun bt338 => (if t324 = 1 then (ambidexterlaw23_TimetableIsAdditive.j1 kj4 true t321 t324 t325 t328 bt338.1 bt338.2 true) else (ambidexterlaw23_TimetableIsAdditive.j1 kj4 true t321 t324 t325 t328 bt338.1 bt338.2 (t328 == 1)))) else (none))) else (none))) = some r := H
   have A24 := Aside0.mk A240
   clear A240
   obtain ⟨y329, hy329⟩ : ∃ y_ : List (S63), y_ = (([] : List (S63))) := ⟨_, rfl⟩
   replace H : (if y329.length + l1.length < 5864062014805 then ((some (y329 ++ l1 : List (S63))).bind fun y332 => (if y332.length + l2.length < 5864062014805 then ((timetable_Sequential.f kj4 t317 t318 t319 (y332 ++ l2)).bind fun bt338 => (if t324 = 1 then (ambidexterlaw23_TimetableIsAdditive.j1 kj4 true t321 t324 t325 t328 bt338.1 bt338.2 true) else (ambidexterlaw23_TimetableIsAdditive.j1 kj4 true t321 t324 t325 t328 bt338.1 bt338.2 (t328 == 1)))) else (none))) else (none)) = some r := by first | (rw [hy329]; with_reducible exact H) | (have H2_ := (Option.bind_some _ _).symm.trans H; rw [hy329]; with_reducible exact H2_) | (have H2_ := (Option.bind_some _ _).symm.trans H; with_reducible exact H2_) | with_reducible exact H | (rw [hy329]; exact H) | exact H
   have Ny329 := Aside0.mk hy329
   clear hy329
   by_cases c25 : y329.length + l1.length < 5864062014805
   case neg =>
    rw [if_neg c25] at H
    exact absurd H (by simp)

   rw [if_pos c25] at H
   have LMc25 := Aside0.mk c25
   clear c25
   obtain ⟨y332, hy332⟩ : ∃ y_ : List (S63), y_ = (y329 ++ l1) := ⟨_, rfl⟩
   replace H : (if y332.length + l2.length < 5864062014805 then ((timetable_Sequential.f kj4 t317 t318 t319 (y332 ++ l2)).bind fun bt338 => (if t324 = 1 then (ambidexterlaw23_TimetableIsAdditive.j1 kj4 true t321 t324 t325 t328 bt338.1 bt338.2 true) else (ambidexterlaw23_TimetableIsAdditive.j1 kj4 true t321 t324 t325 t328 bt338.1 bt338.2 (t328 == 1)))) else (none)) = some r := by first | (rw [hy332]; with_reducible exact H) | (have H2_ := (Option.bind_some _ _).symm.trans H; rw [hy332]; with_reducible exact H2_) | (have H2_ := (Option.bind_some _ _).symm.trans H; with_reducible exact H2_) | with_reducible exact H | (rw [hy332]; exact H) | exact H
   have Ny332 := Aside0.mk hy332
   clear hy332
   by_cases c26 : y332.length + l2.length < 5864062014805
   case neg =>
    rw [if_neg c26] at H
    exact absurd H (by simp)
   rw [if_pos c26] at H
   have LMc26 := Aside0.mk c26
   clear c26
   obtain ⟨y335, hy335⟩ : ∃ y_ : List (S63), y_ = (y332 ++ l2) := ⟨_, rfl⟩
   replace H : ((timetable_Sequential.f kj4 t317 t318 t319 y335).bind fun bt338 => (if t324 = 1 then (ambidexterlaw23_TimetableIsAdditive.j1 kj4 true t321 t324 t325 t328 bt338.1 bt338.2 true) else (ambidexterlaw23_TimetableIsAdditive.j1 kj4 true t321 t324 t325 t328 bt338.1 bt338.2 (t328 == 1)))) = some r := by first | (rw [hy335]; with_reducible exact H) | (have H2_ := (Option.bind_some _ _).symm.trans H; rw [hy335]; with_reducible exact H2_) | (have H2_ := (Option.bind_some _ _).symm.trans H; with_reducible exact H2_) | with_reducible exact H | (rw [hy335]; exact H) | exact H
   have Ny335 := Aside0.mk hy335
   clear hy335
   replace H := Option.bind_eq_some_iff.mp H
   obtain ⟨⟨t338, t341⟩, A270, H⟩ := H
   replace H : (if t324 = 1 then (ambidexterlaw23_TimetableIsAdditive.j1 kj4 true t321 t324 t325 t328 t338 t341 true) else (ambidexterlaw23_TimetableIsAdditive.j1 kj4 true t321 t324 t325 t328 t338 t341 (t328 == 1))) = some r := H
   have A27 := Aside0.mk A270
   clear A270
   have HC28 := Aside0.mk H
   clear H
   have hcz29_0 : wc.cell? ⟨gb313, 0, none⟩ = some (.int .u8 a0_0) := (blk_cell BK313.out 0).trans rfl
   have hcz29_1 : wc.cell? ⟨gb313, 1, none⟩ = some (.int .u8 a0_1) := (blk_cell BK313.out 1).trans rfl
   have hcz29_2 : wc.cell? ⟨gb313, 2, none⟩ = some (.int .u8 a0_2) := (blk_cell BK313.out 2).trans rfl
   have hfz29_0 := blk_frozen BK313.out 0
   have hfz29_1 := blk_frozen BK313.out 1
   have hfz29_2 := blk_frozen BK313.out 2
   try go_wp2_with (first | ((with_reducible refine gate_callee (f := 42) rfl ?_); refine goesL_ (some 53) rfl rfl Try.func42 (by kernel_rfl) rfl #[.int .u8 a0_0, .int .u8 a0_1, .int .u8 a0_2] rfl (by (try simp only [List.map_toArray, List.map_cons, List.map_nil]); first | done | rfl | (simp only [List.length_drop, List.length_take]; rfl)) ?_; (with_reducible refine (ambidexterlaw23_lim.calls a0_0 a0_1 a0_2 t317 t318 t319 _ A22.out).mono ?_); rintro e w30 ⟨rfl, hb⟩; refine ⟨_, rfl, ?_⟩; have n0_ := Aside0.mk (blk_below (g := gb313) (o := .cells #[.int .u8 a0_0, .int .u8 a0_1, .int .u8 a0_2] 51 (0, 0)) (bk_ BK313.out) hb); have n1_ := Aside0.mk (below_step hb_ hb); clear BK313; clear HB; have BK313 := n0_; have HB := n1_; clear n0_ n1_; (try clear hb); (try clear hb2); (try clear hk); (try clear hi)) | ((with_reducible refine gate_dst (N := 8) rfl ?_); (try (refine gate_guard (by rfl) ?_; dsimp only)); refine box_event ?hg (N := 8) ?hd (cs := #[.int .i64 0, .int .i64 0, .int .i64 0]) (t := 25) ?hr ?_; (case hd => rfl); (case hg => rfl); (case hr => first | (go_simp; done) | (go_simp; rfl)); intro gb320 hg w31 hbox hb; have n0_ := Aside0.mk (blk_below (g := gb313) (o := .cells #[.int .u8 a0_0, .int .u8 a0_1, .int .u8 a0_2] 51 (0, 0)) (bk_ BK313.out) hb); have n1_ := Aside0.mk (below_step hb_ hb); have n2_ := Aside0.mk (hbox); have n3_ := Aside0.mk ((by rw [hg]; exact (below_size hb_) : w.heap.size ≤ gb320)); have n4_ := Aside0.mk ((by rw [hg]; exact (below_size hb_) : w.heap.size ≤ gb320)); have n5_ := Aside0.mk ((by rw [hg]; exact Nat.ne_of_lt (blk_lt (g := gb313) (o := .cells #[.int .u8 a0_0, .int .u8 a0_1, .int .u8 a0_2] 51 (0, 0)) (bk_ BK313.out)) : gb313 ≠ gb320)); have n6_ := Aside0.mk ((by rw [hg]; exact Nat.ne_of_gt (blk_lt (g := gb313) (o := .cells #[.int .u8 a0_0, .int .u8 a0_1, .int .u8 a0_2] 51 (0, 0)) (bk_ BK313.out)) : gb320 ≠ gb313)); clear BK313; clear HB; have BK313 := n0_; have HB := n1_; have BK320 := n2_; have GW320 := n3_; have GE320 := n4_; have NB313_320 := n5_; have NB320_313 := n6_; clear n0_ n1_ n2_ n3_ n4_ n5_ n6_; clear hb hbox hg; have hnb32 := NB320_313.out; have hnc32 := NB313_320.out; have hcz33_0 : w31.cell? ⟨gb320, 0, none⟩ = some (.int .i64 0) := (blk_cell BK320.out 0).trans rfl; have hcz33_1 : w31.cell? ⟨gb320, 1, none⟩ = some (.int .i64 0) := (blk_cell BK320.out 1).trans rfl; have hcz33_2 : w31.cell? ⟨gb320, 2, none⟩ = some (.int .i64 0) := (blk_cell BK320.out 2).trans rfl; have hfz33_0 := blk_frozen BK320.out 0; have hfz33_1 := blk_frozen BK320.out 1; have hfz33_2 := blk_frozen BK320.out 2) | ((with_reducible refine gate_callee (f := 27) rfl ?_); refine goesL_ (some 57) rfl rfl Try.func27 (by kernel_rfl) rfl #[.agg #[.int .i64 t317, .int .i64 t318, .int .i64 t319], .slice A1 l1.length c1] rfl (by (try simp only [List.map_toArray, List.map_cons, List.map_nil]); first | done | rfl | (simp only [List.length_drop, List.length_take]; rfl)) ?_; (with_reducible refine (timetable_Sequential.calls kj4 t317 t318 t319 _ _ l1 t321 t324 _ ?side1 ?side2 A23.out).mono ?_); (case side1 => exact Kd.C_below HR1.out hb_); (case side2 => exact HC1.out); rintro e w34 ⟨v322, rfl, ho0, hb⟩; refine ⟨_, rfl, ?_⟩; have n0_ := Aside0.mk (Kd.S_lower ho0 (below_size hb_)); have n1_ := Aside0.mk (blk_below (g := gb313) (o := .cells #[.int .u8 a0_0, .int .u8 a0_1, .int .u8 a0_2] 51 (0, 0)) (by (with_reducible repeat (first | refine blk_drewN ?_ _ | refine blk_drew ?_ | refine blk_alloc ?_ _)); refine blk_far ?_ NB313_320.out _; (with_reducible repeat (first | refine blk_drewN ?_ _ | refine blk_drew ?_ | refine blk_alloc ?_ _)); refine blk_far ?_ NB313_320.out _; (with_reducible repeat (first | refine blk_drewN ?_ _ | refine blk_drew ?_ | refine blk_alloc ?_ _)); refine blk_far ?_ NB313_320.out _; (with_reducible repeat (first | refine blk_drewN ?_ _ | refine blk_drew ?_ | refine blk_alloc ?_ _)); exact BK313.out) hb); have n2_ := Aside0.mk (blk_below (g := gb320) (o := .cells #[.int .i64 t317, .int .i64 t318, .int .i64 t319] 25 (0, 0)) (by (with_reducible repeat (first | refine blk_drewN ?_ _ | refine blk_drew ?_ | refine blk_alloc ?_ _)); refine blk_put (cs := #[.int .i64 t317, .int .i64 t318, .int .i64 0]) ?_ 2 _ rfl; (with_reducible repeat (first | refine blk_drewN ?_ _ | refine blk_drew ?_ | refine blk_alloc ?_ _)); refine blk_put (cs := #[.int .i64 t317, .int .i64 0, .int .i64 0]) ?_ 1 _ rfl; (with_reducible repeat (first | refine blk_drewN ?_ _ | refine blk_drew ?_ | refine blk_alloc ?_ _)); refine blk_put (cs := #[.int .i64 0, .int .i64 0, .int .i64 0]) ?_ 0 _ rfl; (with_reducible repeat (first | refine blk_drewN ?_ _ | refine blk_drew ?_ | refine blk_alloc ?_ _)); exact BK320.out) hb); have n3_ := Aside0.mk (below_step hb_ hb); clear BK313; clear BK320; clear HB; have HO323 := n0_; have BK313 := n1_; have BK320 := n2_; have HB := n3_; clear n0_ n1_ n2_ n3_; (try clear hb); (try clear hb2); (try clear hk); (try clear hi); (try clear ho0); have hcz35_0 : w34.cell? ⟨gb320, 0, none⟩ = some (.int .i64 t317) := (blk_cell BK320.out 0).trans rfl; have hcz35_1 : w34.cell? ⟨gb320, 1, none⟩ = some (.int .i64 t318) := (blk_cell BK320.out 1).trans rfl; have hcz35_2 : w34.cell? ⟨gb320, 2, none⟩ = some (.int .i64 t319) := (blk_cell BK320.out 2).trans rfl; have hfz35_0 := blk_frozen BK320.out 0; have hfz35_1 := blk_frozen BK320.out 1; have hfz35_2 := blk_frozen BK320.out 2) | ((with_reducible refine gate_callee (f := 27) rfl ?_); refine goesL_ (some 63) rfl rfl Try.func27 (by kernel_rfl) rfl #[.agg #[.int .i64 t317, .int .i64 t318, .int .i64 t319], .slice A2 l2.length c2] rfl (by (try simp only [List.map_toArray, List.map_cons, List.map_nil]); first | done | rfl | (simp only [List.length_drop, List.length_take]; rfl)) ?_; (with_reducible refine (timetable_Sequential.calls kj4 t317 t318 t319 _ _ l2 t325 t328 _ ?side1 ?side2 A24.out).mono ?_); (case side1 => repeat (first | exact (Kd.C_below HR2.out HB.out) | (with_reducible refine Kd.C_alloc ?_ _) | (with_reducible refine Kd.C_drewN ?_ _) | (with_reducible refine Kd.C_drew ?_))); (case side2 => exact HC2.out); rintro e w36 ⟨v326, rfl, ho0, hb⟩; refine ⟨_, rfl, ?_⟩; have n0_ := Aside0.mk (Kd.S_elder' (sk_ HO323.out) (Kd.S_base ho0) hb); have n1_ := Aside0.mk (Kd.S_lower (Kd.S_new' ho0 (Kd.S_lt (sk_ HO323.out))) (below_size hb_)); have n2_ := Aside0.mk (blk_below (g := gb313) (o := .cells #[.int .u8 a0_0, .int .u8 a0_1, .int .u8 a0_2] 51 (0, 0)) (bk_ BK313.out) hb); have n3_ := Aside0.mk (blk_below (g := gb320) (o := .cells #[.int .i64 t317, .int .i64 t318, .int .i64 t319] 25 (0, 0)) (bk_ BK320.out) hb); have n4_ := Aside0.mk (below_step hb_ hb); clear HO323; clear BK313; clear BK320; clear HB; have HO323 := n0_; have HO327 := n1_; have BK313 := n2_; have BK320 := n3_; have HB := n4_; clear n0_ n1_ n2_ n3_ n4_; (try clear hb); (try clear hb2); (try clear hk); (try clear hi); (try clear ho0)))
   have n0_ := Aside0.mk (Kd.S_drew HO323.out)
   have n1_ := Aside0.mk (Kd.S_drew HO327.out)
   have n2_ := Aside0.mk (blk_drew BK313.out)
   have n3_ := Aside0.mk (blk_drew BK320.out)
   have n4_ := Aside0.mk (below_drew1 HB.out)
   clear HO323
   clear HO327
   clear BK313
   clear BK320
   clear HB
   have HO323 := n0_
   have HO327 := n1_
   have BK313 := n2_
   have BK320 := n3_
   have HB := n4_
   clear n0_ n1_ n2_ n3_ n4_
   refine start_ (n := 12) (S := fun w' => w'.cell? ⟨gb320, 0, none⟩ = some (.int .i64 t317) ∧ w'.cell? ⟨gb320, 1, none⟩ = some (.int .i64 t318) ∧ w'.cell? ⟨gb320, 2, none⟩ = some (.int .i64 t319)) (ds := []) #[O,O,O,O,O,O,O,O,O,O,O,O] (by kernel_rfl) rfl rfl ⟨(blk_cell BK320.out 0).trans rfl, (blk_cell BK320.out 1).trans rfl, (blk_cell BK320.out 2).trans rfl⟩ (fun hHeld => ?_); refine with_tabW ambidexterlaw23_TimetableIsAdditive.tab7 ambidexterlaw23_TimetableIsAdditive.bits7 (fun HT_ HW_ => ?_)
   generalize w36.drew = w37 at HO323 HO327 BK313 BK320 HB hHeld ⊢
   refine pq_ (i := 2) (N := some 69) #[O,O,I,O,O,O,O,O,O,O,O,O] HT_ ?_
   refine pq_ (i := 4) (N := some 71) #[O,O,I,O,I,O,O,O,O,O,O,O] HT_ ?_
   refine take_ (i := 0) (N := some 67) (v := ?_) (a' := ?_) #[I,O,I,O,I,O,O,O,O,O,O,O] rfl rfl (take_ofW HT_.out HW_.out (by kernel_rfl)) (fun _ _ _ h => h) (Or.inl ⟨by rfl, ?_⟩) hHeld ?_ ?_
   rotate_left; · (rintro w' ⟨s0, s1, s2⟩; go_simp; with_reducible rfl)
   rotate_left; · (simp only [Act.put, List.setIfInBounds_toArray, List.set_cons_zero, List.set_cons_succ, i64_w, i32_w]; rfl)
   refine one_ (i := 1) (N := some 68) #[I,I,I,O,I,O,O,O,O,O,O,O] rfl rfl (one_of HT_.out (by kernel_rfl)) (by decide) (fun K hK => ?_)
   refine Kd.R_lit_step k63 _ 63 ?hg (N := 68) ?hd (xs := ([] : List (S63))) (inner := []) (ok := fun _ => True) (okp := fun _ => True) ?hr ?hp (fun _ hk => hk) trivial (Below.refl _ _) (Nat.le_refl _) (by simp) ?_; (case hd => rfl); (case hg => rfl); (case hr => first | (go_simp; done) | (go_simp; rfl)); (case hp => exact (Reps.none _ _))
   intro v330 w38 ho39 hb hg_ hnew_
   clear hg_ hnew_
   (first | rw [← Ny329.out] at ho39 | (simp only [Int.reduceToNat] at ho39; rw [← Ny329.out] at ho39))
   have n0_ := Aside0.mk (Kd.S_below (sk_ HO323.out) hb)
   have n1_ := Aside0.mk (Kd.S_below (sk_ HO327.out) hb)
   have n2_ := Aside0.mk (Kd.R_lower ho39 (below_size hb_))
   have n3_ := Aside0.mk (blk_below (g := gb313) (o := .cells #[.int .u8 a0_0, .int .u8 a0_1, .int .u8 a0_2] 51 (0, 0)) (bk_ BK313.out) hb)
   have n4_ := Aside0.mk (blk_below (g := gb320) (o := .cells #[.int .i64 t317, .int .i64 t318, .int .i64 t319] 25 (0, 0)) (bk_ BK320.out) hb)
   have n5_ := Aside0.mk (below_step hb_ hb)
   clear HO323
   clear HO327
   clear BK313
   clear BK320
   clear HB
   have HO323 := n0_
   have HO327 := n1_
   have HO331 := n2_
   have BK313 := n3_
   have BK320 := n4_
   have HB := n5_
   clear n0_ n1_ n2_ n3_ n4_ n5_
   clear hb ho39
   refine hK.out _ _ ⟨(blk_cell BK320.out 0).trans rfl, (blk_cell BK320.out 1).trans rfl, (blk_cell BK320.out 2).trans rfl⟩ (fun hHeld => ?_)
   clear hK K
   refine norm_ (a' := ?_) ?_ ?_
   rotate_left
   ·
    show Act.put _ (some 68) _ = _
    simp only [Act.put, List.setIfInBounds_toArray, List.set_cons_zero, List.set_cons_succ, i64_w, i32_w]
    rfl
   refine one_ (i := 3) (N := some 70) #[I,I,I,I,I,O,O,O,O,O,O,O] rfl rfl (one_of HT_.out (by kernel_rfl)) (by decide) (fun K hK => ?_)
   refine Kd.R_append_rows_step k63 (w0 := w) w.heap.size (by rfl) (.tmp 68) (.tmp 69) 50 63 (.agg #[(.int .i64 0), (.int .i64 0), (.int .i64 0)]) 24 rfl Try.underlying50 info63 rfl (by decide) (by omega) v330 y329 l1 _ _ _ (fun _ => True) (fun _ => False) rfl rfl ?aO ?aR (fun _ _ h => h) (fun _ h => h.elim) ?aF ?aB ?aS ?aL ?_
   (case aR => repeat (first | exact (Kd.C_below HR1.out HB.out) | (with_reducible refine Kd.C_alloc ?_ _) | (with_reducible refine Kd.C_drewN ?_ _) | (with_reducible refine Kd.C_drew ?_)))
   (case aB => exact hb_)
   (case aF => exact (fun _ _ => trivial))
   (case aO => exact (rk_ HO331.out))
   (case aS => exact (below_size hb_))
   (case aL => have := LMc25.out; omega)
   intro v333 w40 ho hb hg hat
   rw [← Ny332.out] at ho
   have n0_ := Aside0.mk (blk_grown (g := gb313) (o := .cells #[.int .u8 a0_0, .int .u8 a0_1, .int .u8 a0_2] 51 (0, 0)) (bk_ BK313.out) hg (Kd.R_ne HO331.out BK313.out (by decide)))
   have n1_ := Aside0.mk (blk_grown (g := gb320) (o := .cells #[.int .i64 t317, .int .i64 t318, .int .i64 t319] 25 (0, 0)) (bk_ BK320.out) hg (Kd.R_ne HO331.out BK320.out (by decide)))
   have n2_ := Aside0.mk (Kd.S_over' (sk_ HO323.out) (Kd.R_typed (rk_ HO331.out)) (by decide) hg)
   have n3_ := Aside0.mk (Kd.S_over' (sk_ HO327.out) (Kd.R_typed (rk_ HO331.out)) (by decide) hg)
   have n4_ := Aside0.mk (hb)
   have n5_ := Aside0.mk (ho)
   clear BK313
   clear BK320
   clear HO323
   clear HO327
   clear HB
   clear HO331
   have BK313 := n0_
   have BK320 := n1_
   have HO323 := n2_
   have HO327 := n3_
   have HB := n4_
   have HO334 := n5_
   clear n0_ n1_ n2_ n3_ n4_ n5_
   clear ho hb hg hat
   refine hK.out _ _ ⟨(blk_cell BK320.out 0).trans rfl, (blk_cell BK320.out 1).trans rfl, (blk_cell BK320.out 2).trans rfl⟩ (fun hHeld => ?_)
   clear hK K
   refine norm_ (a' := ?_) ?_ ?_
   rotate_left
   ·
    show Act.put _ (some 70) _ = _
    simp only [Act.put, List.setIfInBounds_toArray, List.set_cons_zero, List.set_cons_succ, i64_w, i32_w]
    rfl
   refine one_ (i := 5) (N := some 72) #[I,I,I,I,I,I,O,O,O,O,O,O] rfl rfl (one_of HT_.out (by kernel_rfl)) (by decide) (fun K hK => ?_)
   refine Kd.R_append_rows_step k63 (w0 := w) w.heap.size (by rfl) (.tmp 70) (.tmp 71) 50 63 (.agg #[(.int .i64 0), (.int .i64 0), (.int .i64 0)]) 24 rfl Try.underlying50 info63 rfl (by decide) (by omega) v333 y332 l2 _ _ _ (fun _ => True) (fun _ => False) rfl rfl ?aO ?aR (fun _ _ h => h) (fun _ h => h.elim) ?aF ?aB ?aS ?aL ?_
   (case aR => repeat (first | exact (Kd.C_below HR2.out HB.out) | (with_reducible refine Kd.C_alloc ?_ _) | (with_reducible refine Kd.C_drewN ?_ _) | (with_reducible refine Kd.C_drew ?_)))
   (case aB => exact hb_)
   (case aF => exact (fun _ _ => trivial))
   (case aO => exact (rk_ HO334.out))
   (case aS => exact (below_size hb_))
   (case aL => have := LMc26.out; omega)
   intro v336 w41 ho hb hg hat
   rw [← Ny335.out] at ho
   have n0_ := Aside0.mk (blk_grown (g := gb313) (o := .cells #[.int .u8 a0_0, .int .u8 a0_1, .int .u8 a0_2] 51 (0, 0)) (bk_ BK313.out) hg (Kd.R_ne HO334.out BK313.out (by decide)))
   have n1_ := Aside0.mk (blk_grown (g := gb320) (o := .cells #[.int .i64 t317, .int .i64 t318, .int .i64 t319] 25 (0, 0)) (bk_ BK320.out) hg (Kd.R_ne HO334.out BK320.out (by decide)))
   have n2_ := Aside0.mk (Kd.S_over' (sk_ HO323.out) (Kd.R_typed (rk_ HO334.out)) (by decide) hg)
   have n3_ := Aside0.mk (Kd.S_over' (sk_ HO327.out) (Kd.R_typed (rk_ HO334.out)) (by decide) hg)
   have n4_ := Aside0.mk (hb)
   have n5_ := Aside0.mk (ho)
   clear BK313
   clear BK320
   clear HO323
   clear HO327
   clear HB
   clear HO334
   have BK313 := n0_
   have BK320 := n1_
   have HO323 := n2_
   have HO327 := n3_
   have HB := n4_
   have HO337 := n5_
   clear n0_ n1_ n2_ n3_ n4_ n5_
   clear ho hb hg hat
   obtain ⟨Ao42, co42, eo42⟩ := Kd.R_slice HO337.out
   (first | subst eo42 | (injection eo42 with f1_ f2_ f3_; have f4_ := f1_.symm; have f5_ := f3_.symm; clear f1_ f2_ f3_; subst f4_; subst f5_))
   refine hK.out _ _ ⟨(blk_cell BK320.out 0).trans rfl, (blk_cell BK320.out 1).trans rfl, (blk_cell BK320.out 2).trans rfl⟩ (fun hHeld => ?_)
   clear hK K
   refine norm_ (a' := ?_) ?_ ?_
   rotate_left
   ·
    show Act.put _ (some 72) _ = _
    simp only [Act.put, List.setIfInBounds_toArray, List.set_cons_zero, List.set_cons_succ, i64_w, i32_w]
    rfl
   refine one_ (i := 6) (N := some 73) #[I,I,I,I,I,I,I,O,O,O,O,O] rfl rfl (one_of HT_.out (by kernel_rfl)) (by decide) (fun K hK => ?_)
   refine goes_ Try.func27 (by kernel_rfl) rfl #[.agg #[.int .i64 t317, .int .i64 t318, .int .i64 t319], .slice Ao42 y335.length co42] (by rfl) rfl rfl (by (try simp only [List.map_toArray, List.map_cons, List.map_nil]); first | done | rfl | (simp only [List.length_drop, List.length_take]; rfl)) ?_
   with_reducible refine (timetable_Sequential.calls kj4 t317 t318 t319 _ _ y335 t338 t341 _ ?side1 ?side2 A27.out).mono ?_
   (case side1 => repeat (first | exact (Kd.R_reads' HO337.out).2.2 | (with_reducible refine Kd.C_alloc ?_ _) | (with_reducible refine Kd.C_drewN ?_ _) | (with_reducible refine Kd.C_drew ?_)))
   (case side2 => exact (Kd.R_reads' HO337.out).2.1)
   rintro e w43 ⟨v339, rfl, ho0, hb⟩
   refine ⟨_, rfl, ?_⟩
   have n0_ := Aside0.mk (Kd.S_elder' (sk_ HO323.out) (Kd.S_base ho0) hb)
   have n1_ := Aside0.mk (Kd.S_elder' (sk_ HO327.out) (Kd.S_base ho0) hb)
   have n2_ := Aside0.mk (Kd.R_below (rk_ HO337.out) hb)
   have n3_ := Aside0.mk (Kd.S_lower (Kd.S_new' (Kd.S_new' ho0 (Kd.S_lt (sk_ HO323.out))) (Kd.S_lt (sk_ HO327.out))) (below_size hb_))
   have n4_ := Aside0.mk (blk_below (g := gb313) (o := .cells #[.int .u8 a0_0, .int .u8 a0_1, .int .u8 a0_2] 51 (0, 0)) (bk_ BK313.out) hb)
   have n5_ := Aside0.mk (blk_below (g := gb320) (o := .cells #[.int .i64 t317, .int .i64 t318, .int .i64 t319] 25 (0, 0)) (bk_ BK320.out) hb)
   have n6_ := Aside0.mk (below_step hb_ hb)
   clear HO323
   clear HO327
   clear HO337
   clear BK313
   clear BK320
   clear HB
   have HO323 := n0_
   have HO327 := n1_
   have HO337 := n2_
   have HO340 := n3_
   have BK313 := n4_
   have BK320 := n5_
   have HB := n6_
   clear n0_ n1_ n2_ n3_ n4_ n5_ n6_
   (try clear hb)
   (try clear hb2)
   (try clear hk)
   (try clear hi)
   (try clear ho0)
   refine hK.out _ _ ⟨(blk_cell BK320.out 0).trans rfl, (blk_cell BK320.out 1).trans rfl, (blk_cell BK320.out 2).trans rfl⟩ (fun hHeld => ?_)
   clear hK K
   refine norm_ (a' := ?_) ?_ ?_
   rotate_left
   ·
    show Act.put _ (some 73) _ = _
    simp only [Act.put, List.setIfInBounds_toArray, List.set_cons_zero, List.set_cons_succ, i64_w, i32_w]
    rfl
   refine pq_ (i := 7) (N := some 66) #[I,I,I,I,I,I,I,I,O,O,O,O] HT_ ?_
   refine pq_ (i := 8) (N := some 74) #[I,I,I,I,I,I,I,I,I,O,O,O] HT_ ?_
   refine pq_ (i := 9) (N := some 75) #[I,I,I,I,I,I,I,I,I,I,O,O] HT_ ?_
   refine pq_ (i := 10) (N := some 13) #[I,I,I,I,I,I,I,I,I,I,I,O] HT_ ?_
   refine pq_ (i := 11) (N := some 14) #[I,I,I,I,I,I,I,I,I,I,I,I] HT_ ?_
   refine done_ (done_of HT_.out (by kernel_rfl)) ?_
   go_upto_region 8 with (fail)
   go_cut [81] (fun v81 wc => ∃ (kq : Nat) (x81_27 : Bool), v81 = .bool x81_27 ∧ Aside0 (ambidexterlaw23_TimetableIsAdditive.j1 kq true t321 t324 t325 t328 t338 t341 x81_27 = some r) ∧ Aside0 (kq ≤ kj4) ∧ Aside0 (Kd.S k67 67 wc w.heap.size (fun k_ => some k_ ≠ (v326 : Value).ownBlock ∧ some k_ ≠ (v339 : Value).ownBlock) v322 t321) ∧ Aside0 (Kd.S k67 67 wc w.heap.size (fun k_ => some k_ ≠ (v322 : Value).ownBlock ∧ some k_ ≠ (v339 : Value).ownBlock) v326 t325) ∧ Aside0 (Kd.S k67 67 wc w.heap.size (fun k_ => some k_ ≠ (v322 : Value).ownBlock ∧ some k_ ≠ (v326 : Value).ownBlock) v339 t338) ∧ Aside0 (wc.heap[gb313]? = some (.cells #[.int .u8 a0_0, .int .u8 a0_1, .int .u8 a0_2] 51 (0, 0))) ∧ Aside0 (wc.heap[gb320]? = some (.cells #[.int .i64 t317, .int .i64 t318, .int .i64 t319] 25 (0, 0))) ∧ Aside0 (Below w.heap.size w wc))
   case first =>
    have H := HC28.out
    clear HC28
    by_cases c44 : t324 = 1
    case neg =>
     rw [if_neg c44] at H
     have c44b0 : (t324 == 1) = false := beq_eq_false_iff_ne.mpr c44
     have c44b1 : (t324 != 1) = true := bne_iff_ne.mpr c44
     (first | rw [c44b0] | (simp only [i64_w, i32_w]; rw [c44b0]) | skip)
     have H' := Aside0.mk H
     clear H
     go_wp2
     go_meet
     case rel => exact ⟨_, ((t328 == 1)), (by first | rfl | (simp; done) | (simp [*]; done)), H', ⟨by have := HJ4.out; first | omega | exact Nat.le_refl _⟩, ⟨by (with_reducible repeat (first | apply Kd.S_alloc | apply Kd.S_drewN | apply Kd.S_drew)); exact Kd.S_mono HO323.out (fun _ hk => ⟨hk.1.2, hk.2⟩)⟩, ⟨by (with_reducible repeat (first | apply Kd.S_alloc | apply Kd.S_drewN | apply Kd.S_drew)); exact Kd.S_mono HO327.out (fun _ hk => ⟨hk.1.2, hk.2⟩)⟩, ⟨by (with_reducible repeat (first | apply Kd.S_alloc | apply Kd.S_drewN | apply Kd.S_drew)); exact Kd.S_mono HO340.out (fun _ hk => ⟨hk.1.2, hk.2⟩)⟩, ⟨by (with_reducible repeat (first | refine blk_drewN ?_ _ | refine blk_drew ?_ | refine blk_alloc ?_ _)); exact BK313.out⟩, ⟨by (with_reducible repeat (first | refine blk_drewN ?_ _ | refine blk_drew ?_ | refine blk_alloc ?_ _)); exact BK320.out⟩, ⟨by repeat (first | (with_reducible first | exact HB.out | apply below_alloc | apply pw_below_drewN | apply below_drew1 | refine below_set ?_ GE313.out | refine below_set ?_ GE320.out) | exact HB.out)⟩⟩
    rw [if_pos c44] at H
    have c44b0 : (t324 == 1) = true := beq_iff_eq.mpr c44
    have c44b1 : (t324 != 1) = false := bne_eq_false_iff_eq.mpr c44
    clear c44
    (first | rw [c44b0] | (simp only [i64_w, i32_w]; rw [c44b0]) | skip)
    have H' := Aside0.mk H
    clear H
    go_wp2
    go_meet
    case rel => exact ⟨_, (true), (by first | rfl | (simp; done) | (simp [*]; done)), H', ⟨by have := HJ4.out; first | omega | exact Nat.le_refl _⟩, ⟨by (with_reducible repeat (first | apply Kd.S_alloc | apply Kd.S_drewN | apply Kd.S_drew)); exact Kd.S_mono HO323.out (fun _ hk => ⟨hk.1.2, hk.2⟩)⟩, ⟨by (with_reducible repeat (first | apply Kd.S_alloc | apply Kd.S_drewN | apply Kd.S_drew)); exact Kd.S_mono HO327.out (fun _ hk => ⟨hk.1.2, hk.2⟩)⟩, ⟨by (with_reducible repeat (first | apply Kd.S_alloc | apply Kd.S_drewN | apply Kd.S_drew)); exact Kd.S_mono HO340.out (fun _ hk => ⟨hk.1.2, hk.2⟩)⟩, ⟨by (with_reducible repeat (first | refine blk_drewN ?_ _ | refine blk_drew ?_ | refine blk_alloc ?_ _)); exact BK313.out⟩, ⟨by (with_reducible repeat (first | refine blk_drewN ?_ _ | refine blk_drew ?_ | refine blk_alloc ?_ _)); exact BK320.out⟩, ⟨by repeat (first | (with_reducible first | exact HB.out | apply below_alloc | apply pw_below_drewN | apply below_drew1 | refine below_set ?_ GE313.out | refine below_set ?_ GE320.out) | exact HB.out)⟩⟩
   case rest =>
    clear HC28
    (try clear c1); (try clear c2); (try clear p2); (try clear c3); (try clear p3); (try clear q3); (try clear hx3); (try clear qi3); (try clear c4); (try clear p6); (try clear c12); (try clear c12b0); (try clear c12b1); (try clear c12b2); (try clear c14); (try clear c14b0); (try clear c14b1); (try clear c14b2); (try clear c17); (try clear c17b0); (try clear c18); (try clear c18b0); (try clear c19)
    (try clear c19b0); (try clear c19b1); (try clear c21); (try clear c25); (try clear c26); (try clear c27); (try clear p31); (try clear q31); (try clear hx31); (try clear c32); (try clear c42); (try clear c44); (try clear c44b0); (try clear c44b1); (try clear hcz29_0); (try clear hcz29_1); (try clear hcz29_2); (try clear hcz33_0); (try clear hcz33_1); (try clear hcz33_2); (try clear hcz35_0); (try clear hcz35_1)
    (try clear hcz35_2); (try clear hfz29_0); (try clear hfz29_1); (try clear hfz29_2); (try clear hfz33_0); (try clear hfz33_1); (try clear hfz33_2); (try clear hfz35_0); (try clear hfz35_1); (try clear hfz35_2); (try clear hx315_0); (try clear hx315_1); (try clear hx315_2); (try clear hx316_0); (try clear hx316_1); (try clear hx316_2); (try clear p2); (try clear p3); (try clear p315); (try clear p316)
    (try clear p6); (try clear q3); (try clear q315); (try clear q316)
    obtain ⟨kq, x81_27, rfl, HA, HJ27, HO_9, HO_11, HO_13, BK313, BK320, HB⟩ := hcut
    cases kq with
    | zero => exact absurd HA.out (by simp [ambidexterlaw23_TimetableIsAdditive.j1])
    | succ kj27 =>
     have H := HA.out
     clear HA
     simp only [ambidexterlaw23_TimetableIsAdditive.j1] at H
     by_cases c45 : x81_27 = true
     ·
      subst c45
      have H1 : (if true = true then (some (t341 == 1)) else (some false)) = some r := by rw [if_pos rfl] at H; exact H
      clear H
      have H := H1
      clear H1
      have H1 : (some (t341 == 1)) = some r := by first | (rw [if_pos rfl] at H; exact H) | (rw [if_pos True.intro] at H; exact H)
      clear H
      have H := H1
      clear H1
      obtain rfl := Option.some.inj H
      go_wp2
      go_ret
      exact ⟨by first | rfl | (simp [errW_none, errW_some] <;> rfl) | (simp [*, errW_none, errW_some] <;> rfl), by repeat (first | (with_reducible first | exact HB.out | apply below_alloc | apply pw_below_drewN | apply below_drew1 | refine below_set ?_ GE313.out | refine below_set ?_ GE320.out) | exact HB.out)⟩
     replace c45 := Bool.eq_false_iff.mpr c45
     subst c45
     have H1 : (if t341 = 0 then (if true = true then (if t324 = 0 then (if t328 = 0 then (if (t338.length : Int) = (wrap64 ((t321.length : Int) + (t325.length : Int))) then (if 0 ≤ (t321.length : Int) then (if (t321.length : Int) ≤ (t338.length : Int) then ((ambidexterref23_Same.f kj27 (t338.take ((t321.length : Int) : Int).toNat) t321).bind fun t348 => (if t348 = true then ((timetable_Duration.f kj27 t338).bind fun t349 => ((timetable_Duration.f kj27 t321).bind fun t350 => ((timetable_Duration.f kj27 t325).bind fun t351 => (some (t349 == (wrap64 (t350 + t351))))))) else (some false))) else (none)) else (none)) else (some false)) else (some false)) else (some false)) else (some false)) else (if true = true then (if t341 = 2 then (if t324 = 0 then (if t328 = 0 then ((timetable_Duration.f kj27 t321).bind fun t342 => ((timetable_Duration.f kj27 t325).bind fun t343 => (some (decide ((wrap64 (t342 + t343)) > 2000))))) else (some true)) else (some true)) else (some false)) else (some false))) = some r := by rw [if_neg (show ¬ (false = true) by decide)] at H; exact H
     clear H
     have H := H1
     clear H1
     by_cases c46 : t341 = 0
     case neg =>
      rw [if_neg c46] at H
      have c46b0 : (t341 == 0) = false := beq_eq_false_iff_ne.mpr c46
      have c46b1 : (t341 != 0) = true := bne_iff_ne.mpr c46
      have H1 : (if t341 = 2 then (if t324 = 0 then (if t328 = 0 then ((timetable_Duration.f kj27 t321).bind fun t342 => ((timetable_Duration.f kj27 t325).bind fun t343 => (some (decide ((wrap64 (t342 + t343)) > 2000))))) else (some true)) else (some true)) else (some false)) = some r := by first | (rw [if_pos rfl] at H; exact H) | (rw [if_pos True.intro] at H; exact H)
      clear H
      have H := H1
      clear H1
      by_cases c65 : t341 = 2
      case neg =>
       rw [if_neg c65] at H
       have c65b0 : (t341 == 2) = false := beq_eq_false_iff_ne.mpr c65
       have c65b1 : (t341 != 2) = true := bne_iff_ne.mpr c65
       exact absurd HT.out (by rw [← Option.some.inj H]; decide)
      rw [if_pos c65] at H
      have c65b0 : (t341 == 2) = true := beq_iff_eq.mpr c65
      have c65b1 : (t341 != 2) = false := bne_eq_false_iff_eq.mpr c65
      clear c65
      by_cases c66 : t324 = 0
      case neg =>
       rw [if_neg c66] at H
       have c66b0 : (t324 == 0) = false := beq_eq_false_iff_ne.mpr c66
       have c66b1 : (t324 != 0) = true := bne_iff_ne.mpr c66
       obtain rfl := Option.some.inj H
       go_wp2
       go_ret
       exact ⟨by first | rfl | (simp [errW_none, errW_some] <;> rfl) | (simp [*, errW_none, errW_some] <;> rfl), by repeat (first | (with_reducible first | exact HB.out | apply below_alloc | apply pw_below_drewN | apply below_drew1 | refine below_set ?_ GE313.out | refine below_set ?_ GE320.out) | exact HB.out)⟩
      rw [if_pos c66] at H
      have c66b0 : (t324 == 0) = true := beq_iff_eq.mpr c66
      have c66b1 : (t324 != 0) = false := bne_eq_false_iff_eq.mpr c66
      clear c66
      by_cases c67 : t328 = 0
      case neg =>
       rw [if_neg c67] at H
       have c67b0 : (t328 == 0) = false := beq_eq_false_iff_ne.mpr c67
       have c67b1 : (t328 != 0) = true := bne_iff_ne.mpr c67
       obtain rfl := Option.some.inj H
       go_wp2
       go_ret
       exact ⟨by first | rfl | (simp [errW_none, errW_some] <;> rfl) | (simp [*, errW_none, errW_some] <;> rfl), by repeat (first | (with_reducible first | exact HB.out | apply below_alloc | apply pw_below_drewN | apply below_drew1 | refine below_set ?_ GE313.out | refine below_set ?_ GE320.out) | exact HB.out)⟩
      rw [if_pos c67] at H
      have c67b0 : (t328 == 0) = true := beq_iff_eq.mpr c67
      have c67b1 : (t328 != 0) = false := bne_eq_false_iff_eq.mpr c67
      clear c67
      replace H := Option.bind_eq_some_iff.mp H
      obtain ⟨t342, A680, H⟩ := H
      replace H : ((timetable_Duration.f kj27 t325).bind fun t343 => (some (decide ((wrap64 (t342 + t343)) > 2000)))) = some r := H
      have A68 := Aside0.mk A680
      clear A680
      replace H := Option.bind_eq_some_iff.mp H
      obtain ⟨t343, A690, H⟩ := H
      replace H : (some (decide ((wrap64 (t342 + t343)) > 2000))) = some r := H
      have A69 := Aside0.mk A690
      clear A690
      obtain rfl := Option.some.inj H
      obtain ⟨Ao70, co70, eo70⟩ := Kd.S_slice HO_9.out
      subst eo70
      go_wp2_with (first | (go_at_call 29; (with_reducible refine (timetable_Duration.calls kj27 _ _ t321 t342 _ ?side1 ?side2 A68.out).mono ?_); (case side1 => repeat (first | exact (Kd.S_reads' HO_9.out).2.2 | (with_reducible refine Kd.C_alloc ?_ _) | (with_reducible refine Kd.C_drewN ?_ _) | (with_reducible refine Kd.C_drew ?_))); (case side2 => exact (Kd.S_reads' HO_9.out).2.1); rintro e w71 ⟨rfl, hb⟩; have n0_ := Aside0.mk (Kd.S_below (sk_ HO_9.out) hb); have n1_ := Aside0.mk (Kd.S_below (sk_ HO_11.out) hb); have n2_ := Aside0.mk (Kd.S_below (sk_ HO_13.out) hb); have n3_ := Aside0.mk (blk_below (g := gb313) (o := .cells #[.int .u8 a0_0, .int .u8 a0_1, .int .u8 a0_2] 51 (0, 0)) (bk_ BK313.out) hb); have n4_ := Aside0.mk (blk_below (g := gb320) (o := .cells #[.int .i64 t317, .int .i64 t318, .int .i64 t319] 25 (0, 0)) (bk_ BK320.out) hb); have n5_ := Aside0.mk (below_step hb_ hb); clear HO_9; clear HO_11; clear HO_13; clear BK313; clear BK320; clear HB; have HO_9 := n0_; have HO_11 := n1_; have HO_13 := n2_; have BK313 := n3_; have BK320 := n4_; have HB := n5_; clear n0_ n1_ n2_ n3_ n4_ n5_; (try clear hb); (try clear hb2); (try clear hk); (try clear hi); obtain ⟨Ao72, co72, eo72⟩ := Kd.S_slice HO_11.out; subst eo72) | (go_at_call 29; (with_reducible refine (timetable_Duration.calls kj27 _ _ t325 t343 _ ?side1 ?side2 A69.out).mono ?_); (case side1 => repeat (first | exact (Kd.S_reads' HO_11.out).2.2 | (with_reducible refine Kd.C_alloc ?_ _) | (with_reducible refine Kd.C_drewN ?_ _) | (with_reducible refine Kd.C_drew ?_))); (case side2 => exact (Kd.S_reads' HO_11.out).2.1); rintro e w73 ⟨rfl, hb⟩; have n0_ := Aside0.mk (Kd.S_below (sk_ HO_9.out) hb); have n1_ := Aside0.mk (Kd.S_below (sk_ HO_11.out) hb); have n2_ := Aside0.mk (Kd.S_below (sk_ HO_13.out) hb); have n3_ := Aside0.mk (blk_below (g := gb313) (o := .cells #[.int .u8 a0_0, .int .u8 a0_1, .int .u8 a0_2] 51 (0, 0)) (bk_ BK313.out) hb); have n4_ := Aside0.mk (blk_below (g := gb320) (o := .cells #[.int .i64 t317, .int .i64 t318, .int .i64 t319] 25 (0, 0)) (bk_ BK320.out) hb); have n5_ := Aside0.mk (below_step hb_ hb); clear HO_9; clear HO_11; clear HO_13; clear BK313; clear BK320; clear HB; have HO_9 := n0_; have HO_11 := n1_; have HO_13 := n2_; have BK313 := n3_; have BK320 := n4_; have HB := n5_; clear n0_ n1_ n2_ n3_ n4_ n5_; (try clear hb); (try clear hb2); (try clear hk); (try clear hi); (try clear A69)))
      go_ret
      exact ⟨by first | rfl | (simp [errW_none, errW_some] <;> rfl) | (simp [*, errW_none, errW_some] <;> rfl), by repeat (first | (with_reducible first | exact HB.out | apply below_alloc | apply pw_below_drewN | apply below_drew1 | refine below_set ?_ GE313.out | refine below_set ?_ GE320.out) | exact HB.out)⟩
     rw [if_pos c46] at H
     have c46b0 : (t341 == 0) = true := beq_iff_eq.mpr c46
     have c46b1 : (t341 != 0) = false := bne_eq_false_iff_eq.mpr c46
     clear c46
     have H1 : (if t324 = 0 then (if t328 = 0 then (if (t338.length : Int) = (wrap64 ((t321.length : Int) + (t325.length : Int))) then (if 0 ≤ (t321.length : Int) then (if (t321.length : Int) ≤ (t338.length : Int) then ((ambidexterref23_Same.f kj27 (t338.take ((t321.length : Int) : Int).toNat) t321).bind fun t348 => (if t348 = true then ((timetable_Duration.f kj27 t338).bind fun t349 => ((timetable_Duration.f kj27 t321).bind fun t350 => ((timetable_Duration.f kj27 t325).bind fun t351 => (some (t349 == (wrap64 (t350 + t351))))))) else (some false))) else (none)) else (none)) else (some false)) else (some false)) else (some false)) = some r := by first | (rw [if_pos rfl] at H; exact H) | (rw [if_pos True.intro] at H; exact H)
     clear H
     have H := H1
     clear H1
     by_cases c47 : t324 = 0
     case neg =>
      rw [if_neg c47] at H
      have c47b0 : (t324 == 0) = false := beq_eq_false_iff_ne.mpr c47
      have c47b1 : (t324 != 0) = true := bne_iff_ne.mpr c47
      exact absurd HT.out (by rw [← Option.some.inj H]; decide)
     rw [if_pos c47] at H
     have c47b0 : (t324 == 0) = true := beq_iff_eq.mpr c47
     have c47b1 : (t324 != 0) = false := bne_eq_false_iff_eq.mpr c47
     clear c47
     by_cases c48 : t328 = 0
     case neg =>
      rw [if_neg c48] at H
      have c48b0 : (t328 == 0) = false := beq_eq_false_iff_ne.mpr c48
      have c48b1 : (t328 != 0) = true := bne_iff_ne.mpr c48
      exact absurd HT.out (by rw [← Option.some.inj H]; decide)
     rw [if_pos c48] at H
     have c48b0 : (t328 == 0) = true := beq_iff_eq.mpr c48
     have c48b1 : (t328 != 0) = false := bne_eq_false_iff_eq.mpr c48
     clear c48
     by_cases c49 : (t338.length : Int) = (wrap64 ((t321.length : Int) + (t325.length : Int)))
     case neg =>
      rw [if_neg c49] at H
      have c49b0 : ((t338.length : Int) == (wrap64 ((t321.length : Int) + (t325.length : Int)))) = false := beq_eq_false_iff_ne.mpr c49
      have c49b1 : ((t338.length : Int) != (wrap64 ((t321.length : Int) + (t325.length : Int)))) = true := bne_iff_ne.mpr c49
      exact absurd HT.out (by rw [← Option.some.inj H]; decide)
     rw [if_pos c49] at H
     have c49b0 : ((t338.length : Int) == (wrap64 ((t321.length : Int) + (t325.length : Int)))) = true := beq_iff_eq.mpr c49
     have c49b1 : ((t338.length : Int) != (wrap64 ((t321.length : Int) + (t325.length : Int)))) = false := bne_eq_false_iff_eq.mpr c49
     clear c49
     by_cases c50 : 0 ≤ (t321.length : Int)
     case neg =>
      rw [if_neg c50] at H
      exact absurd H (by simp)
     rw [if_pos c50] at H
     have c50b0 := eq_true c50
     have c50b1 : decide (0 ≤ (t321.length : Int)) = true := decide_eq_true c50
     clear c50
     by_cases c51 : (t321.length : Int) ≤ (t338.length : Int)
     case neg =>
      rw [if_neg c51] at H
      exact absurd H (by simp)
     rw [if_pos c51] at H
     have c51b0 := eq_true c51
     have c51b1 : decide ((t321.length : Int) ≤ (t338.length : Int)) = true := decide_eq_true c51
     clear c51
     obtain ⟨y344, hy344⟩ : ∃ y_ : List (S67), y_ = (t338.take ((t321.length : Int) : Int).toNat) := ⟨_, rfl⟩
     replace H : ((ambidexterref23_Same.f kj27 y344 t321).bind fun t348 => (if t348 = true then ((timetable_Duration.f kj27 t338).bind fun t349 => ((timetable_Duration.f kj27 t321).bind fun t350 => ((timetable_Duration.f kj27 t325).bind fun t351 => (some (t349 == (wrap64 (t350 + t351))))))) else (some false))) = some r := by first | (rw [hy344]; with_reducible exact H) | (have H2_ := (Option.bind_some _ _).symm.trans H; rw [hy344]; with_reducible exact H2_) | (have H2_ := (Option.bind_some _ _).symm.trans H; with_reducible exact H2_) | with_reducible exact H | (rw [hy344]; exact H) | exact H
     have Ny344 := Aside0.mk hy344
     clear hy344
     replace H := Option.bind_eq_some_iff.mp H
     obtain ⟨t348, A520, H⟩ := H
     replace H : (if t348 = true then ((timetable_Duration.f kj27 t338).bind fun t349 => ((timetable_Duration.f kj27 t321).bind fun t350 => ((timetable_Duration.f kj27 t325).bind fun t351 => (some (t349 == (wrap64 (t350 + t351))))))) else (some false)) = some r := H
     have A52 := Aside0.mk A520
     clear A520
     by_cases c53 : t348 = true
     case neg =>
      replace c53 := Bool.eq_false_iff.mpr c53
      subst c53
      have H1 : (some false) = some r := by rw [if_neg (show ¬ (false = true) by decide)] at H; exact H
      clear H
      have H := H1
      clear H1
      exact absurd HT.out (by rw [← Option.some.inj H]; decide)
     subst c53
     have H1 : ((timetable_Duration.f kj27 t338).bind fun t349 => ((timetable_Duration.f kj27 t321).bind fun t350 => ((timetable_Duration.f kj27 t325).bind fun t351 => (some (t349 == (wrap64 (t350 + t351))))))) = some r := by rw [if_pos rfl] at H; exact H
     clear H
     have H := H1
     clear H1
     replace H := Option.bind_eq_some_iff.mp H
     obtain ⟨t349, A540, H⟩ := H
     replace H : ((timetable_Duration.f kj27 t321).bind fun t350 => ((timetable_Duration.f kj27 t325).bind fun t351 => (some (t349 == (wrap64 (t350 + t351)))))) = some r := H
     have A54 := Aside0.mk A540
     clear A540
     replace H := Option.bind_eq_some_iff.mp H
     obtain ⟨t350, A550, H⟩ := H
     replace H : ((timetable_Duration.f kj27 t325).bind fun t351 => (some (t349 == (wrap64 (t350 + t351))))) = some r := H
     have A55 := Aside0.mk A550
     clear A550
     replace H := Option.bind_eq_some_iff.mp H
     obtain ⟨t351, A560, H⟩ := H
     replace H : (some (t349 == (wrap64 (t350 + t351)))) = some r := H
     have A56 := Aside0.mk A560
     clear A560
     obtain rfl := Option.some.inj H
     obtain ⟨Ao57, co57, eo57⟩ := Kd.S_slice HO_13.out
     subst eo57
     obtain ⟨Ao58, co58, eo58⟩ := Kd.S_slice HO_9.out
     subst eo58
     obtain ⟨Ao59, co59, eo59⟩ := Kd.S_slice HO_11.out
     subst eo59
     have q60 : ((t321.length : Int) : Int) ≤ ((t338.length : Int) : Int) := od_
     obtain ⟨i060, hi060, _, hsz60, _⟩ := info_parts info67
     have hroom60 : t338.length ≤ co57 := (Kd.S_reads' HO_13.out).2.1
     have hC60 : Kd.C k67 _ Ao57 t338.length t338 := (Kd.S_reads' HO_13.out).2.2
     have hcut60 := cut_to (P := Try.prog) 53 67 .i64 Try.underlying53 hi060 Ao57 t338.length co57 (t321.length : Int) (od_) q60 hroom60
     have hr60 := Kd.C_take (m := ((t321.length : Int) : Int).toNat) hC60 (by omega)
     have hy60 : y344.length = ((t321.length : Int) : Int).toNat := (by rw [Ny344.out, List.length_take]; omega)
     rw [← Ny344.out] at hr60
     rw [← hy60] at hcut60
     have HR347 := Aside0.mk hr60
     have HC347 := Aside0.mk (show y344.length ≤ co57 from by omega)
     clear hr60 hC60 hroom60 hi060 hsz60
     have KY60 := Aside0.mk hy60
     clear hy60
     have KL60 := Aside0.mk (show ((t321.length : Int) : Int).toNat ≤ t338.length from by omega)
     replace q60 := eq_true q60
     go_wp2_with (first | (go_at_call 35; (with_reducible refine (ambidexterref23_Same.calls kj27 _ _ y344 _ _ t321 true _ ?side1 ?side2 ?side3 ?side4 A52.out).mono ?_); (case side1 => repeat (first | exact (by repeat (first | (with_reducible exact HR347.out) | (with_reducible refine Kd.C_alloc ?_ _) | (with_reducible refine Kd.C_drewN ?_ _) | (with_reducible refine Kd.C_drew ?_) | exact HR347.out)) | (with_reducible refine Kd.C_alloc ?_ _) | (with_reducible refine Kd.C_drewN ?_ _) | (with_reducible refine Kd.C_drew ?_))); (case side2 => exact HC347.out); (case side3 => repeat (first | exact (Kd.S_reads' HO_9.out).2.2 | (with_reducible refine Kd.C_alloc ?_ _) | (with_reducible refine Kd.C_drewN ?_ _) | (with_reducible refine Kd.C_drew ?_))); (case side4 => exact (Kd.S_reads' HO_9.out).2.1); rintro e w61 ⟨rfl, hb⟩; have n0_ := Aside0.mk (Kd.S_below (sk_ HO_9.out) hb); have n1_ := Aside0.mk (Kd.S_below (sk_ HO_11.out) hb); have n2_ := Aside0.mk (Kd.S_below (sk_ HO_13.out) hb); have n3_ := Aside0.mk (blk_below (g := gb313) (o := .cells #[.int .u8 a0_0, .int .u8 a0_1, .int .u8 a0_2] 51 (0, 0)) (bk_ BK313.out) hb); have n4_ := Aside0.mk (blk_below (g := gb320) (o := .cells #[.int .i64 t317, .int .i64 t318, .int .i64 t319] 25 (0, 0)) (bk_ BK320.out) hb); have n5_ := Aside0.mk (Kd.C_below (by repeat (first | (with_reducible exact HR347.out) | (with_reducible refine Kd.C_alloc ?_ _) | (with_reducible refine Kd.C_drewN ?_ _) | (with_reducible refine Kd.C_drew ?_) | exact HR347.out)) hb); have n6_ := Aside0.mk (below_step hb_ hb); clear HO_9; clear HO_11; clear HO_13; clear BK313; clear BK320; clear HR347; clear HB; have HO_9 := n0_; have HO_11 := n1_; have HO_13 := n2_; have BK313 := n3_; have BK320 := n4_; have HR347 := n5_; have HB := n6_; clear n0_ n1_ n2_ n3_ n4_ n5_ n6_; (try clear hb); (try clear hb2); (try clear hk); (try clear hi)) | (go_at_call 29; (with_reducible refine (timetable_Duration.calls kj27 _ _ t338 t349 _ ?side1 ?side2 A54.out).mono ?_); (case side1 => repeat (first | exact (Kd.S_reads' HO_13.out).2.2 | (with_reducible refine Kd.C_alloc ?_ _) | (with_reducible refine Kd.C_drewN ?_ _) | (with_reducible refine Kd.C_drew ?_))); (case side2 => exact (Kd.S_reads' HO_13.out).2.1); rintro e w62 ⟨rfl, hb⟩; have n0_ := Aside0.mk (Kd.S_below (sk_ HO_9.out) hb); have n1_ := Aside0.mk (Kd.S_below (sk_ HO_11.out) hb); have n2_ := Aside0.mk (Kd.S_below (sk_ HO_13.out) hb); have n3_ := Aside0.mk (blk_below (g := gb313) (o := .cells #[.int .u8 a0_0, .int .u8 a0_1, .int .u8 a0_2] 51 (0, 0)) (bk_ BK313.out) hb); have n4_ := Aside0.mk (blk_below (g := gb320) (o := .cells #[.int .i64 t317, .int .i64 t318, .int .i64 t319] 25 (0, 0)) (bk_ BK320.out) hb); have n5_ := Aside0.mk (Kd.C_below (by repeat (first | (with_reducible exact HR347.out) | (with_reducible refine Kd.C_alloc ?_ _) | (with_reducible refine Kd.C_drewN ?_ _) | (with_reducible refine Kd.C_drew ?_) | exact HR347.out)) hb); have n6_ := Aside0.mk (below_step hb_ hb); clear HO_9; clear HO_11; clear HO_13; clear BK313; clear BK320; clear HR347; clear HB; have HO_9 := n0_; have HO_11 := n1_; have HO_13 := n2_; have BK313 := n3_; have BK320 := n4_; have HR347 := n5_; have HB := n6_; clear n0_ n1_ n2_ n3_ n4_ n5_ n6_; (try clear hb); (try clear hb2); (try clear hk); (try clear hi); (try clear A54)) | (go_at_call 29; (with_reducible refine (timetable_Duration.calls kj27 _ _ t321 t350 _ ?side1 ?side2 A55.out).mono ?_); (case side1 => repeat (first | exact (Kd.S_reads' HO_9.out).2.2 | (with_reducible refine Kd.C_alloc ?_ _) | (with_reducible refine Kd.C_drewN ?_ _) | (with_reducible refine Kd.C_drew ?_))); (case side2 => exact (Kd.S_reads' HO_9.out).2.1); rintro e w63 ⟨rfl, hb⟩; have n0_ := Aside0.mk (Kd.S_below (sk_ HO_9.out) hb); have n1_ := Aside0.mk (Kd.S_below (sk_ HO_11.out) hb); have n2_ := Aside0.mk (Kd.S_below (sk_ HO_13.out) hb); have n3_ := Aside0.mk (blk_below (g := gb313) (o := .cells #[.int .u8 a0_0, .int .u8 a0_1, .int .u8 a0_2] 51 (0, 0)) (bk_ BK313.out) hb); have n4_ := Aside0.mk (blk_below (g := gb320) (o := .cells #[.int .i64 t317, .int .i64 t318, .int .i64 t319] 25 (0, 0)) (bk_ BK320.out) hb); have n5_ := Aside0.mk (Kd.C_below (by repeat (first | (with_reducible exact HR347.out) | (with_reducible refine Kd.C_alloc ?_ _) | (with_reducible refine Kd.C_drewN ?_ _) | (with_reducible refine Kd.C_drew ?_) | exact HR347.out)) hb); have n6_ := Aside0.mk (below_step hb_ hb); clear HO_9; clear HO_11; clear HO_13; clear BK313; clear BK320; clear HR347; clear HB; have HO_9 := n0_; have HO_11 := n1_; have HO_13 := n2_; have BK313 := n3_; have BK320 := n4_; have HR347 := n5_; have HB := n6_; clear n0_ n1_ n2_ n3_ n4_ n5_ n6_; (try clear hb); (try clear hb2); (try clear hk); (try clear hi); (try clear A55)) | (go_at_call 29; (with_reducible refine (timetable_Duration.calls kj27 _ _ t325 t351 _ ?side1 ?side2 A56.out).mono ?_); (case side1 => repeat (first | exact (Kd.S_reads' HO_11.out).2.2 | (with_reducible refine Kd.C_alloc ?_ _) | (with_reducible refine Kd.C_drewN ?_ _) | (with_reducible refine Kd.C_drew ?_))); (case side2 => exact (Kd.S_reads' HO_11.out).2.1); rintro e w64 ⟨rfl, hb⟩; have n0_ := Aside0.mk (Kd.S_below (sk_ HO_9.out) hb); have n1_ := Aside0.mk (Kd.S_below (sk_ HO_11.out) hb); have n2_ := Aside0.mk (Kd.S_below (sk_ HO_13.out) hb); have n3_ := Aside0.mk (blk_below (g := gb313) (o := .cells #[.int .u8 a0_0, .int .u8 a0_1, .int .u8 a0_2] 51 (0, 0)) (bk_ BK313.out) hb); have n4_ := Aside0.mk (blk_below (g := gb320) (o := .cells #[.int .i64 t317, .int .i64 t318, .int .i64 t319] 25 (0, 0)) (bk_ BK320.out) hb); have n5_ := Aside0.mk (Kd.C_below (by repeat (first | (with_reducible exact HR347.out) | (with_reducible refine Kd.C_alloc ?_ _) | (with_reducible refine Kd.C_drewN ?_ _) | (with_reducible refine Kd.C_drew ?_) | exact HR347.out)) hb); have n6_ := Aside0.mk (below_step hb_ hb); clear HO_9; clear HO_11; clear HO_13; clear BK313; clear BK320; clear HR347; clear HB; have HO_9 := n0_; have HO_11 := n1_; have HO_13 := n2_; have BK313 := n3_; have BK320 := n4_; have HR347 := n5_; have HB := n6_; clear n0_ n1_ n2_ n3_ n4_ n5_ n6_; (try clear hb); (try clear hb2); (try clear hk); (try clear hi); (try clear A56)))
     go_ret
     exact ⟨by first | rfl | (simp [errW_none, errW_some] <;> rfl) | (simp [*, errW_none, errW_some] <;> rfl), by repeat (first | (with_reducible first | exact HB.out | apply below_alloc | apply pw_below_drewN | apply below_drew1 | refine below_set ?_ GE313.out | refine below_set ?_ GE320.out) | exact HB.out)⟩
end Go.Proofs.Ytmmaodlngnjmlaa.P
