-- Written by this session's own program, for this seat. Lean checks it.
import Derived.Test.YtehibiikdlgneaaP0
import Derived.Test.YtehibiikdlgneaaP2
namespace Go.Proofs.Ytehibiikdlgneaa.P
open Go.RowKit Go.Proofs.YtehibiikdlgneaaW.PrintWords Go.Proofs.YtehibiikdlgneaaW.PrintLast Go.Proofs.YtehibiikdlgneaaW.PrintMore
attribute [local go_sem] max2_int min2_int max_two min_two max_three min_three max_four min_four   -- for this text's walks alone
set_option linter.unusedVariables false
set_option linter.unusedSimpArgs false

/-! ### ambidexterlaw21_ProfileMirror: function 7 -/
mutual
def ambidexterlaw21_ProfileMirror.l0 : Nat → Int → List Int → Bool → List Int → Int → Int → Int → Int → Int → Int → Int → Option (Bool)
  | 0, _, _, _, _, _, _, _, _, _, _, _ => none
  | k + 1, x0, x4, x11, x14, x15, x293000, x293001, x293002, x294000, x294001, x294002 => if x15 < (x4.length : Int) then (if 0 ≤ x15 then (if x14.length < 17592186044416 then (ambidexterlaw21_ProfileMirror.l0 k x0 x4 x11 (x14 ++ [wrap64 (-(rd x4 x15))]) (wrap64 (x15 + 1)) x293000 x293001 x293002 x294000 x294001 x294002) else (none)) else (none)) else ((profile_Simulate.f x293000 x293001 x293002 x4).bind fun t298 => ((profile_Simulate.f x294000 x294001 x294002 x14).bind fun t301 => (if (t298.length : Int) = (x4.length : Int) then (ambidexterlaw21_ProfileMirror.j1 k x0 x4 x11 x14 t298 t301 ((t301.length : Int) != (x4.length : Int)) x293000 x293001 x293002 x294000 x294001 x294002) else (ambidexterlaw21_ProfileMirror.j1 k x0 x4 x11 x14 t298 t301 true x293000 x293001 x293002 x294000 x294001 x294002))))
def ambidexterlaw21_ProfileMirror.j1 : Nat → Int → List Int → Bool → List Int → List (S29) → List (S29) → Bool → Int → Int → Int → Int → Int → Int → Option (Bool)
  | 0, _, _, _, _, _, _, _, _, _, _, _, _, _ => none
  | k + 1, x0, x4, x11, x14, x16, x17, x68, x293000, x293001, x293002, x294000, x294001, x294002 => if x68 = true then (some false) else (ambidexterlaw21_ProfileMirror.l1 k x0 x4 x11 x14 x16 x17 0 x293000 x293001 x293002 x294000 x294001 x294002)
def ambidexterlaw21_ProfileMirror.l1 : Nat → Int → List Int → Bool → List Int → List (S29) → List (S29) → Int → Int → Int → Int → Int → Int → Int → Option (Bool)
  | 0, _, _, _, _, _, _, _, _, _, _, _, _, _ => none
  | k + 1, x0, x4, x11, x14, x16, x17, x18, x293000, x293001, x293002, x294000, x294001, x294002 => if x18 < (x16.length : Int) then (if 0 ≤ x18 then (if x18 < (x17.length : Int) then (if ((rd_T29 x17 x18).f0) = (wrap64 (-((rd_T29 x16 x18).f0))) then (if ((rd_T29 x17 x18).f1) = (wrap64 (-((rd_T29 x16 x18).f1))) then (if ((rd_T29 x17 x18).f2) = (wrap64 (-((rd_T29 x16 x18).f2))) then (ambidexterlaw21_ProfileMirror.l1 k x0 x4 x11 x14 x16 x17 (wrap64 (x18 + 1)) x293000 x293001 x293002 x294000 x294001 x294002) else (some false)) else (some false)) else (some false)) else (none)) else (none)) else (if x11 = true then ((ambidexterlaw21_Lim.f x0).bind fun bt310 => ((profile_Within.f bt310.1 bt310.2.1 bt310.2.2 x293000 x293001 x293002 x4).bind fun t313 => ((ambidexterlaw21_Lim.f x0).bind fun bt314 => ((profile_Within.f bt314.1 bt314.2.1 bt314.2.2 x294000 x294001 x294002 x14).bind fun t317 => (some (t313 == t317)))))) else (some false))
end
def ambidexterlaw21_ProfileMirror.f (k : Nat) (a0 : Int) (a1 : Int) (a2 : Int) (a3 : Int) (l4 : List Int) : Option (Bool) := (ambidexterlaw21_head.f k).bind fun t287 => ((ambidexterlaw21_Great.f k l4).bind fun t288 => (if t288 = true then (some t287) else ((ambidexterlaw21_Motion.f a1 a2 a3).bind fun bt289 => (ambidexterlaw21_ProfileMirror.l0 k a0 l4 t287 ([] : List Int) 0 bt289.1 bt289.2.1 bt289.2.2 (wrap64 (-bt289.1)) (wrap64 (-bt289.2.1)) (wrap64 (-bt289.2.2))))))
theorem ambidexterlaw21_ProfileMirror.mono_l : ∀ k, (∀ y0 y1 y2 y3 y4 y5 y6 y7 y8 y9 y10, LeO (ambidexterlaw21_ProfileMirror.l0 k y0 y1 y2 y3 y4 y5 y6 y7 y8 y9 y10) (ambidexterlaw21_ProfileMirror.l0 (k + 1) y0 y1 y2 y3 y4 y5 y6 y7 y8 y9 y10)) ∧ (∀ y0 y1 y2 y3 y4 y5 y6 y7 y8 y9 y10 y11 y12, LeO (ambidexterlaw21_ProfileMirror.j1 k y0 y1 y2 y3 y4 y5 y6 y7 y8 y9 y10 y11 y12) (ambidexterlaw21_ProfileMirror.j1 (k + 1) y0 y1 y2 y3 y4 y5 y6 y7 y8 y9 y10 y11 y12)) ∧ (∀ y0 y1 y2 y3 y4 y5 y6 y7 y8 y9 y10 y11 y12, LeO (ambidexterlaw21_ProfileMirror.l1 k y0 y1 y2 y3 y4 y5 y6 y7 y8 y9 y10 y11 y12) (ambidexterlaw21_ProfileMirror.l1 (k + 1) y0 y1 y2 y3 y4 y5 y6 y7 y8 y9 y10 y11 y12))
  | 0 => ⟨fun _ _ _ _ _ _ _ _ _ _ _ r h => by simp [ambidexterlaw21_ProfileMirror.l0] at h, fun _ _ _ _ _ _ _ _ _ _ _ _ _ r h => by simp [ambidexterlaw21_ProfileMirror.j1] at h, fun _ _ _ _ _ _ _ _ _ _ _ _ _ r h => by simp [ambidexterlaw21_ProfileMirror.l1] at h⟩
  | k + 1 => by
    obtain ⟨ih0, ih1, ih2⟩ := ambidexterlaw21_ProfileMirror.mono_l k
    refine ⟨?_, ?_, ?_⟩
    · intro y0 y1 y2 y3 y4 y5 y6 y7 y8 y9 y10
      unfold ambidexterlaw21_ProfileMirror.l0
      repeat' first
      | (with_reducible exact ih0 _ _ _ _ _ _ _ _ _ _ _)
      | (with_reducible exact ih1 _ _ _ _ _ _ _ _ _ _ _ _ _)
      | (with_reducible exact ih2 _ _ _ _ _ _ _ _ _ _ _ _ _)
      | (with_reducible exact ambidexterlaw21_Great.mono _ _)
      | (with_reducible exact ambidexterlaw21_head.mono _)
      | (with_reducible exact LeO.refl _)
      | (with_reducible exact LeO.none _)
      | (with_reducible refine LeO.ite ?_ ?_)
      | (with_reducible refine LeO.bind ?_ (fun _ => ?_))
      | exact ih0 _ _ _ _ _ _ _ _ _ _ _
      | exact ih1 _ _ _ _ _ _ _ _ _ _ _ _ _
      | exact ih2 _ _ _ _ _ _ _ _ _ _ _ _ _
      | exact ambidexterlaw21_Great.mono _ _
      | exact ambidexterlaw21_head.mono _
      | exact LeO.none _
      | refine LeO.ite ?_ ?_
      | refine LeO.bind ?_ (fun _ => ?_)
    · intro y0 y1 y2 y3 y4 y5 y6 y7 y8 y9 y10 y11 y12
      unfold ambidexterlaw21_ProfileMirror.j1
      repeat' first
      | (with_reducible exact ih0 _ _ _ _ _ _ _ _ _ _ _)
      | (with_reducible exact ih1 _ _ _ _ _ _ _ _ _ _ _ _ _)
      | (with_reducible exact ih2 _ _ _ _ _ _ _ _ _ _ _ _ _)
      | (with_reducible exact ambidexterlaw21_Great.mono _ _)
      | (with_reducible exact ambidexterlaw21_head.mono _)
      | (with_reducible exact LeO.refl _)
      | (with_reducible exact LeO.none _)
      | (with_reducible refine LeO.ite ?_ ?_)
      | (with_reducible refine LeO.bind ?_ (fun _ => ?_))
      | exact ih0 _ _ _ _ _ _ _ _ _ _ _
      | exact ih1 _ _ _ _ _ _ _ _ _ _ _ _ _
      | exact ih2 _ _ _ _ _ _ _ _ _ _ _ _ _
      | exact ambidexterlaw21_Great.mono _ _
      | exact ambidexterlaw21_head.mono _
      | exact LeO.none _
      | refine LeO.ite ?_ ?_
      | refine LeO.bind ?_ (fun _ => ?_)
    · intro y0 y1 y2 y3 y4 y5 y6 y7 y8 y9 y10 y11 y12
      unfold ambidexterlaw21_ProfileMirror.l1
      repeat' first
      | (with_reducible exact ih0 _ _ _ _ _ _ _ _ _ _ _)
      | (with_reducible exact ih1 _ _ _ _ _ _ _ _ _ _ _ _ _)
      | (with_reducible exact ih2 _ _ _ _ _ _ _ _ _ _ _ _ _)
      | (with_reducible exact ambidexterlaw21_Great.mono _ _)
      | (with_reducible exact ambidexterlaw21_head.mono _)
      | (with_reducible exact LeO.refl _)
      | (with_reducible exact LeO.none _)
      | (with_reducible refine LeO.ite ?_ ?_)
      | (with_reducible refine LeO.bind ?_ (fun _ => ?_))
      | exact ih0 _ _ _ _ _ _ _ _ _ _ _
      | exact ih1 _ _ _ _ _ _ _ _ _ _ _ _ _
      | exact ih2 _ _ _ _ _ _ _ _ _ _ _ _ _
      | exact ambidexterlaw21_Great.mono _ _
      | exact ambidexterlaw21_head.mono _
      | exact LeO.none _
      | refine LeO.ite ?_ ?_
      | refine LeO.bind ?_ (fun _ => ?_)
theorem ambidexterlaw21_ProfileMirror.mono : ∀ a0 a1 a2 a3 a4 k, LeO (ambidexterlaw21_ProfileMirror.f k a0 a1 a2 a3 a4) (ambidexterlaw21_ProfileMirror.f (k + 1) a0 a1 a2 a3 a4) := by
  intro a0 a1 a2 a3 a4 k
  obtain ⟨ih0, ih1, ih2⟩ := ambidexterlaw21_ProfileMirror.mono_l k
  unfold ambidexterlaw21_ProfileMirror.f
  repeat' first
      | (with_reducible exact ih0 _ _ _ _ _ _ _ _ _ _ _)
      | (with_reducible exact ih1 _ _ _ _ _ _ _ _ _ _ _ _ _)
      | (with_reducible exact ih2 _ _ _ _ _ _ _ _ _ _ _ _ _)
      | (with_reducible exact ambidexterlaw21_Great.mono _ _)
      | (with_reducible exact ambidexterlaw21_head.mono _)
      | (with_reducible exact LeO.refl _)
      | (with_reducible exact LeO.none _)
      | (with_reducible refine LeO.ite ?_ ?_)
      | (with_reducible refine LeO.bind ?_ (fun _ => ?_))
      | exact ih0 _ _ _ _ _ _ _ _ _ _ _
      | exact ih1 _ _ _ _ _ _ _ _ _ _ _ _ _
      | exact ih2 _ _ _ _ _ _ _ _ _ _ _ _ _
      | exact ambidexterlaw21_Great.mono _ _
      | exact ambidexterlaw21_head.mono _
      | exact LeO.none _
      | refine LeO.ite ?_ ?_
      | refine LeO.bind ?_ (fun _ => ?_)
def ambidexterlaw21_ProfileMirror.T18 : Bool × List (List Nat × List Nat) := (true, [([], []), ([], []), ([0, 1], [0, 1]), ([2], [2]), ([3], [3]), ([], []), ([], []), ([5, 6], [5, 6]), ([7], [7]), ([8], [8]), ([9], [9]), ([4, 10], [4, 10]), ([11], [11]), ([12], [12]), ([12], [12]), ([13, 14, 12], [12, 13, 14]), ([15, 12], [12, 15]), ([16, 12], [12, 16]), ([12], [12]), ([12], [12]), ([18, 19, 12], [12, 18, 19]), ([20, 12], [12, 20]), ([21, 12], [12, 21]), ([22, 12], [12, 22]), ([17, 23, 12], [12, 17, 23]), ([12, 24], [12, 24]), ([25, 12], [25]), ([26], [26]), ([26], [26]), ([27, 28, 26], [26, 27, 28]), ([29, 26], [26, 29]), ([30, 26], [26, 30]), ([26], [26]), ([26], [26]), ([32, 33, 26], [26, 32, 33]), ([34, 26], [26, 34]), ([35, 26], [26, 35]), ([36, 26], [26, 36]), ([31, 37, 26], [26, 31, 37]), ([26, 38], [26, 38])])
def ambidexterlaw21_ProfileMirror.B18 : List Nat := [0, 0, 3, 7, 15, 0, 0, 96, 224, 480, 992, 2047, 4095, 8191, 8191, 32767, 65535, 131071, 8191, 8191, 794623, 1843199, 3940351, 8134655, 16777215, 33554431, 67108863, 134217727, 134217727, 536870911, 1073741823, 2147483647, 134217727, 134217727, 13019119615, 30198988799, 64558727167, 133278203903, 274877906943, 549755813887]
theorem ambidexterlaw21_ProfileMirror.tab18 : rtab .any (opsOf Try.f7 18) = ambidexterlaw21_ProfileMirror.T18 := by kernel_rfl
theorem ambidexterlaw21_ProfileMirror.bits18 : waitsOk ambidexterlaw21_ProfileMirror.T18.2 ambidexterlaw21_ProfileMirror.B18 = true := by kernel_rfl
def ambidexterlaw21_ProfileMirror.T20 : Bool × List (List Nat × List Nat) := (true, [([], []), ([0], [0]), ([1], [1]), ([2, 1, 1], [1, 2]), ([1], [1]), ([1], [1]), ([3, 4, 5, 3, 1], [1, 3, 4, 5]), ([1], [1]), ([7, 6, 1], [1, 7]), ([1], [1]), ([1], [1]), ([8, 9, 10, 8, 1], [1, 8, 9, 10]), ([6, 11, 1], [1, 6, 11]), ([1, 12], [1, 12]), ([13, 11, 0, 1, 2, 3, 4, 5, 6, 7, 8, 9, 10, 11, 12, 13], [13])])
def ambidexterlaw21_ProfileMirror.B20 : List Nat := [0, 1, 3, 7, 3, 3, 63, 3, 255, 3, 3, 2047, 4095, 8191, 16383]
theorem ambidexterlaw21_ProfileMirror.tab20 : rtab .any (opsOf Try.f7 20) = ambidexterlaw21_ProfileMirror.T20 := by kernel_rfl
theorem ambidexterlaw21_ProfileMirror.bits20 : waitsOk ambidexterlaw21_ProfileMirror.T20.2 ambidexterlaw21_ProfileMirror.B20 = true := by kernel_rfl
set_option maxHeartbeats 8000000 in
set_option maxRecDepth 100000 in
theorem ambidexterlaw21_ProfileMirror.calls0 (k : Nat) (a0 : Int) (a1 : Int) (a2 : Int) (a3 : Int) (A4 : Option Addr) (c4 : Nat) (l4 : List Int) (r : Bool) (w : World) (hr4 : Kd.C (Kd.int .i64) w A4 l4.length l4) (hc4 : l4.length ≤ c4) (h : ambidexterlaw21_ProfileMirror.f k a0 a1 a2 a3 l4 = some r) (hT : r = true) :
    Calls Try.prog 7 #[.int .u8 a0, .int .i16 a1, .int .i16 a2, .int .i16 a3, .slice A4 l4.length c4] w fun e w' => e = .returned (.bool r) ∧ Below w.heap.size w w' := by
  have hu29 := Try.underlying29
  have HR4 := Aside0.mk hr4
  have HC4 := Aside0.mk hc4
  clear hr4 hc4
  have HB := Aside0.mk (Below.refl w.heap.size w)
  have H : ((ambidexterlaw21_head.f k).bind fun t287 => ((ambidexterlaw21_Great.f k l4).bind fun t288 => (if t288 = true then (some t287) else ((ambidexterlaw21_Motion.f a1 a2 a3).bind fun bt289 => (ambidexterlaw21_ProfileMirror.l0 k a0 l4 t287 ([] : List Int) 0 bt289.1 bt289.2.1 bt289.2.2 (wrap64 (-bt289.1)) (wrap64 (-bt289.2.1)) (wrap64 (-bt289.2.2))))))) = some r := h
  clear h
  have HT := Aside0.mk hT
  clear hT
  replace H := Option.bind_eq_some_iff.mp H
  obtain ⟨t287, A60, H⟩ := H
  obtain rfl := ambidexterlaw21_head.is_true k A60
  replace H : ((ambidexterlaw21_Great.f k l4).bind fun t288 => (if t288 = true then (some true) else ((ambidexterlaw21_Motion.f a1 a2 a3).bind fun bt289 => (ambidexterlaw21_ProfileMirror.l0 k a0 l4 true ([] : List Int) 0 bt289.1 bt289.2.1 bt289.2.2 (wrap64 (-bt289.1)) (wrap64 (-bt289.2.1)) (wrap64 (-bt289.2.2)))))) = some r := H
  have A6 := Aside0.mk A60
  clear A60
  replace H := Option.bind_eq_some_iff.mp H
  obtain ⟨t288, A70, H⟩ := H
  replace H : (if t288 = true then (some true) else ((ambidexterlaw21_Motion.f a1 a2 a3).bind fun bt289 => (ambidexterlaw21_ProfileMirror.l0 k a0 l4 true ([] : List Int) 0 bt289.1 bt289.2.1 bt289.2.2 (wrap64 (-bt289.1)) (wrap64 (-bt289.2.1)) (wrap64 (-bt289.2.2))))) = some r := H
  have A7 := Aside0.mk A70
  clear A70
  by_cases c8 : t288 = true
  · subst c8
    have H1 : (some true) = some r := by rw [if_pos rfl] at H; exact H
    clear H
    have H := H1
    clear H1
    obtain rfl := Option.some.inj H
    go_enter Try.func7, Try.ntmps7
    go_wp2_with (first | ((with_reducible refine gate_callee (f := 15) rfl ?_); refine goesL_ (some 19) rfl rfl Try.func15 (by kernel_rfl) rfl #[] rfl (by (try simp only [List.map_toArray, List.map_cons, List.map_nil]); first | done | rfl | (simp only [List.length_drop, List.length_take]; rfl)) ?_; (with_reducible refine (ambidexterlaw21_head.calls k  true _ A6.out).mono ?_); rintro e w9 ⟨rfl, hb⟩; refine ⟨_, rfl, ?_⟩; have n0_ := Aside0.mk (below_step (by repeat (first | (with_reducible first | exact HB.out | apply below_alloc | apply pw_below_drewN | apply below_drew1) | exact HB.out)) hb); clear HB; have HB := n0_; clear n0_; (try clear hb); (try clear hb2); (try clear hk); (try clear hi)) | ((with_reducible refine gate_callee (f := 16) rfl ?_); refine goesL_ (some 21) rfl rfl Try.func16 (by kernel_rfl) rfl #[.slice A4 l4.length c4] rfl (by (try simp only [List.map_toArray, List.map_cons, List.map_nil]); first | done | rfl | (simp only [List.length_drop, List.length_take]; rfl)) ?_; (with_reducible refine (ambidexterlaw21_Great.calls k _ _ l4 true _ ?side1 ?side2 A7.out).mono ?_); (case side1 => repeat (first | exact (Kd.C_below HR4.out HB.out) | (with_reducible refine Kd.C_alloc ?_ _) | (with_reducible refine Kd.C_drewN ?_ _) | (with_reducible refine Kd.C_drew ?_))); (case side2 => exact HC4.out); rintro e w' ⟨rfl, ⟨nd, rfl⟩⟩; refine ⟨_, rfl, ?_⟩))
    go_ret
    exact ⟨by first | rfl | (simp [errW_none, errW_some] <;> rfl) | (simp [*, errW_none, errW_some] <;> rfl), by repeat (first | (with_reducible first | exact HB.out | apply below_alloc | apply pw_below_drewN | apply below_drew1) | exact HB.out)⟩
  · replace c8 := Bool.eq_false_iff.mpr c8
    subst c8
    have H1 : ((ambidexterlaw21_Motion.f a1 a2 a3).bind fun bt289 => (ambidexterlaw21_ProfileMirror.l0 k a0 l4 true ([] : List Int) 0 bt289.1 bt289.2.1 bt289.2.2 (wrap64 (-bt289.1)) (wrap64 (-bt289.2.1)) (wrap64 (-bt289.2.2)))) = some r := by rw [if_neg (show ¬ (false = true) by decide)] at H; exact H
    clear H
    have H := H1
    clear H1
    replace H := Option.bind_eq_some_iff.mp H
    obtain ⟨⟨t289, t290, t291⟩, A100, H⟩ := H
    replace H : (ambidexterlaw21_ProfileMirror.l0 k a0 l4 true ([] : List Int) 0 t289 t290 t291 (wrap64 (-t289)) (wrap64 (-t290)) (wrap64 (-t291))) = some r := H
    have A10 := Aside0.mk A100
    clear A100
    have H' := Aside0.mk H
    clear H
    go_enter Try.func7, Try.ntmps7
    go_wp2_with (first | ((with_reducible refine gate_callee (f := 15) rfl ?_); refine goesL_ (some 19) rfl rfl Try.func15 (by kernel_rfl) rfl #[] rfl (by (try simp only [List.map_toArray, List.map_cons, List.map_nil]); first | done | rfl | (simp only [List.length_drop, List.length_take]; rfl)) ?_; (with_reducible refine (ambidexterlaw21_head.calls k  true _ A6.out).mono ?_); rintro e w11 ⟨rfl, hb⟩; refine ⟨_, rfl, ?_⟩; have n0_ := Aside0.mk (below_step (by repeat (first | (with_reducible first | exact HB.out | apply below_alloc | apply pw_below_drewN | apply below_drew1) | exact HB.out)) hb); clear HB; have HB := n0_; clear n0_; (try clear hb); (try clear hb2); (try clear hk); (try clear hi)) | ((with_reducible refine gate_callee (f := 16) rfl ?_); refine goesL_ (some 21) rfl rfl Try.func16 (by kernel_rfl) rfl #[.slice A4 l4.length c4] rfl (by (try simp only [List.map_toArray, List.map_cons, List.map_nil]); first | done | rfl | (simp only [List.length_drop, List.length_take]; rfl)) ?_; (with_reducible refine (ambidexterlaw21_Great.calls k _ _ l4 false _ ?side1 ?side2 A7.out).mono ?_); (case side1 => repeat (first | exact (Kd.C_below HR4.out HB.out) | (with_reducible refine Kd.C_alloc ?_ _) | (with_reducible refine Kd.C_drewN ?_ _) | (with_reducible refine Kd.C_drew ?_))); (case side2 => exact HC4.out); rintro e w' ⟨rfl, ⟨nd, rfl⟩⟩; refine ⟨_, rfl, ?_⟩; (try (rw [drewN_self w11]; generalize hq_ : World.drewN w11 _ = w11; have n0_ : Aside0 (Below w.heap.size w w11) := ⟨by rw [← hq_]; exact (by repeat (first | (with_reducible first | exact HB.out | apply below_alloc | apply pw_below_drewN | apply below_drew1) | exact HB.out))⟩; clear HB hq_; have HB := n0_; clear n0_))) | ((with_reducible refine gate_callee (f := 17) rfl ?_); refine goesL_ (some 26) rfl rfl Try.func17 (by kernel_rfl) rfl #[.int .i16 a1, .int .i16 a2, .int .i16 a3] rfl (by (try simp only [List.map_toArray, List.map_cons, List.map_nil]); first | done | rfl | (simp only [List.length_drop, List.length_take]; rfl)) ?_; (with_reducible refine (ambidexterlaw21_Motion.calls a1 a2 a3 t289 t290 t291 _ A10.out).mono ?_); rintro e w12 ⟨rfl, hb⟩; refine ⟨_, rfl, ?_⟩; have n0_ := Aside0.mk (below_step (by repeat (first | (with_reducible first | exact HB.out | apply below_alloc | apply pw_below_drewN | apply below_drew1) | exact HB.out)) hb); clear HB; have HB := n0_; clear n0_; (try clear hb); (try clear hb2); (try clear hk); (try clear hi)) | ((with_reducible refine gate_dst (N := 12) rfl ?_); (try (refine gate_guard (by rfl) ?_; dsimp only)); refine box_event ?hg (N := 12) ?hd (cs := #[.int .i64 0, .int .i64 0, .int .i64 0]) (t := 29) ?hr ?_; (case hd => rfl); (case hg => rfl); (case hr => first | (go_simp; done) | (go_simp; rfl)); intro gb292 hg w13 hbox hb; have n0_ := Aside0.mk (below_step (by repeat (first | (with_reducible first | exact HB.out | apply below_alloc | apply pw_below_drewN | apply below_drew1) | exact HB.out)) hb); have n1_ := Aside0.mk (hbox); have n2_ := Aside0.mk ((by rw [hg]; exact (below_size (by repeat (first | (with_reducible first | exact HB.out | apply below_alloc | apply pw_below_drewN | apply below_drew1) | exact HB.out))) : w.heap.size ≤ gb292)); have n3_ := Aside0.mk ((by rw [hg]; exact (below_size (by repeat (first | (with_reducible first | exact HB.out | apply below_alloc | apply pw_below_drewN | apply below_drew1) | exact HB.out))) : w.heap.size ≤ gb292)); clear HB; have HB := n0_; have BK292 := n1_; have GW292 := n2_; have GE292 := n3_; clear n0_ n1_ n2_ n3_; clear hb hbox hg; have hcz14_0 : w13.cell? ⟨gb292, 0, none⟩ = some (.int .i64 0) := (blk_cell BK292.out 0).trans rfl; have hcz14_1 : w13.cell? ⟨gb292, 1, none⟩ = some (.int .i64 0) := (blk_cell BK292.out 1).trans rfl; have hcz14_2 : w13.cell? ⟨gb292, 2, none⟩ = some (.int .i64 0) := (blk_cell BK292.out 2).trans rfl; have hfz14_0 := blk_frozen BK292.out 0; have hfz14_1 := blk_frozen BK292.out 1; have hfz14_2 := blk_frozen BK292.out 2) | ((with_reducible refine gate_dst (N := 13) rfl ?_); (try (refine gate_guard (by rfl) ?_; dsimp only)); refine box_event ?hg (N := 13) ?hd (cs := #[.int .i64 0, .int .i64 0, .int .i64 0]) (t := 29) ?hr ?_; (case hd => rfl); (case hg => rfl); (case hr => first | (go_simp; done) | (go_simp; rfl)); intro gb293 hg w15 hbox hb; have n0_ := Aside0.mk (blk_below (g := gb292) (o := .cells #[.int .i64 t289, .int .i64 t290, .int .i64 t291] 29 (0, 0)) (by (with_reducible repeat (first | refine blk_drewN ?_ _ | refine blk_drew ?_ | refine blk_alloc ?_ _)); refine blk_put (cs := #[.int .i64 t289, .int .i64 t290, .int .i64 0]) ?_ 2 _ rfl; (with_reducible repeat (first | refine blk_drewN ?_ _ | refine blk_drew ?_ | refine blk_alloc ?_ _)); refine blk_put (cs := #[.int .i64 t289, .int .i64 0, .int .i64 0]) ?_ 1 _ rfl; (with_reducible repeat (first | refine blk_drewN ?_ _ | refine blk_drew ?_ | refine blk_alloc ?_ _)); refine blk_put (cs := #[.int .i64 0, .int .i64 0, .int .i64 0]) ?_ 0 _ rfl; (with_reducible repeat (first | refine blk_drewN ?_ _ | refine blk_drew ?_ | refine blk_alloc ?_ _)); exact BK292.out) hb); have n1_ := Aside0.mk (below_step (by repeat (first | (with_reducible first | exact HB.out | apply below_alloc | apply pw_below_drewN | apply below_drew1 | refine below_set ?_ GE292.out) | exact HB.out)) hb); have n2_ := Aside0.mk (hbox); have n3_ := Aside0.mk ((by rw [hg]; exact (below_size (by repeat (first | (with_reducible first | exact HB.out | apply below_alloc | apply pw_below_drewN | apply below_drew1 | refine below_set ?_ GE292.out) | exact HB.out))) : w.heap.size ≤ gb293)); have n4_ := Aside0.mk ((by rw [hg]; exact (below_size (by repeat (first | (with_reducible first | exact HB.out | apply below_alloc | apply pw_below_drewN | apply below_drew1 | refine below_set ?_ GE292.out) | exact HB.out))) : w.heap.size ≤ gb293)); have n5_ := Aside0.mk ((by rw [hg]; exact Nat.ne_of_lt (blk_lt (g := gb292) (o := .cells #[.int .i64 t289, .int .i64 t290, .int .i64 t291] 29 (0, 0)) (by (with_reducible repeat (first | refine blk_drewN ?_ _ | refine blk_drew ?_ | refine blk_alloc ?_ _)); refine blk_put (cs := #[.int .i64 t289, .int .i64 t290, .int .i64 0]) ?_ 2 _ rfl; (with_reducible repeat (first | refine blk_drewN ?_ _ | refine blk_drew ?_ | refine blk_alloc ?_ _)); refine blk_put (cs := #[.int .i64 t289, .int .i64 0, .int .i64 0]) ?_ 1 _ rfl; (with_reducible repeat (first | refine blk_drewN ?_ _ | refine blk_drew ?_ | refine blk_alloc ?_ _)); refine blk_put (cs := #[.int .i64 0, .int .i64 0, .int .i64 0]) ?_ 0 _ rfl; (with_reducible repeat (first | refine blk_drewN ?_ _ | refine blk_drew ?_ | refine blk_alloc ?_ _)); exact BK292.out)) : gb292 ≠ gb293)); have n6_ := Aside0.mk ((by rw [hg]; exact Nat.ne_of_gt (blk_lt (g := gb292) (o := .cells #[.int .i64 t289, .int .i64 t290, .int .i64 t291] 29 (0, 0)) (by (with_reducible repeat (first | refine blk_drewN ?_ _ | refine blk_drew ?_ | refine blk_alloc ?_ _)); refine blk_put (cs := #[.int .i64 t289, .int .i64 t290, .int .i64 0]) ?_ 2 _ rfl; (with_reducible repeat (first | refine blk_drewN ?_ _ | refine blk_drew ?_ | refine blk_alloc ?_ _)); refine blk_put (cs := #[.int .i64 t289, .int .i64 0, .int .i64 0]) ?_ 1 _ rfl; (with_reducible repeat (first | refine blk_drewN ?_ _ | refine blk_drew ?_ | refine blk_alloc ?_ _)); refine blk_put (cs := #[.int .i64 0, .int .i64 0, .int .i64 0]) ?_ 0 _ rfl; (with_reducible repeat (first | refine blk_drewN ?_ _ | refine blk_drew ?_ | refine blk_alloc ?_ _)); exact BK292.out)) : gb293 ≠ gb292)); clear BK292; clear HB; have BK292 := n0_; have HB := n1_; have BK293 := n2_; have GW293 := n3_; have GE293 := n4_; have NB292_293 := n5_; have NB293_292 := n6_; clear n0_ n1_ n2_ n3_ n4_ n5_ n6_; clear hb hbox hg; have hnb16 := NB293_292.out; have hnc16 := NB292_293.out; have hcz17_0 : w15.cell? ⟨gb293, 0, none⟩ = some (.int .i64 0) := (blk_cell BK293.out 0).trans rfl; have hcz17_1 : w15.cell? ⟨gb293, 1, none⟩ = some (.int .i64 0) := (blk_cell BK293.out 1).trans rfl; have hcz17_2 : w15.cell? ⟨gb293, 2, none⟩ = some (.int .i64 0) := (blk_cell BK293.out 2).trans rfl; have hfz17_0 := blk_frozen BK293.out 0; have hfz17_1 := blk_frozen BK293.out 1; have hfz17_2 := blk_frozen BK293.out 2))
    go_loopg [14, 15] k (fun kq v14 v15 w' => ∃ (x14_1 : List Int) (x15_1 : Int), v15 = .int .i64 x15_1 ∧ Aside0 (ambidexterlaw21_ProfileMirror.l0 kq a0 l4 true x14_1 x15_1 t289 t290 t291 (wrap64 (-t289)) (wrap64 (-t290)) (wrap64 (-t291)) = some r) ∧ Aside0 (kq ≤ k) ∧ Aside0 (Kd.R (Kd.int .i64) 3 w' w.heap.size (fun _ => True) v14 x14_1) ∧ Aside0 (w'.heap[gb292]? = some (.cells #[.int .i64 t289, .int .i64 t290, .int .i64 t291] 29 (0, 0))) ∧ Aside0 (w'.heap[gb293]? = some (.cells #[.int .i64 (wrap64 (-t289)), .int .i64 (wrap64 (-t290)), .int .i64 (wrap64 (-t291))] 29 (0, 0))) ∧ Aside0 (Below w.heap.size w w'))
    case atStart => exact ⟨(([] : List Int)), (0), (by first | rfl | (simp; done) | (simp [*]; done)), H', ⟨Nat.le_refl _⟩, ⟨by first | exact Kd.R_nil _ _ _ _ _ | exact Kd.N_nil _ _ _ _ _ | exact Kd.V_nil _ _ _ _ _ | exact Kd.Q_nil _ _ _ _ _ | exact Kd.S_nil _ _ _ _ _⟩, ⟨by (with_reducible repeat (first | refine blk_drewN ?_ _ | refine blk_drew ?_ | refine blk_alloc ?_ _)); refine blk_far ?_ NB292_293.out _; (with_reducible repeat (first | refine blk_drewN ?_ _ | refine blk_drew ?_ | refine blk_alloc ?_ _)); refine blk_far ?_ NB292_293.out _; (with_reducible repeat (first | refine blk_drewN ?_ _ | refine blk_drew ?_ | refine blk_alloc ?_ _)); refine blk_far ?_ NB292_293.out _; (with_reducible repeat (first | refine blk_drewN ?_ _ | refine blk_drew ?_ | refine blk_alloc ?_ _)); exact BK292.out⟩, ⟨by (with_reducible repeat (first | refine blk_drewN ?_ _ | refine blk_drew ?_ | refine blk_alloc ?_ _)); refine blk_put (cs := #[.int .i64 (wrap64 (-t289)), .int .i64 (wrap64 (-t290)), .int .i64 0]) ?_ 2 _ rfl; (with_reducible repeat (first | refine blk_drewN ?_ _ | refine blk_drew ?_ | refine blk_alloc ?_ _)); refine blk_put (cs := #[.int .i64 (wrap64 (-t289)), .int .i64 0, .int .i64 0]) ?_ 1 _ rfl; (with_reducible repeat (first | refine blk_drewN ?_ _ | refine blk_drew ?_ | refine blk_alloc ?_ _)); refine blk_put (cs := #[.int .i64 0, .int .i64 0, .int .i64 0]) ?_ 0 _ rfl; (with_reducible repeat (first | refine blk_drewN ?_ _ | refine blk_drew ?_ | refine blk_alloc ?_ _)); exact BK293.out⟩, ⟨by repeat (first | (with_reducible first | exact HB.out | apply below_alloc | apply pw_below_drewN | apply below_drew1 | refine below_set ?_ GE292.out | refine below_set ?_ GE293.out) | exact HB.out)⟩⟩
    case round =>
      clear H'
      try clear c1
      try clear p2
      try clear c4
      try clear p6
      try clear c7
      try clear c8
      try clear c15
      try clear c16
      try clear c17
      try clear hcz14_0
      try clear hcz14_1
      try clear hcz14_2
      try clear hcz17_0
      try clear hcz17_1
      try clear hcz17_2
      try clear hfz14_0
      try clear hfz14_1
      try clear hfz14_2
      try clear hfz17_0
      try clear hfz17_1
      try clear hfz17_2
      obtain ⟨x14_1, x15_1, rfl, HA, HK1, HO_14, BK292, BK293, HB⟩ := hrel
      cases gk with
      | zero => exact absurd HA.out (by simp [ambidexterlaw21_ProfileMirror.l0])
      | succ k1 =>
        have H := HA.out
        clear HA
        simp only [ambidexterlaw21_ProfileMirror.l0] at H
        by_cases c18 : x15_1 < (l4.length : Int)
        · rw [if_pos c18] at H
          have c18b0 : decide (x15_1 < (l4.length : Int)) = true := decide_eq_true c18
          clear c18
          by_cases c19 : 0 ≤ x15_1
          · rw [if_pos c19] at H
            have c19b0 : decide (0 ≤ x15_1) = true := decide_eq_true c19
            clear c19
            by_cases c20 : x14_1.length < 17592186044416
            · rw [if_pos c20] at H
              have LMc20 := Aside0.mk c20
              clear c20
              obtain ⟨y295, hy295⟩ : ∃ y_ : List Int, y_ = (x14_1 ++ [wrap64 (-(rd l4 x15_1))]) := ⟨_, rfl⟩
              replace H : (ambidexterlaw21_ProfileMirror.l0 k1 a0 l4 true y295 (wrap64 (x15_1 + 1)) t289 t290 t291 (wrap64 (-t289)) (wrap64 (-t290)) (wrap64 (-t291))) = some r := by first | (rw [hy295]; with_reducible exact H) | (have H2_ := (Option.bind_some _ _).symm.trans H; rw [hy295]; with_reducible exact H2_) | (have H2_ := (Option.bind_some _ _).symm.trans H; with_reducible exact H2_) | with_reducible exact H | (rw [hy295]; exact H) | exact H
              have Ny295 := Aside0.mk hy295
              clear hy295
              have H' := Aside0.mk H
              clear H
              have p294 : 0 ≤ (x15_1 : Int) := of_decide_eq_true (by first | (with_reducible assumption) | assumption)
              have q294 : x15_1 < (l4.length : Int) := of_decide_eq_true (by first | (with_reducible assumption) | assumption)
              obtain ⟨ad294, e294, hx294_0⟩ := Kd.at_int HR4.out x15_1 p294 q294
              cases e294
              replace hx294_0 := (HB.out.cell (World.block_lt_of_cell? w _ hx294_0)).trans hx294_0
              replace p294 := eq_true p294
              replace q294 := eq_true q294
              go_wp2_with (first | ((with_reducible refine gate_builtin (b := .append) (xs := #[.tmp 43, .tmp 49]) rfl ?_); (try (refine gate_guard (by rfl) ?_; dsimp only)); at_builtin; refine Kd.R_append (Kd.int .i64) (w0 := w) w.heap.size rfl (.tmp 43) (.tmp 49) 25 3 (.int .i64 0) 8 rfl Try.underlying25 info3 rfl (by decide) (by omega) u14 x14_1 (wrap64 (-(rd l4 x15_1))) [.int .i64 (wrap64 (-(rd l4 x15_1)))] (fun _ => True) (fun _ => False) rfl rfl ?aP (fun _ hk => hk.elim) ?aF ?aO ?aB ?aS ?aL ?_; (case aP => exact rfl); (case aB => exact (by repeat (first | (with_reducible first | exact HB.out | apply below_alloc | apply pw_below_drewN | apply below_drew1 | refine below_set ?_ GE292.out | refine below_set ?_ GE293.out) | exact HB.out))); (case aF => exact (fun _ _ => trivial)); (case aO => exact (by (with_reducible repeat (first | apply Kd.R_alloc | apply Kd.R_drewN | apply Kd.R_drew)); exact HO_14.out)); (case aS => exact (below_size (by repeat (first | (with_reducible first | exact HB.out | apply below_alloc | apply pw_below_drewN | apply below_drew1 | refine below_set ?_ GE292.out | refine below_set ?_ GE293.out) | exact HB.out)))); (case aL => have := LMc20.out; omega); intro v296 w21 ho hb hg hat; rw [← Ny295.out] at ho; have n0_ := Aside0.mk (blk_grown (g := gb292) (o := .cells #[.int .i64 t289, .int .i64 t290, .int .i64 t291] 29 (0, 0)) (by (with_reducible repeat (first | refine blk_drewN ?_ _ | refine blk_drew ?_ | refine blk_alloc ?_ _)); exact BK292.out) hg (Kd.R_ne HO_14.out BK292.out (by decide))); have n1_ := Aside0.mk (blk_grown (g := gb293) (o := .cells #[.int .i64 (wrap64 (-t289)), .int .i64 (wrap64 (-t290)), .int .i64 (wrap64 (-t291))] 29 (0, 0)) (by (with_reducible repeat (first | refine blk_drewN ?_ _ | refine blk_drew ?_ | refine blk_alloc ?_ _)); exact BK293.out) hg (Kd.R_ne HO_14.out BK293.out (by decide))); have n2_ := Aside0.mk (hb); have n3_ := Aside0.mk (ho); clear BK292; clear BK293; clear HB; clear HO_14; have BK292 := n0_; have BK293 := n1_; have HB := n2_; have HO297 := n3_; clear n0_ n1_ n2_ n3_; clear ho hb hg hat))
              go_roundg k1
              case measure => have := HK1.out; omega
              case rel => exact ⟨(y295), (wrap64 (x15_1 + 1)), (by first | rfl | (simp; done) | (simp [*]; done)), H', ⟨by have := HK1.out; omega⟩, ⟨by (with_reducible repeat (first | apply Kd.R_alloc | apply Kd.R_drewN | apply Kd.R_drew)); exact HO297.out⟩, ⟨by (with_reducible repeat (first | refine blk_drewN ?_ _ | refine blk_drew ?_ | refine blk_alloc ?_ _)); exact BK292.out⟩, ⟨by (with_reducible repeat (first | refine blk_drewN ?_ _ | refine blk_drew ?_ | refine blk_alloc ?_ _)); exact BK293.out⟩, ⟨by repeat (first | (with_reducible first | exact HB.out | apply below_alloc | apply pw_below_drewN | apply below_drew1 | refine below_set ?_ GE292.out | refine below_set ?_ GE293.out) | exact HB.out)⟩⟩
            · rw [if_neg c20] at H
              exact absurd H (by simp)
          · rw [if_neg c19] at H
            exact absurd H (by simp)
        · rw [if_neg c18] at H
          have c18b0 : decide (x15_1 < (l4.length : Int)) = false := decide_eq_false c18
          clear c18
          replace H := Option.bind_eq_some_iff.mp H
          obtain ⟨t298, A220, H⟩ := H
          replace H : ((profile_Simulate.f (wrap64 (-t289)) (wrap64 (-t290)) (wrap64 (-t291)) x14_1).bind fun t301 => (if (t298.length : Int) = (l4.length : Int) then (ambidexterlaw21_ProfileMirror.j1 k1 a0 l4 true x14_1 t298 t301 ((t301.length : Int) != (l4.length : Int)) t289 t290 t291 (wrap64 (-t289)) (wrap64 (-t290)) (wrap64 (-t291))) else (ambidexterlaw21_ProfileMirror.j1 k1 a0 l4 true x14_1 t298 t301 true t289 t290 t291 (wrap64 (-t289)) (wrap64 (-t290)) (wrap64 (-t291))))) = some r := H
          have A22 := Aside0.mk A220
          clear A220
          replace H := Option.bind_eq_some_iff.mp H
          obtain ⟨t301, A230, H⟩ := H
          replace H : (if (t298.length : Int) = (l4.length : Int) then (ambidexterlaw21_ProfileMirror.j1 k1 a0 l4 true x14_1 t298 t301 ((t301.length : Int) != (l4.length : Int)) t289 t290 t291 (wrap64 (-t289)) (wrap64 (-t290)) (wrap64 (-t291))) else (ambidexterlaw21_ProfileMirror.j1 k1 a0 l4 true x14_1 t298 t301 true t289 t290 t291 (wrap64 (-t289)) (wrap64 (-t290)) (wrap64 (-t291)))) = some r := H
          have A23 := Aside0.mk A230
          clear A230
          have HC24 := Aside0.mk H
          clear H
          have hnb25 := NB292_293.out
          have hnc25 := NB293_292.out
          have hcz26_0 : wr.cell? ⟨gb292, 0, none⟩ = some (.int .i64 t289) := (blk_cell BK292.out 0).trans rfl
          have hcz26_1 : wr.cell? ⟨gb292, 1, none⟩ = some (.int .i64 t290) := (blk_cell BK292.out 1).trans rfl
          have hcz26_2 : wr.cell? ⟨gb292, 2, none⟩ = some (.int .i64 t291) := (blk_cell BK292.out 2).trans rfl
          have hfz26_0 := blk_frozen BK292.out 0
          have hfz26_1 := blk_frozen BK292.out 1
          have hfz26_2 := blk_frozen BK292.out 2
          go_upto_region 13 with (first | ((with_reducible refine gate_callee (f := 22) rfl ?_); refine goesL_ (some 53) rfl rfl Try.func22 (by kernel_rfl) rfl #[.agg #[.int .i64 t289, .int .i64 t290, .int .i64 t291], .slice A4 l4.length c4] rfl (by (try simp only [List.map_toArray, List.map_cons, List.map_nil]); first | done | rfl | (simp only [List.length_drop, List.length_take]; rfl)) ?_; (with_reducible refine (profile_Simulate.calls t289 t290 t291 _ _ l4 t298 _ ?side1 ?side2 A22.out).mono ?_); (case side1 => repeat (first | exact (Kd.C_below HR4.out HB.out) | (with_reducible refine Kd.C_alloc ?_ _) | (with_reducible refine Kd.C_drewN ?_ _) | (with_reducible refine Kd.C_drew ?_))); (case side2 => exact HC4.out); rintro e w27 ⟨v299, rfl, ho0, hb⟩; refine ⟨_, rfl, ?_⟩; have n0_ := Aside0.mk (Kd.R_below (by (with_reducible repeat (first | apply Kd.R_alloc | apply Kd.R_drewN | apply Kd.R_drew)); exact HO_14.out) hb); have n1_ := Aside0.mk (Kd.R_lower (Kd.R_newB (Kd.R_newB ho0 (g := gb292) (o := .cells #[.int .i64 t289, .int .i64 t290, .int .i64 t291] 29 (0, 0)) (by (with_reducible repeat (first | refine blk_drewN ?_ _ | refine blk_drew ?_ | refine blk_alloc ?_ _)); exact BK292.out)) (g := gb293) (o := .cells #[.int .i64 (wrap64 (-t289)), .int .i64 (wrap64 (-t290)), .int .i64 (wrap64 (-t291))] 29 (0, 0)) (by (with_reducible repeat (first | refine blk_drewN ?_ _ | refine blk_drew ?_ | refine blk_alloc ?_ _)); exact BK293.out)) (below_size (by repeat (first | (with_reducible first | exact HB.out | apply below_alloc | apply pw_below_drewN | apply below_drew1 | refine below_set ?_ GE292.out | refine below_set ?_ GE293.out) | exact HB.out)))); have n2_ := Aside0.mk (blk_below (g := gb292) (o := .cells #[.int .i64 t289, .int .i64 t290, .int .i64 t291] 29 (0, 0)) (by (with_reducible repeat (first | refine blk_drewN ?_ _ | refine blk_drew ?_ | refine blk_alloc ?_ _)); exact BK292.out) hb); have n3_ := Aside0.mk (blk_below (g := gb293) (o := .cells #[.int .i64 (wrap64 (-t289)), .int .i64 (wrap64 (-t290)), .int .i64 (wrap64 (-t291))] 29 (0, 0)) (by (with_reducible repeat (first | refine blk_drewN ?_ _ | refine blk_drew ?_ | refine blk_alloc ?_ _)); exact BK293.out) hb); have n4_ := Aside0.mk (below_step (by repeat (first | (with_reducible first | exact HB.out | apply below_alloc | apply pw_below_drewN | apply below_drew1 | refine below_set ?_ GE292.out | refine below_set ?_ GE293.out) | exact HB.out)) hb); clear HO_14; clear BK292; clear BK293; clear HB; have HO_14 := n0_; have HO300 := n1_; have BK292 := n2_; have BK293 := n3_; have HB := n4_; clear n0_ n1_ n2_ n3_ n4_; (try clear hb); (try clear hb2); (try clear hk); (try clear hi); (try clear ho0); have hcz28_0 : w27.cell? ⟨gb293, 0, none⟩ = some (.int .i64 (wrap64 (-t289))) := (blk_cell BK293.out 0).trans rfl; have hcz28_1 : w27.cell? ⟨gb293, 1, none⟩ = some (.int .i64 (wrap64 (-t290))) := (blk_cell BK293.out 1).trans rfl; have hcz28_2 : w27.cell? ⟨gb293, 2, none⟩ = some (.int .i64 (wrap64 (-t291))) := (blk_cell BK293.out 2).trans rfl; have hfz28_0 := blk_frozen BK293.out 0; have hfz28_1 := blk_frozen BK293.out 1; have hfz28_2 := blk_frozen BK293.out 2; obtain ⟨Ao29, co29, eo29⟩ := Kd.R_slice HO_14.out; subst eo29) | ((with_reducible refine gate_callee (f := 22) rfl ?_); refine goesL_ (some 56) rfl rfl Try.func22 (by kernel_rfl) rfl #[.agg #[.int .i64 (wrap64 (-t289)), .int .i64 (wrap64 (-t290)), .int .i64 (wrap64 (-t291))], .slice Ao29 x14_1.length co29] rfl (by (try simp only [List.map_toArray, List.map_cons, List.map_nil]); first | done | rfl | (simp only [List.length_drop, List.length_take]; rfl)) ?_; (with_reducible refine (profile_Simulate.calls (wrap64 (-t289)) (wrap64 (-t290)) (wrap64 (-t291)) _ _ x14_1 t301 _ ?side1 ?side2 A23.out).mono ?_); (case side1 => repeat (first | exact (Kd.R_reads' HO_14.out).2.2 | (with_reducible refine Kd.C_alloc ?_ _) | (with_reducible refine Kd.C_drewN ?_ _) | (with_reducible refine Kd.C_drew ?_))); (case side2 => exact (Kd.R_reads' HO_14.out).2.1); rintro e w30 ⟨v302, rfl, ho0, hb⟩; refine ⟨_, rfl, ?_⟩; have n0_ := Aside0.mk (Kd.R_below (by (with_reducible repeat (first | apply Kd.R_alloc | apply Kd.R_drewN | apply Kd.R_drew)); exact HO_14.out) hb); have n1_ := Aside0.mk (Kd.R_elder' (by (with_reducible repeat (first | apply Kd.R_alloc | apply Kd.R_drewN | apply Kd.R_drew)); exact HO300.out) (Kd.R_base ho0) hb); have n2_ := Aside0.mk (Kd.R_lower (Kd.R_newB (Kd.R_newB (Kd.R_new' ho0 (Kd.R_lt (by (with_reducible repeat (first | apply Kd.R_alloc | apply Kd.R_drewN | apply Kd.R_drew)); exact HO300.out))) (g := gb292) (o := .cells #[.int .i64 t289, .int .i64 t290, .int .i64 t291] 29 (0, 0)) (by (with_reducible repeat (first | refine blk_drewN ?_ _ | refine blk_drew ?_ | refine blk_alloc ?_ _)); exact BK292.out)) (g := gb293) (o := .cells #[.int .i64 (wrap64 (-t289)), .int .i64 (wrap64 (-t290)), .int .i64 (wrap64 (-t291))] 29 (0, 0)) (by (with_reducible repeat (first | refine blk_drewN ?_ _ | refine blk_drew ?_ | refine blk_alloc ?_ _)); exact BK293.out)) (below_size (by repeat (first | (with_reducible first | exact HB.out | apply below_alloc | apply pw_below_drewN | apply below_drew1 | refine below_set ?_ GE292.out | refine below_set ?_ GE293.out) | exact HB.out)))); have n3_ := Aside0.mk (blk_below (g := gb292) (o := .cells #[.int .i64 t289, .int .i64 t290, .int .i64 t291] 29 (0, 0)) (by (with_reducible repeat (first | refine blk_drewN ?_ _ | refine blk_drew ?_ | refine blk_alloc ?_ _)); exact BK292.out) hb); have n4_ := Aside0.mk (blk_below (g := gb293) (o := .cells #[.int .i64 (wrap64 (-t289)), .int .i64 (wrap64 (-t290)), .int .i64 (wrap64 (-t291))] 29 (0, 0)) (by (with_reducible repeat (first | refine blk_drewN ?_ _ | refine blk_drew ?_ | refine blk_alloc ?_ _)); exact BK293.out) hb); have n5_ := Aside0.mk (below_step (by repeat (first | (with_reducible first | exact HB.out | apply below_alloc | apply pw_below_drewN | apply below_drew1 | refine below_set ?_ GE292.out | refine below_set ?_ GE293.out) | exact HB.out)) hb); clear HO_14; clear HO300; clear BK292; clear BK293; clear HB; have HO_14 := n0_; have HO300 := n1_; have HO303 := n2_; have BK292 := n3_; have BK293 := n4_; have HB := n5_; clear n0_ n1_ n2_ n3_ n4_ n5_; (try clear hb); (try clear hb2); (try clear hk); (try clear hi); (try clear ho0)))
          (try simp only [Act.put, List.setIfInBounds_toArray, List.set_cons_zero, List.set_cons_succ])
          go_cut [68] (fun v68 wc => ∃ (kq : Nat) (x68_23 : Bool), v68 = .bool x68_23 ∧ Aside0 (ambidexterlaw21_ProfileMirror.j1 kq a0 l4 true x14_1 t298 t301 x68_23 t289 t290 t291 (wrap64 (-t289)) (wrap64 (-t290)) (wrap64 (-t291)) = some r) ∧ Aside0 (kq ≤ k1) ∧ Aside0 (Kd.R (Kd.int .i64) 3 wc w.heap.size (fun _ => True) (.slice Ao29 x14_1.length co29) x14_1) ∧ Aside0 (Kd.R k29 29 wc w.heap.size (fun k_ => some k_ ≠ (v302 : Value).ownBlock ∧ k_ ≠ gb292 ∧ k_ ≠ gb293) v299 t298) ∧ Aside0 (Kd.R k29 29 wc w.heap.size (fun k_ => some k_ ≠ (v299 : Value).ownBlock ∧ k_ ≠ gb292 ∧ k_ ≠ gb293) v302 t301) ∧ Aside0 (wc.heap[gb292]? = some (.cells #[.int .i64 t289, .int .i64 t290, .int .i64 t291] 29 (0, 0))) ∧ Aside0 (wc.heap[gb293]? = some (.cells #[.int .i64 (wrap64 (-t289)), .int .i64 (wrap64 (-t290)), .int .i64 (wrap64 (-t291))] 29 (0, 0))) ∧ Aside0 (Below w.heap.size w wc))
          case first =>
            have H := HC24.out
            clear HC24
            by_cases c31 : (t298.length : Int) = (l4.length : Int)
            · rw [if_pos c31] at H
              have c31b0 : ((t298.length : Int) == (l4.length : Int)) = true := beq_iff_eq.mpr c31
              have c31b1 : ((t298.length : Int) != (l4.length : Int)) = false := bne_eq_false_iff_eq.mpr c31
              have c31b2 : (t298.length == l4.length) = true := by first | simpa using c31 | (simp at c31 ⊢; omega)
              clear c31
              (first | rw [c31b0] | (simp only [i64_w, i32_w]; rw [c31b0]) | skip)
              have H' := Aside0.mk H
              clear H
              obtain ⟨Ao32, co32, eo32⟩ := Kd.R_slice HO300.out
              subst eo32
              obtain ⟨Ao33, co33, eo33⟩ := Kd.R_slice HO303.out
              subst eo33
              go_wp2
              go_meet
              case rel => exact ⟨_, (((t301.length : Int) != (l4.length : Int))), (by first | rfl | (simp; done) | (simp [*]; done)), H', ⟨by have := HK1.out; first | omega | exact Nat.le_refl _⟩, ⟨by (with_reducible repeat (first | apply Kd.R_alloc | apply Kd.R_drewN | apply Kd.R_drew)); exact HO_14.out⟩, ⟨by (with_reducible repeat (first | apply Kd.R_alloc | apply Kd.R_drewN | apply Kd.R_drew)); exact Kd.R_mono HO300.out (fun _ hk => ⟨hk.2, ⟨hk.1.1.2, hk.1.2⟩⟩)⟩, ⟨by (with_reducible repeat (first | apply Kd.R_alloc | apply Kd.R_drewN | apply Kd.R_drew)); exact Kd.R_mono HO303.out (fun _ hk => ⟨hk.1.1.2, ⟨hk.1.2, hk.2⟩⟩)⟩, ⟨by (with_reducible repeat (first | refine blk_drewN ?_ _ | refine blk_drew ?_ | refine blk_alloc ?_ _)); exact BK292.out⟩, ⟨by (with_reducible repeat (first | refine blk_drewN ?_ _ | refine blk_drew ?_ | refine blk_alloc ?_ _)); exact BK293.out⟩, ⟨by repeat (first | (with_reducible first | exact HB.out | apply below_alloc | apply pw_below_drewN | apply below_drew1 | refine below_set ?_ GE292.out | refine below_set ?_ GE293.out) | exact HB.out)⟩⟩
            · rw [if_neg c31] at H
              have c31b0 : ((t298.length : Int) == (l4.length : Int)) = false := beq_eq_false_iff_ne.mpr c31
              have c31b1 : ((t298.length : Int) != (l4.length : Int)) = true := bne_iff_ne.mpr c31
              have c31b2 : (t298.length == l4.length) = false := by first | simpa using c31 | (simp at c31 ⊢; omega)
              (first | rw [c31b0] | (simp only [i64_w, i32_w]; rw [c31b0]) | skip)
              have H' := Aside0.mk H
              clear H
              obtain ⟨Ao34, co34, eo34⟩ := Kd.R_slice HO300.out
              subst eo34
              go_wp2
              go_meet
              case rel => exact ⟨_, (true), (by first | rfl | (simp; done) | (simp [*]; done)), H', ⟨by have := HK1.out; first | omega | exact Nat.le_refl _⟩, ⟨by (with_reducible repeat (first | apply Kd.R_alloc | apply Kd.R_drewN | apply Kd.R_drew)); exact HO_14.out⟩, ⟨by (with_reducible repeat (first | apply Kd.R_alloc | apply Kd.R_drewN | apply Kd.R_drew)); exact Kd.R_mono HO300.out (fun _ hk => ⟨hk.2, ⟨hk.1.1.2, hk.1.2⟩⟩)⟩, ⟨by (with_reducible repeat (first | apply Kd.R_alloc | apply Kd.R_drewN | apply Kd.R_drew)); exact Kd.R_mono HO303.out (fun _ hk => ⟨hk.1.1.2, ⟨hk.1.2, hk.2⟩⟩)⟩, ⟨by (with_reducible repeat (first | refine blk_drewN ?_ _ | refine blk_drew ?_ | refine blk_alloc ?_ _)); exact BK292.out⟩, ⟨by (with_reducible repeat (first | refine blk_drewN ?_ _ | refine blk_drew ?_ | refine blk_alloc ?_ _)); exact BK293.out⟩, ⟨by repeat (first | (with_reducible first | exact HB.out | apply below_alloc | apply pw_below_drewN | apply below_drew1 | refine below_set ?_ GE292.out | refine below_set ?_ GE293.out) | exact HB.out)⟩⟩
          case rest =>
            clear HC24
            try clear c1
            try clear c2
            try clear p2
            try clear q2
            try clear hx2
            try clear c3
            try clear c4
            try clear p6
            try clear c7
            try clear c8
            try clear c15
            try clear c16
            try clear c17
            try clear c18
            try clear c18b0
            try clear c19
            try clear c19b0
            try clear c20
            try clear c22
            try clear c25
            try clear p29
            try clear q29
            try clear hx29
            try clear c31
            try clear c31b0
            try clear c31b1
            try clear c31b2
            try clear hcz14_0
            try clear hcz14_1
            try clear hcz14_2
            try clear hcz17_0
            try clear hcz17_1
            try clear hcz17_2
            try clear hcz26_0
            try clear hcz26_1
            try clear hcz26_2
            try clear hcz28_0
            try clear hcz28_1
            try clear hcz28_2
            try clear hfz14_0
            try clear hfz14_1
            try clear hfz14_2
            try clear hfz17_0
            try clear hfz17_1
            try clear hfz17_2
            try clear hfz26_0
            try clear hfz26_1
            try clear hfz26_2
            try clear hfz28_0
            try clear hfz28_1
            try clear hfz28_2
            try clear hx294_0
            try clear p2
            try clear p294
            try clear p6
            try clear q294
            obtain ⟨kq, x68_23, rfl, HA, HJ23, HO_14, HO_16, HO_17, BK292, BK293, HB⟩ := hcut
            cases kq with
            | zero => exact absurd HA.out (by simp [ambidexterlaw21_ProfileMirror.j1])
            | succ kj23 =>
              have H := HA.out
              clear HA
              simp only [ambidexterlaw21_ProfileMirror.j1] at H
              by_cases c35 : x68_23 = true
              · subst c35
                have H1 : (some false) = some r := by rw [if_pos rfl] at H; exact H
                clear H
                have H := H1
                clear H1
                exact absurd HT.out (by rw [← Option.some.inj H]; decide)
              · replace c35 := Bool.eq_false_iff.mpr c35
                subst c35
                have H1 : (ambidexterlaw21_ProfileMirror.l1 kj23 a0 l4 true x14_1 t298 t301 0 t289 t290 t291 (wrap64 (-t289)) (wrap64 (-t290)) (wrap64 (-t291))) = some r := by rw [if_neg (show ¬ (false = true) by decide)] at H; exact H
                clear H
                have H := H1
                clear H1
                have H' := Aside0.mk H
                clear H
                go_wp2
                go_loopg [18] kj23 (fun kq v18 w' => ∃ (x18_3 : Int), v18 = .int .i64 x18_3 ∧ Aside0 (ambidexterlaw21_ProfileMirror.l1 kq a0 l4 true x14_1 t298 t301 x18_3 t289 t290 t291 (wrap64 (-t289)) (wrap64 (-t290)) (wrap64 (-t291)) = some r) ∧ Aside0 (kq ≤ kj23) ∧ Aside0 (Kd.R (Kd.int .i64) 3 w' w.heap.size (fun _ => True) (.slice Ao29 x14_1.length co29) x14_1) ∧ Aside0 (Kd.R k29 29 w' w.heap.size (fun k_ => some k_ ≠ (v302 : Value).ownBlock ∧ k_ ≠ gb292 ∧ k_ ≠ gb293) v299 t298) ∧ Aside0 (Kd.R k29 29 w' w.heap.size (fun k_ => some k_ ≠ (v299 : Value).ownBlock ∧ k_ ≠ gb292 ∧ k_ ≠ gb293) v302 t301) ∧ Aside0 (w'.heap[gb292]? = some (.cells #[.int .i64 t289, .int .i64 t290, .int .i64 t291] 29 (0, 0))) ∧ Aside0 (w'.heap[gb293]? = some (.cells #[.int .i64 (wrap64 (-t289)), .int .i64 (wrap64 (-t290)), .int .i64 (wrap64 (-t291))] 29 (0, 0))) ∧ Aside0 (Below w.heap.size w w'))
                case atStart => exact ⟨(0), (by first | rfl | (simp; done) | (simp [*]; done)), H', ⟨Nat.le_refl _⟩, ⟨by (with_reducible repeat (first | apply Kd.R_alloc | apply Kd.R_drewN | apply Kd.R_drew)); exact HO_14.out⟩, ⟨by (with_reducible repeat (first | apply Kd.R_alloc | apply Kd.R_drewN | apply Kd.R_drew)); exact HO_16.out⟩, ⟨by (with_reducible repeat (first | apply Kd.R_alloc | apply Kd.R_drewN | apply Kd.R_drew)); exact HO_17.out⟩, ⟨by (with_reducible repeat (first | refine blk_drewN ?_ _ | refine blk_drew ?_ | refine blk_alloc ?_ _)); exact BK292.out⟩, ⟨by (with_reducible repeat (first | refine blk_drewN ?_ _ | refine blk_drew ?_ | refine blk_alloc ?_ _)); exact BK293.out⟩, ⟨by repeat (first | (with_reducible first | exact HB.out | apply below_alloc | apply pw_below_drewN | apply below_drew1 | refine below_set ?_ GE292.out | refine below_set ?_ GE293.out) | exact HB.out)⟩⟩
                case round =>
                  clear H'
                  try clear c1
                  try clear c2
                  try clear p2
                  try clear q2
                  try clear hx2
                  try clear c3
                  try clear c4
                  try clear p6
                  try clear c7
                  try clear c8
                  try clear c15
                  try clear c16
                  try clear c17
                  try clear c18
                  try clear c18b0
                  try clear c19
                  try clear c19b0
                  try clear c20
                  try clear c22
                  try clear c25
                  try clear p29
                  try clear q29
                  try clear hx29
                  try clear c31
                  try clear c31b0
                  try clear c31b1
                  try clear c31b2
                  try clear c35
                  try clear hcz14_0
                  try clear hcz14_1
                  try clear hcz14_2
                  try clear hcz17_0
                  try clear hcz17_1
                  try clear hcz17_2
                  try clear hcz26_0
                  try clear hcz26_1
                  try clear hcz26_2
                  try clear hcz28_0
                  try clear hcz28_1
                  try clear hcz28_2
                  try clear hfz14_0
                  try clear hfz14_1
                  try clear hfz14_2
                  try clear hfz17_0
                  try clear hfz17_1
                  try clear hfz17_2
                  try clear hfz26_0
                  try clear hfz26_1
                  try clear hfz26_2
                  try clear hfz28_0
                  try clear hfz28_1
                  try clear hfz28_2
                  try clear hx294_0
                  try clear p2
                  try clear p29
                  try clear p294
                  try clear p6
                  try clear q2
                  try clear q29
                  try clear q294
                  obtain ⟨x18_3, rfl, HA, HK3, HO_14, HO_16, HO_17, BK292, BK293, HB⟩ := hrel
                  cases gk with
                  | zero => exact absurd HA.out (by simp [ambidexterlaw21_ProfileMirror.l1])
                  | succ k3 =>
                    have H := HA.out
                    clear HA
                    simp only [ambidexterlaw21_ProfileMirror.l1] at H
                    by_cases c36 : x18_3 < (t298.length : Int)
                    · rw [if_pos c36] at H
                      have c36b0 : decide (x18_3 < (t298.length : Int)) = true := decide_eq_true c36
                      clear c36
                      by_cases c37 : 0 ≤ x18_3
                      · rw [if_pos c37] at H
                        have c37b0 : decide (0 ≤ x18_3) = true := decide_eq_true c37
                        clear c37
                        by_cases c38 : x18_3 < (t301.length : Int)
                        · rw [if_pos c38] at H
                          have c38b0 : decide (x18_3 < (t301.length : Int)) = true := decide_eq_true c38
                          clear c38
                          by_cases c39 : ((rd_T29 t301 x18_3).f0) = (wrap64 (-((rd_T29 t298 x18_3).f0)))
                          · rw [if_pos c39] at H
                            have c39b0 : (((rd_T29 t301 x18_3).f0) == (wrap64 (-((rd_T29 t298 x18_3).f0)))) = true := beq_iff_eq.mpr c39
                            have c39b1 : (((rd_T29 t301 x18_3).f0) != (wrap64 (-((rd_T29 t298 x18_3).f0)))) = false := bne_eq_false_iff_eq.mpr c39
                            clear c39
                            by_cases c40 : ((rd_T29 t301 x18_3).f1) = (wrap64 (-((rd_T29 t298 x18_3).f1)))
                            · rw [if_pos c40] at H
                              have c40b0 : (((rd_T29 t301 x18_3).f1) == (wrap64 (-((rd_T29 t298 x18_3).f1)))) = true := beq_iff_eq.mpr c40
                              have c40b1 : (((rd_T29 t301 x18_3).f1) != (wrap64 (-((rd_T29 t298 x18_3).f1)))) = false := bne_eq_false_iff_eq.mpr c40
                              clear c40
                              by_cases c41 : ((rd_T29 t301 x18_3).f2) = (wrap64 (-((rd_T29 t298 x18_3).f2)))
                              · rw [if_pos c41] at H
                                have c41b0 : (((rd_T29 t301 x18_3).f2) == (wrap64 (-((rd_T29 t298 x18_3).f2)))) = true := beq_iff_eq.mpr c41
                                have c41b1 : (((rd_T29 t301 x18_3).f2) != (wrap64 (-((rd_T29 t298 x18_3).f2)))) = false := bne_eq_false_iff_eq.mpr c41
                                clear c41
                                have H' := Aside0.mk H
                                clear H
                                obtain ⟨Ao42, co42, eo42⟩ := Kd.R_slice HO_16.out
                                subst eo42
                                try go_wp2
                                have n0_ := Aside0.mk (Kd.R_drew HO_14.out)
                                have n1_ := Aside0.mk (Kd.R_drew HO_16.out)
                                have n2_ := Aside0.mk (Kd.R_drew HO_17.out)
                                have n3_ := Aside0.mk (blk_drew BK292.out)
                                have n4_ := Aside0.mk (blk_drew BK293.out)
                                have n5_ := Aside0.mk (below_drew1 HB.out)
                                clear HO_14
                                clear HO_16
                                clear HO_17
                                clear BK292
                                clear BK293
                                clear HB
                                have HO_14 := n0_
                                have HO_16 := n1_
                                have HO_17 := n2_
                                have BK292 := n3_
                                have BK293 := n4_
                                have HB := n5_
                                clear n0_ n1_ n2_ n3_ n4_ n5_
                                obtain ⟨Ao44, co44, eo44⟩ := Kd.R_slice HO_17.out
                                (first | subst eo44 | (injection eo44 with f1_ f2_ f3_; have f4_ := f1_.symm; have f5_ := f3_.symm; clear f1_ f2_ f3_; subst f4_; subst f5_))
                                have p304 : 0 ≤ (x18_3 : Int) := of_decide_eq_true (by first | (with_reducible assumption) | assumption)
                                have q304 : x18_3 < (t301.length : Int) := of_decide_eq_true (by first | (with_reducible assumption) | assumption)
                                obtain ⟨ad304, e304, hx304_0, hx304_1, hx304_2⟩ := at_T29 (Kd.R_reads' HO_17.out).2.2 x18_3 p304 q304
                                cases e304
                                replace p304 := eq_true p304
                                replace q304 := eq_true q304
                                have p305 : 0 ≤ (x18_3 : Int) := of_decide_eq_true (by first | (with_reducible assumption) | assumption)
                                have q305 : x18_3 < (t298.length : Int) := of_decide_eq_true (by first | (with_reducible assumption) | assumption)
                                obtain ⟨ad305, e305, hx305_0, hx305_1, hx305_2⟩ := at_T29 (Kd.R_reads' HO_16.out).2.2 x18_3 p305 q305
                                cases e305
                                replace p305 := eq_true p305
                                replace q305 := eq_true q305
                                have p306 : 0 ≤ (x18_3 : Int) := of_decide_eq_true (by first | (with_reducible assumption) | assumption)
                                have q306 : x18_3 < (t301.length : Int) := of_decide_eq_true (by first | (with_reducible assumption) | assumption)
                                obtain ⟨ad306, e306, hx306_0, hx306_1, hx306_2⟩ := at_T29 (Kd.R_reads' HO_17.out).2.2 x18_3 p306 q306
                                obtain rfl : ad304 = ad306 := (by injection e306)
                                replace p306 := eq_true p306
                                replace q306 := eq_true q306
                                have p307 : 0 ≤ (x18_3 : Int) := of_decide_eq_true (by first | (with_reducible assumption) | assumption)
                                have q307 : x18_3 < (t298.length : Int) := of_decide_eq_true (by first | (with_reducible assumption) | assumption)
                                obtain ⟨ad307, e307, hx307_0, hx307_1, hx307_2⟩ := at_T29 (Kd.R_reads' HO_16.out).2.2 x18_3 p307 q307
                                obtain rfl : ad305 = ad307 := (by injection e307)
                                replace p307 := eq_true p307
                                replace q307 := eq_true q307
                                have p308 : 0 ≤ (x18_3 : Int) := of_decide_eq_true (by first | (with_reducible assumption) | assumption)
                                have q308 : x18_3 < (t301.length : Int) := of_decide_eq_true (by first | (with_reducible assumption) | assumption)
                                obtain ⟨ad308, e308, hx308_0, hx308_1, hx308_2⟩ := at_T29 (Kd.R_reads' HO_17.out).2.2 x18_3 p308 q308
                                obtain rfl : ad304 = ad308 := (by injection e308)
                                replace p308 := eq_true p308
                                replace q308 := eq_true q308
                                have p309 : 0 ≤ (x18_3 : Int) := of_decide_eq_true (by first | (with_reducible assumption) | assumption)
                                have q309 : x18_3 < (t298.length : Int) := of_decide_eq_true (by first | (with_reducible assumption) | assumption)
                                obtain ⟨ad309, e309, hx309_0, hx309_1, hx309_2⟩ := at_T29 (Kd.R_reads' HO_16.out).2.2 x18_3 p309 q309
                                obtain rfl : ad305 = ad309 := (by injection e309)
                                replace p309 := eq_true p309
                                replace q309 := eq_true q309
                                refine start_ (n := 40) (S := fun w' => w'.cell? (ad304.add ((x18_3).toNat * 3)) = some (.int .i64 ((rd_T29 t301 x18_3).f0)) ∧ w'.cell? ⟨(ad304.add ((x18_3).toNat * 3)).block, (ad304.add ((x18_3).toNat * 3)).off + 1, none⟩ = some (.int .i64 ((rd_T29 t301 x18_3).f1)) ∧ w'.cell? ⟨(ad304.add ((x18_3).toNat * 3)).block, (ad304.add ((x18_3).toNat * 3)).off + 2, none⟩ = some (.int .i64 ((rd_T29 t301 x18_3).f2)) ∧ w'.cell? (ad305.add ((x18_3).toNat * 3)) = some (.int .i64 ((rd_T29 t298 x18_3).f0)) ∧ w'.cell? ⟨(ad305.add ((x18_3).toNat * 3)).block, (ad305.add ((x18_3).toNat * 3)).off + 1, none⟩ = some (.int .i64 ((rd_T29 t298 x18_3).f1)) ∧ w'.cell? ⟨(ad305.add ((x18_3).toNat * 3)).block, (ad305.add ((x18_3).toNat * 3)).off + 2, none⟩ = some (.int .i64 ((rd_T29 t298 x18_3).f2)) ∧ w'.cell? (ad304.add ((x18_3).toNat * 3)) = some (.int .i64 ((rd_T29 t301 x18_3).f0)) ∧ w'.cell? ⟨(ad304.add ((x18_3).toNat * 3)).block, (ad304.add ((x18_3).toNat * 3)).off + 1, none⟩ = some (.int .i64 ((rd_T29 t301 x18_3).f1)) ∧ w'.cell? ⟨(ad304.add ((x18_3).toNat * 3)).block, (ad304.add ((x18_3).toNat * 3)).off + 2, none⟩ = some (.int .i64 ((rd_T29 t301 x18_3).f2)) ∧ w'.cell? (ad305.add ((x18_3).toNat * 3)) = some (.int .i64 ((rd_T29 t298 x18_3).f0)) ∧ w'.cell? ⟨(ad305.add ((x18_3).toNat * 3)).block, (ad305.add ((x18_3).toNat * 3)).off + 1, none⟩ = some (.int .i64 ((rd_T29 t298 x18_3).f1)) ∧ w'.cell? ⟨(ad305.add ((x18_3).toNat * 3)).block, (ad305.add ((x18_3).toNat * 3)).off + 2, none⟩ = some (.int .i64 ((rd_T29 t298 x18_3).f2)) ∧ w'.cell? (ad304.add ((x18_3).toNat * 3)) = some (.int .i64 ((rd_T29 t301 x18_3).f0)) ∧ w'.cell? ⟨(ad304.add ((x18_3).toNat * 3)).block, (ad304.add ((x18_3).toNat * 3)).off + 1, none⟩ = some (.int .i64 ((rd_T29 t301 x18_3).f1)) ∧ w'.cell? ⟨(ad304.add ((x18_3).toNat * 3)).block, (ad304.add ((x18_3).toNat * 3)).off + 2, none⟩ = some (.int .i64 ((rd_T29 t301 x18_3).f2)) ∧ w'.cell? (ad305.add ((x18_3).toNat * 3)) = some (.int .i64 ((rd_T29 t298 x18_3).f0)) ∧ w'.cell? ⟨(ad305.add ((x18_3).toNat * 3)).block, (ad305.add ((x18_3).toNat * 3)).off + 1, none⟩ = some (.int .i64 ((rd_T29 t298 x18_3).f1)) ∧ w'.cell? ⟨(ad305.add ((x18_3).toNat * 3)).block, (ad305.add ((x18_3).toNat * 3)).off + 2, none⟩ = some (.int .i64 ((rd_T29 t298 x18_3).f2))) (ds := []) #[false, false, false, false, false, false, false, false, false, false, false, false, false, false, false, false, false, false, false, false, false, false, false, false, false, false, false, false, false, false, false, false, false, false, false, false, false, false, false, false] (by kernel_rfl) rfl rfl ⟨hx304_0, hx304_1, hx304_2, hx305_0, hx305_1, hx305_2, hx306_0, hx306_1, hx306_2, hx307_0, hx307_1, hx307_2, hx308_0, hx308_1, hx308_2, hx309_0, hx309_1, hx309_2⟩ (fun hHeld => ?_); refine with_tabW ambidexterlaw21_ProfileMirror.tab18 ambidexterlaw21_ProfileMirror.bits18 (fun HT_ HW_ => ?_)
                                generalize wr.drew = w43 at HO_14 HO_16 HO_17 BK292 BK293 HB hx304_0 hx304_1 hx304_2 hx305_0 hx305_1 hx305_2 hx306_0 hx306_1 hx306_2 hx307_0 hx307_1 hx307_2 hx308_0 hx308_1 hx308_2 hx309_0 hx309_1 hx309_2 hHeld ⊢
                                refine pure_ (i := 0) (N := some 75) (v := ?_) (a' := ?_) #[true, false, false, false, false, false, false, false, false, false, false, false, false, false, false, false, false, false, false, false, false, false, false, false, false, false, false, false, false, false, false, false, false, false, false, false, false, false, false, false] rfl rfl (any_of HT_.out (by kernel_rfl)) (fun _ _ _ h => h) (Or.inl ⟨by rfl, ?_⟩) ?_ ?_
                                rotate_left
                                · intro w'
                                  go_simp
                                  with_reducible rfl
                                rotate_left
                                · simp only [Act.put, List.setIfInBounds_toArray, List.set_cons_zero, List.set_cons_succ, i64_w, i32_w]
                                  rfl
                                refine pure_ (i := 1) (N := some 76) (v := ?_) (a' := ?_) #[true, true, false, false, false, false, false, false, false, false, false, false, false, false, false, false, false, false, false, false, false, false, false, false, false, false, false, false, false, false, false, false, false, false, false, false, false, false, false, false] rfl rfl (any_of HT_.out (by kernel_rfl)) (fun _ _ _ h => h) (Or.inl ⟨by rfl, ?_⟩) ?_ ?_
                                rotate_left
                                · intro w'
                                  go_simp
                                  with_reducible rfl
                                rotate_left
                                · simp only [Act.put, List.setIfInBounds_toArray, List.set_cons_zero, List.set_cons_succ, i64_w, i32_w]
                                  rfl
                                refine pure_ (i := 2) (N := some 77) (v := ?_) (a' := ?_) #[true, true, true, false, false, false, false, false, false, false, false, false, false, false, false, false, false, false, false, false, false, false, false, false, false, false, false, false, false, false, false, false, false, false, false, false, false, false, false, false] rfl rfl (any_of HT_.out (by kernel_rfl)) (fun _ _ _ h => h) (Or.inl ⟨by rfl, ?_⟩) ?_ ?_
                                rotate_left
                                · intro w'
                                  go_simp
                                  with_reducible rfl
                                rotate_left
                                · simp only [Act.put, List.setIfInBounds_toArray, List.set_cons_zero, List.set_cons_succ, i64_w, i32_w]
                                  rfl
                                refine pure_ (i := 3) (N := some 78) (v := ?_) (a' := ?_) #[true, true, true, true, false, false, false, false, false, false, false, false, false, false, false, false, false, false, false, false, false, false, false, false, false, false, false, false, false, false, false, false, false, false, false, false, false, false, false, false] rfl rfl (any_of HT_.out (by kernel_rfl)) (fun _ _ _ h => h) (Or.inl ⟨by rfl, ?_⟩) ?_ ?_
                                rotate_left
                                · intro w'
                                  go_simp
                                  with_reducible rfl
                                rotate_left
                                · simp only [Act.put, List.setIfInBounds_toArray, List.set_cons_zero, List.set_cons_succ, i64_w, i32_w]
                                  rfl
                                refine pure_ (i := 5) (N := some 80) (v := ?_) (a' := ?_) #[true, true, true, true, false, true, false, false, false, false, false, false, false, false, false, false, false, false, false, false, false, false, false, false, false, false, false, false, false, false, false, false, false, false, false, false, false, false, false, false] rfl rfl (any_of HT_.out (by kernel_rfl)) (fun _ _ _ h => h) (Or.inl ⟨by rfl, ?_⟩) ?_ ?_
                                rotate_left
                                · intro w'
                                  go_simp
                                  with_reducible rfl
                                rotate_left
                                · simp only [Act.put, List.setIfInBounds_toArray, List.set_cons_zero, List.set_cons_succ, i64_w, i32_w]
                                  rfl
                                refine pure_ (i := 6) (N := some 81) (v := ?_) (a' := ?_) #[true, true, true, true, false, true, true, false, false, false, false, false, false, false, false, false, false, false, false, false, false, false, false, false, false, false, false, false, false, false, false, false, false, false, false, false, false, false, false, false] rfl rfl (any_of HT_.out (by kernel_rfl)) (fun _ _ _ h => h) (Or.inl ⟨by rfl, ?_⟩) ?_ ?_
                                rotate_left
                                · intro w'
                                  go_simp
                                  with_reducible rfl
                                rotate_left
                                · simp only [Act.put, List.setIfInBounds_toArray, List.set_cons_zero, List.set_cons_succ, i64_w, i32_w]
                                  rfl
                                refine pure_ (i := 7) (N := some 82) (v := ?_) (a' := ?_) #[true, true, true, true, false, true, true, true, false, false, false, false, false, false, false, false, false, false, false, false, false, false, false, false, false, false, false, false, false, false, false, false, false, false, false, false, false, false, false, false] rfl rfl (any_of HT_.out (by kernel_rfl)) (fun _ _ _ h => h) (Or.inl ⟨by rfl, ?_⟩) ?_ ?_
                                rotate_left
                                · intro w'
                                  go_simp
                                  with_reducible rfl
                                rotate_left
                                · simp only [Act.put, List.setIfInBounds_toArray, List.set_cons_zero, List.set_cons_succ, i64_w, i32_w]
                                  rfl
                                refine pure_ (i := 8) (N := some 83) (v := ?_) (a' := ?_) #[true, true, true, true, false, true, true, true, true, false, false, false, false, false, false, false, false, false, false, false, false, false, false, false, false, false, false, false, false, false, false, false, false, false, false, false, false, false, false, false] rfl rfl (any_of HT_.out (by kernel_rfl)) (fun _ _ _ h => h) (Or.inl ⟨by rfl, ?_⟩) ?_ ?_
                                rotate_left
                                · intro w'
                                  go_simp
                                  with_reducible rfl
                                rotate_left
                                · simp only [Act.put, List.setIfInBounds_toArray, List.set_cons_zero, List.set_cons_succ, i64_w, i32_w]
                                  rfl
                                refine take_ (i := 4) (N := some 79) (v := ?_) (a' := ?_) #[true, true, true, true, true, true, true, true, true, false, false, false, false, false, false, false, false, false, false, false, false, false, false, false, false, false, false, false, false, false, false, false, false, false, false, false, false, false, false, false] rfl rfl (take_ofW HT_.out HW_.out (by kernel_rfl)) (fun _ _ _ h => h) (Or.inl ⟨by rfl, ?_⟩) hHeld ?_ ?_
                                rotate_left
                                · rintro w' ⟨s0, s1, s2, s3, s4, s5, s6, s7, s8, s9, s10, s11, s12, s13, s14, s15, s16, s17⟩
                                  go_simp
                                  with_reducible rfl
                                rotate_left
                                · simp only [Act.put, List.setIfInBounds_toArray, List.set_cons_zero, List.set_cons_succ, i64_w, i32_w]
                                  rfl
                                refine take_ (i := 9) (N := some 84) (v := ?_) (a' := ?_) #[true, true, true, true, true, true, true, true, true, true, false, false, false, false, false, false, false, false, false, false, false, false, false, false, false, false, false, false, false, false, false, false, false, false, false, false, false, false, false, false] rfl rfl (take_ofW HT_.out HW_.out (by kernel_rfl)) (fun _ _ _ h => h) (Or.inl ⟨by rfl, ?_⟩) hHeld ?_ ?_
                                rotate_left
                                · rintro w' ⟨s0, s1, s2, s3, s4, s5, s6, s7, s8, s9, s10, s11, s12, s13, s14, s15, s16, s17⟩
                                  go_simp
                                  with_reducible rfl
                                rotate_left
                                · simp only [Act.put, List.setIfInBounds_toArray, List.set_cons_zero, List.set_cons_succ, i64_w, i32_w]
                                  rfl
                                refine pure_ (i := 10) (N := some 85) (v := ?_) (a' := ?_) #[true, true, true, true, true, true, true, true, true, true, true, false, false, false, false, false, false, false, false, false, false, false, false, false, false, false, false, false, false, false, false, false, false, false, false, false, false, false, false, false] rfl rfl (any_of HT_.out (by kernel_rfl)) (fun _ _ _ h => h) (Or.inl ⟨by rfl, ?_⟩) ?_ ?_
                                rotate_left
                                · intro w'
                                  go_simp
                                  with_reducible rfl
                                rotate_left
                                · simp only [Act.put, List.setIfInBounds_toArray, List.set_cons_zero, List.set_cons_succ, i64_w, i32_w]
                                  rfl
                                refine pure_ (i := 11) (N := some 86) (v := ?_) (a' := ?_) #[true, true, true, true, true, true, true, true, true, true, true, true, false, false, false, false, false, false, false, false, false, false, false, false, false, false, false, false, false, false, false, false, false, false, false, false, false, false, false, false] rfl rfl (any_of HT_.out (by kernel_rfl)) (fun _ _ _ h => h) (Or.inl ⟨by rfl, ?_⟩) ?_ ?_
                                rotate_left
                                · intro w'
                                  go_simp
                                  with_reducible rfl
                                rotate_left
                                · simp only [Act.put, List.setIfInBounds_toArray, List.set_cons_zero, List.set_cons_succ, i64_w, i32_w]
                                  rfl
                                refine pure_ (i := 12) (N := some 87) (v := ?_) (a' := ?_) #[true, true, true, true, true, true, true, true, true, true, true, true, true, false, false, false, false, false, false, false, false, false, false, false, false, false, false, false, false, false, false, false, false, false, false, false, false, false, false, false] rfl rfl (any_of HT_.out (by kernel_rfl)) (fun _ _ _ h => h) (Or.inl ⟨by rfl, ?_⟩) ?_ ?_
                                rotate_left
                                · intro w'
                                  go_simp
                                  with_reducible rfl
                                rotate_left
                                · simp only [Act.put, List.setIfInBounds_toArray, List.set_cons_zero, List.set_cons_succ, i64_w, i32_w]
                                  rfl
                                refine pure_ (i := 13) (N := some 88) (v := ?_) (a' := ?_) #[true, true, true, true, true, true, true, true, true, true, true, true, true, true, false, false, false, false, false, false, false, false, false, false, false, false, false, false, false, false, false, false, false, false, false, false, false, false, false, false] rfl rfl (any_of HT_.out (by kernel_rfl)) (fun _ _ _ h => h) (Or.inl ⟨by rfl, ?_⟩) ?_ ?_
                                rotate_left
                                · intro w'
                                  go_simp
                                  with_reducible rfl
                                rotate_left
                                · simp only [Act.put, List.setIfInBounds_toArray, List.set_cons_zero, List.set_cons_succ, i64_w, i32_w]
                                  rfl
                                refine pure_ (i := 14) (N := some 89) (v := ?_) (a' := ?_) #[true, true, true, true, true, true, true, true, true, true, true, true, true, true, true, false, false, false, false, false, false, false, false, false, false, false, false, false, false, false, false, false, false, false, false, false, false, false, false, false] rfl rfl (any_of HT_.out (by kernel_rfl)) (fun _ _ _ h => h) (Or.inl ⟨by rfl, ?_⟩) ?_ ?_
                                rotate_left
                                · intro w'
                                  go_simp
                                  with_reducible rfl
                                rotate_left
                                · simp only [Act.put, List.setIfInBounds_toArray, List.set_cons_zero, List.set_cons_succ, i64_w, i32_w]
                                  rfl
                                refine pure_ (i := 15) (N := some 90) (v := ?_) (a' := ?_) #[true, true, true, true, true, true, true, true, true, true, true, true, true, true, true, true, false, false, false, false, false, false, false, false, false, false, false, false, false, false, false, false, false, false, false, false, false, false, false, false] rfl rfl (any_of HT_.out (by kernel_rfl)) (fun _ _ _ h => h) (Or.inl ⟨by rfl, ?_⟩) ?_ ?_
                                rotate_left
                                · intro w'
                                  go_simp
                                  with_reducible rfl
                                rotate_left
                                · simp only [Act.put, List.setIfInBounds_toArray, List.set_cons_zero, List.set_cons_succ, i64_w, i32_w]
                                  rfl
                                refine pure_ (i := 16) (N := some 91) (v := ?_) (a' := ?_) #[true, true, true, true, true, true, true, true, true, true, true, true, true, true, true, true, true, false, false, false, false, false, false, false, false, false, false, false, false, false, false, false, false, false, false, false, false, false, false, false] rfl rfl (any_of HT_.out (by kernel_rfl)) (fun _ _ _ h => h) (Or.inl ⟨by rfl, ?_⟩) ?_ ?_
                                rotate_left
                                · intro w'
                                  go_simp
                                  with_reducible rfl
                                rotate_left
                                · simp only [Act.put, List.setIfInBounds_toArray, List.set_cons_zero, List.set_cons_succ, i64_w, i32_w]
                                  rfl
                                refine pure_ (i := 18) (N := some 93) (v := ?_) (a' := ?_) #[true, true, true, true, true, true, true, true, true, true, true, true, true, true, true, true, true, false, true, false, false, false, false, false, false, false, false, false, false, false, false, false, false, false, false, false, false, false, false, false] rfl rfl (any_of HT_.out (by kernel_rfl)) (fun _ _ _ h => h) (Or.inl ⟨by rfl, ?_⟩) ?_ ?_
                                rotate_left
                                · intro w'
                                  go_simp
                                  with_reducible rfl
                                rotate_left
                                · simp only [Act.put, List.setIfInBounds_toArray, List.set_cons_zero, List.set_cons_succ, i64_w, i32_w]
                                  rfl
                                refine pure_ (i := 19) (N := some 94) (v := ?_) (a' := ?_) #[true, true, true, true, true, true, true, true, true, true, true, true, true, true, true, true, true, false, true, true, false, false, false, false, false, false, false, false, false, false, false, false, false, false, false, false, false, false, false, false] rfl rfl (any_of HT_.out (by kernel_rfl)) (fun _ _ _ h => h) (Or.inl ⟨by rfl, ?_⟩) ?_ ?_
                                rotate_left
                                · intro w'
                                  go_simp
                                  with_reducible rfl
                                rotate_left
                                · simp only [Act.put, List.setIfInBounds_toArray, List.set_cons_zero, List.set_cons_succ, i64_w, i32_w]
                                  rfl
                                refine pure_ (i := 20) (N := some 95) (v := ?_) (a' := ?_) #[true, true, true, true, true, true, true, true, true, true, true, true, true, true, true, true, true, false, true, true, true, false, false, false, false, false, false, false, false, false, false, false, false, false, false, false, false, false, false, false] rfl rfl (any_of HT_.out (by kernel_rfl)) (fun _ _ _ h => h) (Or.inl ⟨by rfl, ?_⟩) ?_ ?_
                                rotate_left
                                · intro w'
                                  go_simp
                                  with_reducible rfl
                                rotate_left
                                · simp only [Act.put, List.setIfInBounds_toArray, List.set_cons_zero, List.set_cons_succ, i64_w, i32_w]
                                  rfl
                                refine pure_ (i := 21) (N := some 96) (v := ?_) (a' := ?_) #[true, true, true, true, true, true, true, true, true, true, true, true, true, true, true, true, true, false, true, true, true, true, false, false, false, false, false, false, false, false, false, false, false, false, false, false, false, false, false, false] rfl rfl (any_of HT_.out (by kernel_rfl)) (fun _ _ _ h => h) (Or.inl ⟨by rfl, ?_⟩) ?_ ?_
                                rotate_left
                                · intro w'
                                  go_simp
                                  with_reducible rfl
                                rotate_left
                                · simp only [Act.put, List.setIfInBounds_toArray, List.set_cons_zero, List.set_cons_succ, i64_w, i32_w]
                                  rfl
                                refine take_ (i := 17) (N := some 92) (v := ?_) (a' := ?_) #[true, true, true, true, true, true, true, true, true, true, true, true, true, true, true, true, true, true, true, true, true, true, false, false, false, false, false, false, false, false, false, false, false, false, false, false, false, false, false, false] rfl rfl (take_ofW HT_.out HW_.out (by kernel_rfl)) (fun _ _ _ h => h) (Or.inl ⟨by rfl, ?_⟩) hHeld ?_ ?_
                                rotate_left
                                · rintro w' ⟨s0, s1, s2, s3, s4, s5, s6, s7, s8, s9, s10, s11, s12, s13, s14, s15, s16, s17⟩
                                  go_simp
                                  with_reducible rfl
                                rotate_left
                                · simp only [Act.put, List.setIfInBounds_toArray, List.set_cons_zero, List.set_cons_succ, i64_w, i32_w]
                                  rfl
                                refine take_ (i := 22) (N := some 97) (v := ?_) (a' := ?_) #[true, true, true, true, true, true, true, true, true, true, true, true, true, true, true, true, true, true, true, true, true, true, true, false, false, false, false, false, false, false, false, false, false, false, false, false, false, false, false, false] rfl rfl (take_ofW HT_.out HW_.out (by kernel_rfl)) (fun _ _ _ h => h) (Or.inl ⟨by rfl, ?_⟩) hHeld ?_ ?_
                                rotate_left
                                · rintro w' ⟨s0, s1, s2, s3, s4, s5, s6, s7, s8, s9, s10, s11, s12, s13, s14, s15, s16, s17⟩
                                  go_simp
                                  with_reducible rfl
                                rotate_left
                                · simp only [Act.put, List.setIfInBounds_toArray, List.set_cons_zero, List.set_cons_succ, i64_w, i32_w]
                                  rfl
                                refine pure_ (i := 23) (N := some 98) (v := ?_) (a' := ?_) #[true, true, true, true, true, true, true, true, true, true, true, true, true, true, true, true, true, true, true, true, true, true, true, true, false, false, false, false, false, false, false, false, false, false, false, false, false, false, false, false] rfl rfl (any_of HT_.out (by kernel_rfl)) (fun _ _ _ h => h) (Or.inl ⟨by rfl, ?_⟩) ?_ ?_
                                rotate_left
                                · intro w'
                                  go_simp
                                  with_reducible rfl
                                rotate_left
                                · simp only [Act.put, List.setIfInBounds_toArray, List.set_cons_zero, List.set_cons_succ, i64_w, i32_w]
                                  rfl
                                refine pure_ (i := 24) (N := some 99) (v := ?_) (a' := ?_) #[true, true, true, true, true, true, true, true, true, true, true, true, true, true, true, true, true, true, true, true, true, true, true, true, true, false, false, false, false, false, false, false, false, false, false, false, false, false, false, false] rfl rfl (any_of HT_.out (by kernel_rfl)) (fun _ _ _ h => h) (Or.inl ⟨by rfl, ?_⟩) ?_ ?_
                                rotate_left
                                · intro w'
                                  go_simp
                                  with_reducible rfl
                                rotate_left
                                · simp only [Act.put, List.setIfInBounds_toArray, List.set_cons_zero, List.set_cons_succ, i64_w, i32_w]
                                  rfl
                                refine pure_ (i := 25) (N := some 100) (v := ?_) (a' := ?_) #[true, true, true, true, true, true, true, true, true, true, true, true, true, true, true, true, true, true, true, true, true, true, true, true, true, true, false, false, false, false, false, false, false, false, false, false, false, false, false, false] rfl rfl (any_of HT_.out (by kernel_rfl)) (fun _ _ _ h => h) (Or.inl ⟨by rfl, ?_⟩) ?_ ?_
                                rotate_left
                                · intro w'
                                  go_simp
                                  with_reducible rfl
                                rotate_left
                                · simp only [Act.put, List.setIfInBounds_toArray, List.set_cons_zero, List.set_cons_succ, i64_w, i32_w]
                                  rfl
                                refine pure_ (i := 26) (N := some 101) (v := ?_) (a' := ?_) #[true, true, true, true, true, true, true, true, true, true, true, true, true, true, true, true, true, true, true, true, true, true, true, true, true, true, true, false, false, false, false, false, false, false, false, false, false, false, false, false] rfl rfl (any_of HT_.out (by kernel_rfl)) (fun _ _ _ h => h) (Or.inl ⟨by rfl, ?_⟩) ?_ ?_
                                rotate_left
                                · intro w'
                                  go_simp
                                  with_reducible rfl
                                rotate_left
                                · simp only [Act.put, List.setIfInBounds_toArray, List.set_cons_zero, List.set_cons_succ, i64_w, i32_w]
                                  rfl
                                refine pure_ (i := 27) (N := some 102) (v := ?_) (a' := ?_) #[true, true, true, true, true, true, true, true, true, true, true, true, true, true, true, true, true, true, true, true, true, true, true, true, true, true, true, true, false, false, false, false, false, false, false, false, false, false, false, false] rfl rfl (any_of HT_.out (by kernel_rfl)) (fun _ _ _ h => h) (Or.inl ⟨by rfl, ?_⟩) ?_ ?_
                                rotate_left
                                · intro w'
                                  go_simp
                                  with_reducible rfl
                                rotate_left
                                · simp only [Act.put, List.setIfInBounds_toArray, List.set_cons_zero, List.set_cons_succ, i64_w, i32_w]
                                  rfl
                                refine pure_ (i := 28) (N := some 103) (v := ?_) (a' := ?_) #[true, true, true, true, true, true, true, true, true, true, true, true, true, true, true, true, true, true, true, true, true, true, true, true, true, true, true, true, true, false, false, false, false, false, false, false, false, false, false, false] rfl rfl (any_of HT_.out (by kernel_rfl)) (fun _ _ _ h => h) (Or.inl ⟨by rfl, ?_⟩) ?_ ?_
                                rotate_left
                                · intro w'
                                  go_simp
                                  with_reducible rfl
                                rotate_left
                                · simp only [Act.put, List.setIfInBounds_toArray, List.set_cons_zero, List.set_cons_succ, i64_w, i32_w]
                                  rfl
                                refine pure_ (i := 29) (N := some 104) (v := ?_) (a' := ?_) #[true, true, true, true, true, true, true, true, true, true, true, true, true, true, true, true, true, true, true, true, true, true, true, true, true, true, true, true, true, true, false, false, false, false, false, false, false, false, false, false] rfl rfl (any_of HT_.out (by kernel_rfl)) (fun _ _ _ h => h) (Or.inl ⟨by rfl, ?_⟩) ?_ ?_
                                rotate_left
                                · intro w'
                                  go_simp
                                  with_reducible rfl
                                rotate_left
                                · simp only [Act.put, List.setIfInBounds_toArray, List.set_cons_zero, List.set_cons_succ, i64_w, i32_w]
                                  rfl
                                refine pure_ (i := 30) (N := some 105) (v := ?_) (a' := ?_) #[true, true, true, true, true, true, true, true, true, true, true, true, true, true, true, true, true, true, true, true, true, true, true, true, true, true, true, true, true, true, true, false, false, false, false, false, false, false, false, false] rfl rfl (any_of HT_.out (by kernel_rfl)) (fun _ _ _ h => h) (Or.inl ⟨by rfl, ?_⟩) ?_ ?_
                                rotate_left
                                · intro w'
                                  go_simp
                                  with_reducible rfl
                                rotate_left
                                · simp only [Act.put, List.setIfInBounds_toArray, List.set_cons_zero, List.set_cons_succ, i64_w, i32_w]
                                  rfl
                                refine pure_ (i := 32) (N := some 107) (v := ?_) (a' := ?_) #[true, true, true, true, true, true, true, true, true, true, true, true, true, true, true, true, true, true, true, true, true, true, true, true, true, true, true, true, true, true, true, false, true, false, false, false, false, false, false, false] rfl rfl (any_of HT_.out (by kernel_rfl)) (fun _ _ _ h => h) (Or.inl ⟨by rfl, ?_⟩) ?_ ?_
                                rotate_left
                                · intro w'
                                  go_simp
                                  with_reducible rfl
                                rotate_left
                                · simp only [Act.put, List.setIfInBounds_toArray, List.set_cons_zero, List.set_cons_succ, i64_w, i32_w]
                                  rfl
                                refine pure_ (i := 33) (N := some 108) (v := ?_) (a' := ?_) #[true, true, true, true, true, true, true, true, true, true, true, true, true, true, true, true, true, true, true, true, true, true, true, true, true, true, true, true, true, true, true, false, true, true, false, false, false, false, false, false] rfl rfl (any_of HT_.out (by kernel_rfl)) (fun _ _ _ h => h) (Or.inl ⟨by rfl, ?_⟩) ?_ ?_
                                rotate_left
                                · intro w'
                                  go_simp
                                  with_reducible rfl
                                rotate_left
                                · simp only [Act.put, List.setIfInBounds_toArray, List.set_cons_zero, List.set_cons_succ, i64_w, i32_w]
                                  rfl
                                refine pure_ (i := 34) (N := some 109) (v := ?_) (a' := ?_) #[true, true, true, true, true, true, true, true, true, true, true, true, true, true, true, true, true, true, true, true, true, true, true, true, true, true, true, true, true, true, true, false, true, true, true, false, false, false, false, false] rfl rfl (any_of HT_.out (by kernel_rfl)) (fun _ _ _ h => h) (Or.inl ⟨by rfl, ?_⟩) ?_ ?_
                                rotate_left
                                · intro w'
                                  go_simp
                                  with_reducible rfl
                                rotate_left
                                · simp only [Act.put, List.setIfInBounds_toArray, List.set_cons_zero, List.set_cons_succ, i64_w, i32_w]
                                  rfl
                                refine pure_ (i := 35) (N := some 110) (v := ?_) (a' := ?_) #[true, true, true, true, true, true, true, true, true, true, true, true, true, true, true, true, true, true, true, true, true, true, true, true, true, true, true, true, true, true, true, false, true, true, true, true, false, false, false, false] rfl rfl (any_of HT_.out (by kernel_rfl)) (fun _ _ _ h => h) (Or.inl ⟨by rfl, ?_⟩) ?_ ?_
                                rotate_left
                                · intro w'
                                  go_simp
                                  with_reducible rfl
                                rotate_left
                                · simp only [Act.put, List.setIfInBounds_toArray, List.set_cons_zero, List.set_cons_succ, i64_w, i32_w]
                                  rfl
                                refine take_ (i := 31) (N := some 106) (v := ?_) (a' := ?_) #[true, true, true, true, true, true, true, true, true, true, true, true, true, true, true, true, true, true, true, true, true, true, true, true, true, true, true, true, true, true, true, true, true, true, true, true, false, false, false, false] rfl rfl (take_ofW HT_.out HW_.out (by kernel_rfl)) (fun _ _ _ h => h) (Or.inl ⟨by rfl, ?_⟩) hHeld ?_ ?_
                                rotate_left
                                · rintro w' ⟨s0, s1, s2, s3, s4, s5, s6, s7, s8, s9, s10, s11, s12, s13, s14, s15, s16, s17⟩
                                  go_simp
                                  with_reducible rfl
                                rotate_left
                                · simp only [Act.put, List.setIfInBounds_toArray, List.set_cons_zero, List.set_cons_succ, i64_w, i32_w]
                                  rfl
                                refine take_ (i := 36) (N := some 111) (v := ?_) (a' := ?_) #[true, true, true, true, true, true, true, true, true, true, true, true, true, true, true, true, true, true, true, true, true, true, true, true, true, true, true, true, true, true, true, true, true, true, true, true, true, false, false, false] rfl rfl (take_ofW HT_.out HW_.out (by kernel_rfl)) (fun _ _ _ h => h) (Or.inl ⟨by rfl, ?_⟩) hHeld ?_ ?_
                                rotate_left
                                · rintro w' ⟨s0, s1, s2, s3, s4, s5, s6, s7, s8, s9, s10, s11, s12, s13, s14, s15, s16, s17⟩
                                  go_simp
                                  with_reducible rfl
                                rotate_left
                                · simp only [Act.put, List.setIfInBounds_toArray, List.set_cons_zero, List.set_cons_succ, i64_w, i32_w]
                                  rfl
                                refine pure_ (i := 37) (N := some 112) (v := ?_) (a' := ?_) #[true, true, true, true, true, true, true, true, true, true, true, true, true, true, true, true, true, true, true, true, true, true, true, true, true, true, true, true, true, true, true, true, true, true, true, true, true, true, false, false] rfl rfl (any_of HT_.out (by kernel_rfl)) (fun _ _ _ h => h) (Or.inl ⟨by rfl, ?_⟩) ?_ ?_
                                rotate_left
                                · intro w'
                                  go_simp
                                  with_reducible rfl
                                rotate_left
                                · simp only [Act.put, List.setIfInBounds_toArray, List.set_cons_zero, List.set_cons_succ, i64_w, i32_w]
                                  rfl
                                refine pure_ (i := 38) (N := some 113) (v := ?_) (a' := ?_) #[true, true, true, true, true, true, true, true, true, true, true, true, true, true, true, true, true, true, true, true, true, true, true, true, true, true, true, true, true, true, true, true, true, true, true, true, true, true, true, false] rfl rfl (any_of HT_.out (by kernel_rfl)) (fun _ _ _ h => h) (Or.inl ⟨by rfl, ?_⟩) ?_ ?_
                                rotate_left
                                · intro w'
                                  go_simp
                                  with_reducible rfl
                                rotate_left
                                · simp only [Act.put, List.setIfInBounds_toArray, List.set_cons_zero, List.set_cons_succ, i64_w, i32_w]
                                  rfl
                                refine pure_ (i := 39) (N := some 114) (v := ?_) (a' := ?_) #[true, true, true, true, true, true, true, true, true, true, true, true, true, true, true, true, true, true, true, true, true, true, true, true, true, true, true, true, true, true, true, true, true, true, true, true, true, true, true, true] rfl rfl (any_of HT_.out (by kernel_rfl)) (fun _ _ _ h => h) (Or.inl ⟨by rfl, ?_⟩) ?_ ?_
                                rotate_left
                                · intro w'
                                  go_simp
                                  with_reducible rfl
                                rotate_left
                                · simp only [Act.put, List.setIfInBounds_toArray, List.set_cons_zero, List.set_cons_succ, i64_w, i32_w]
                                  rfl
                                refine done_ (done_of HT_.out (by kernel_rfl)) ?_
                                try go_wp2
                                go_roundg k3
                                case measure => have := HK1.out; have := HJ23.out; have := HK3.out; omega
                                case rel => exact ⟨(wrap64 (x18_3 + 1)), (by first | rfl | (simp; done) | (simp [*]; done)), H', ⟨by have := HK1.out; have := HJ23.out; have := HK3.out; omega⟩, ⟨by (with_reducible repeat (first | apply Kd.R_alloc | apply Kd.R_drewN | apply Kd.R_drew)); exact HO_14.out⟩, ⟨by (with_reducible repeat (first | apply Kd.R_alloc | apply Kd.R_drewN | apply Kd.R_drew)); exact HO_16.out⟩, ⟨by (with_reducible repeat (first | apply Kd.R_alloc | apply Kd.R_drewN | apply Kd.R_drew)); exact HO_17.out⟩, ⟨by (with_reducible repeat (first | refine blk_drewN ?_ _ | refine blk_drew ?_ | refine blk_alloc ?_ _)); exact BK292.out⟩, ⟨by (with_reducible repeat (first | refine blk_drewN ?_ _ | refine blk_drew ?_ | refine blk_alloc ?_ _)); exact BK293.out⟩, ⟨by repeat (first | (with_reducible first | exact HB.out | apply below_alloc | apply pw_below_drewN | apply below_drew1 | refine below_set ?_ GE292.out | refine below_set ?_ GE293.out) | exact HB.out)⟩⟩
                              · rw [if_neg c41] at H
                                have c41b0 : (((rd_T29 t301 x18_3).f2) == (wrap64 (-((rd_T29 t298 x18_3).f2)))) = false := beq_eq_false_iff_ne.mpr c41
                                have c41b1 : (((rd_T29 t301 x18_3).f2) != (wrap64 (-((rd_T29 t298 x18_3).f2)))) = true := bne_iff_ne.mpr c41
                                exact absurd HT.out (by rw [← Option.some.inj H]; decide)
                            · rw [if_neg c40] at H
                              have c40b0 : (((rd_T29 t301 x18_3).f1) == (wrap64 (-((rd_T29 t298 x18_3).f1)))) = false := beq_eq_false_iff_ne.mpr c40
                              have c40b1 : (((rd_T29 t301 x18_3).f1) != (wrap64 (-((rd_T29 t298 x18_3).f1)))) = true := bne_iff_ne.mpr c40
                              exact absurd HT.out (by rw [← Option.some.inj H]; decide)
                          · rw [if_neg c39] at H
                            have c39b0 : (((rd_T29 t301 x18_3).f0) == (wrap64 (-((rd_T29 t298 x18_3).f0)))) = false := beq_eq_false_iff_ne.mpr c39
                            have c39b1 : (((rd_T29 t301 x18_3).f0) != (wrap64 (-((rd_T29 t298 x18_3).f0)))) = true := bne_iff_ne.mpr c39
                            exact absurd HT.out (by rw [← Option.some.inj H]; decide)
                        · rw [if_neg c38] at H
                          exact absurd H (by simp)
                      · rw [if_neg c37] at H
                        exact absurd H (by simp)
                    · rw [if_neg c36] at H
                      have c36b0 : decide (x18_3 < (t298.length : Int)) = false := decide_eq_false c36
                      clear c36
                      have H1 : ((ambidexterlaw21_Lim.f a0).bind fun bt310 => ((profile_Within.f bt310.1 bt310.2.1 bt310.2.2 t289 t290 t291 l4).bind fun t313 => ((ambidexterlaw21_Lim.f a0).bind fun bt314 => ((profile_Within.f bt314.1 bt314.2.1 bt314.2.2 (wrap64 (-t289)) (wrap64 (-t290)) (wrap64 (-t291)) x14_1).bind fun t317 => (some (t313 == t317)))))) = some r := by first | (rw [if_pos rfl] at H; exact H) | (rw [if_pos True.intro] at H; exact H)
                      clear H
                      have H := H1
                      clear H1
                      replace H := Option.bind_eq_some_iff.mp H
                      obtain ⟨⟨t310, t311, t312⟩, A450, H⟩ := H
                      replace H : ((profile_Within.f t310 t311 t312 t289 t290 t291 l4).bind fun t313 => ((ambidexterlaw21_Lim.f a0).bind fun bt314 => ((profile_Within.f bt314.1 bt314.2.1 bt314.2.2 (wrap64 (-t289)) (wrap64 (-t290)) (wrap64 (-t291)) x14_1).bind fun t317 => (some (t313 == t317))))) = some r := H
                      have A45 := Aside0.mk A450
                      clear A450
                      replace H := Option.bind_eq_some_iff.mp H
                      obtain ⟨t313, A460, H⟩ := H
                      replace H : ((ambidexterlaw21_Lim.f a0).bind fun bt314 => ((profile_Within.f bt314.1 bt314.2.1 bt314.2.2 (wrap64 (-t289)) (wrap64 (-t290)) (wrap64 (-t291)) x14_1).bind fun t317 => (some (t313 == t317)))) = some r := H
                      have A46 := Aside0.mk A460
                      clear A460
                      replace H := Option.bind_eq_some_iff.mp H
                      obtain ⟨⟨t314, t315, t316⟩, A470, H⟩ := H
                      replace H : ((profile_Within.f t314 t315 t316 (wrap64 (-t289)) (wrap64 (-t290)) (wrap64 (-t291)) x14_1).bind fun t317 => (some (t313 == t317))) = some r := H
                      have A47 := Aside0.mk A470
                      clear A470
                      replace H := Option.bind_eq_some_iff.mp H
                      obtain ⟨t317, A480, H⟩ := H
                      replace H : (some (t313 == t317)) = some r := H
                      have A48 := Aside0.mk A480
                      clear A480
                      obtain rfl := Option.some.inj H
                      obtain ⟨Ao49, co49, eo49⟩ := Kd.R_slice HO_16.out
                      subst eo49
                      try go_wp2
                      have n0_ := Aside0.mk (Kd.R_drew HO_14.out)
                      have n1_ := Aside0.mk (Kd.R_drew HO_16.out)
                      have n2_ := Aside0.mk (Kd.R_drew HO_17.out)
                      have n3_ := Aside0.mk (blk_drew BK292.out)
                      have n4_ := Aside0.mk (blk_drew BK293.out)
                      have n5_ := Aside0.mk (below_drew1 HB.out)
                      clear HO_14
                      clear HO_16
                      clear HO_17
                      clear BK292
                      clear BK293
                      clear HB
                      have HO_14 := n0_
                      have HO_16 := n1_
                      have HO_17 := n2_
                      have BK292 := n3_
                      have BK293 := n4_
                      have HB := n5_
                      clear n0_ n1_ n2_ n3_ n4_ n5_
                      refine start_ (n := 15) (S := fun w' => w'.cell? ⟨gb292, 0, none⟩ = some (.int .i64 t289) ∧ w'.cell? ⟨gb292, 1, none⟩ = some (.int .i64 t290) ∧ w'.cell? ⟨gb292, 2, none⟩ = some (.int .i64 t291) ∧ w'.cell? ⟨gb293, 0, none⟩ = some (.int .i64 (wrap64 (-t289))) ∧ w'.cell? ⟨gb293, 1, none⟩ = some (.int .i64 (wrap64 (-t290))) ∧ w'.cell? ⟨gb293, 2, none⟩ = some (.int .i64 (wrap64 (-t291)))) (ds := []) #[false, false, false, false, false, false, false, false, false, false, false, false, false, false, false] (by kernel_rfl) rfl rfl ⟨(blk_cell BK292.out 0).trans rfl, (blk_cell BK292.out 1).trans rfl, (blk_cell BK292.out 2).trans rfl, (blk_cell BK293.out 0).trans rfl, (blk_cell BK293.out 1).trans rfl, (blk_cell BK293.out 2).trans rfl⟩ (fun hHeld => ?_); refine with_tabW ambidexterlaw21_ProfileMirror.tab20 ambidexterlaw21_ProfileMirror.bits20 (fun HT_ HW_ => ?_)
                      generalize wr.drew = w50 at HO_14 HO_16 HO_17 BK292 BK293 HB hHeld ⊢
                      refine pure_ (i := 0) (N := some 115) (v := ?_) (a' := ?_) #[true, false, false, false, false, false, false, false, false, false, false, false, false, false, false] rfl rfl (any_of HT_.out (by kernel_rfl)) (fun _ _ _ h => h) (Or.inl ⟨by rfl, ?_⟩) ?_ ?_
                      rotate_left
                      · intro w'
                        go_simp
                        with_reducible rfl
                      rotate_left
                      · simp only [Act.put, List.setIfInBounds_toArray, List.set_cons_zero, List.set_cons_succ, i64_w, i32_w]
                        rfl
                      refine pure_ (i := 1) (N := some 116) (v := ?_) (a' := ?_) #[true, true, false, false, false, false, false, false, false, false, false, false, false, false, false] rfl rfl (any_of HT_.out (by kernel_rfl)) (fun _ _ _ h => h) (Or.inl ⟨by rfl, ?_⟩) ?_ ?_
                      rotate_left
                      · intro w'
                        go_simp
                        with_reducible rfl
                      rotate_left
                      · simp only [Act.put, List.setIfInBounds_toArray, List.set_cons_zero, List.set_cons_succ, i64_w, i32_w]
                        rfl
                      refine pure_ (i := 2) (N := some 117) (v := ?_) (a' := ?_) #[true, true, true, false, false, false, false, false, false, false, false, false, false, false, false] rfl rfl (any_of HT_.out (by kernel_rfl)) (fun _ _ _ h => h) (Or.inl ⟨by rfl, ?_⟩) ?_ ?_
                      rotate_left
                      · intro w'
                        go_simp
                        with_reducible rfl
                      rotate_left
                      · simp only [Act.put, List.setIfInBounds_toArray, List.set_cons_zero, List.set_cons_succ, i64_w, i32_w]
                        rfl
                      refine pure_ (i := 5) (N := some 120) (v := ?_) (a' := ?_) #[true, true, true, false, false, true, false, false, false, false, false, false, false, false, false] rfl rfl (any_of HT_.out (by kernel_rfl)) (fun _ _ _ h => h) (Or.inl ⟨by rfl, ?_⟩) ?_ ?_
                      rotate_left
                      · intro w'
                        go_simp
                        with_reducible rfl
                      rotate_left
                      · simp only [Act.put, List.setIfInBounds_toArray, List.set_cons_zero, List.set_cons_succ, i64_w, i32_w]
                        rfl
                      refine pure_ (i := 7) (N := some 122) (v := ?_) (a' := ?_) #[true, true, true, false, false, true, false, true, false, false, false, false, false, false, false] rfl rfl (any_of HT_.out (by kernel_rfl)) (fun _ _ _ h => h) (Or.inl ⟨by rfl, ?_⟩) ?_ ?_
                      rotate_left
                      · intro w'
                        go_simp
                        with_reducible rfl
                      rotate_left
                      · simp only [Act.put, List.setIfInBounds_toArray, List.set_cons_zero, List.set_cons_succ, i64_w, i32_w]
                        rfl
                      refine pure_ (i := 10) (N := some 125) (v := ?_) (a' := ?_) #[true, true, true, false, false, true, false, true, false, false, true, false, false, false, false] rfl rfl (any_of HT_.out (by kernel_rfl)) (fun _ _ _ h => h) (Or.inl ⟨by rfl, ?_⟩) ?_ ?_
                      rotate_left
                      · intro w'
                        go_simp
                        with_reducible rfl
                      rotate_left
                      · simp only [Act.put, List.setIfInBounds_toArray, List.set_cons_zero, List.set_cons_succ, i64_w, i32_w]
                        rfl
                      refine take_ (i := 4) (N := some 119) (v := ?_) (a' := ?_) #[true, true, true, false, true, true, false, true, false, false, true, false, false, false, false] rfl rfl (take_ofW HT_.out HW_.out (by kernel_rfl)) (fun _ _ _ h => h) (Or.inl ⟨by rfl, ?_⟩) hHeld ?_ ?_
                      rotate_left
                      · rintro w' ⟨s0, s1, s2, s3, s4, s5⟩
                        go_simp
                        with_reducible rfl
                      rotate_left
                      · simp only [Act.put, List.setIfInBounds_toArray, List.set_cons_zero, List.set_cons_succ, i64_w, i32_w]
                        rfl
                      refine take_ (i := 9) (N := some 124) (v := ?_) (a' := ?_) #[true, true, true, false, true, true, false, true, false, true, true, false, false, false, false] rfl rfl (take_ofW HT_.out HW_.out (by kernel_rfl)) (fun _ _ _ h => h) (Or.inl ⟨by rfl, ?_⟩) hHeld ?_ ?_
                      rotate_left
                      · rintro w' ⟨s0, s1, s2, s3, s4, s5⟩
                        go_simp
                        with_reducible rfl
                      rotate_left
                      · simp only [Act.put, List.setIfInBounds_toArray, List.set_cons_zero, List.set_cons_succ, i64_w, i32_w]
                        rfl
                      refine one_ (i := 3) (N := some 118) #[true, true, true, true, true, true, false, true, false, true, true, false, false, false, false] rfl rfl (one_of HT_.out (by kernel_rfl)) (by decide) (fun K hK => ?_)
                      refine goes_ Try.func18 (by kernel_rfl) rfl #[.int .u8 a0] (by rfl) rfl rfl (by (try simp only [List.map_toArray, List.map_cons, List.map_nil]); first | done | rfl | (simp only [List.length_drop, List.length_take]; rfl)) ?_
                      with_reducible refine (ambidexterlaw21_Lim.calls a0 t310 t311 t312 _ A45.out).mono ?_
                      rintro e w51 ⟨rfl, hb⟩
                      refine ⟨_, rfl, ?_⟩
                      have n0_ := Aside0.mk (Kd.R_below (by (with_reducible repeat (first | apply Kd.R_alloc | apply Kd.R_drewN | apply Kd.R_drew)); exact HO_14.out) hb)
                      have n1_ := Aside0.mk (Kd.R_below (by (with_reducible repeat (first | apply Kd.R_alloc | apply Kd.R_drewN | apply Kd.R_drew)); exact HO_16.out) hb)
                      have n2_ := Aside0.mk (Kd.R_below (by (with_reducible repeat (first | apply Kd.R_alloc | apply Kd.R_drewN | apply Kd.R_drew)); exact HO_17.out) hb)
                      have n3_ := Aside0.mk (blk_below (g := gb292) (o := .cells #[.int .i64 t289, .int .i64 t290, .int .i64 t291] 29 (0, 0)) (by (with_reducible repeat (first | refine blk_drewN ?_ _ | refine blk_drew ?_ | refine blk_alloc ?_ _)); exact BK292.out) hb)
                      have n4_ := Aside0.mk (blk_below (g := gb293) (o := .cells #[.int .i64 (wrap64 (-t289)), .int .i64 (wrap64 (-t290)), .int .i64 (wrap64 (-t291))] 29 (0, 0)) (by (with_reducible repeat (first | refine blk_drewN ?_ _ | refine blk_drew ?_ | refine blk_alloc ?_ _)); exact BK293.out) hb)
                      have n5_ := Aside0.mk (below_step (by repeat (first | (with_reducible first | exact HB.out | apply below_alloc | apply pw_below_drewN | apply below_drew1 | refine below_set ?_ GE292.out | refine below_set ?_ GE293.out) | exact HB.out)) hb)
                      clear HO_14
                      clear HO_16
                      clear HO_17
                      clear BK292
                      clear BK293
                      clear HB
                      have HO_14 := n0_
                      have HO_16 := n1_
                      have HO_17 := n2_
                      have BK292 := n3_
                      have BK293 := n4_
                      have HB := n5_
                      clear n0_ n1_ n2_ n3_ n4_ n5_
                      (try clear hb)
                      (try clear hb2)
                      (try clear hk)
                      (try clear hi)
                      refine hK.out _ _ ⟨(blk_cell BK292.out 0).trans rfl, (blk_cell BK292.out 1).trans rfl, (blk_cell BK292.out 2).trans rfl, (blk_cell BK293.out 0).trans rfl, (blk_cell BK293.out 1).trans rfl, (blk_cell BK293.out 2).trans rfl⟩ (fun hHeld => ?_)
                      clear hK K
                      refine norm_ (a' := ?_) ?_ ?_
                      rotate_left
                      · show Act.put _ (some 118) _ = _
                        simp only [Act.put, List.setIfInBounds_toArray, List.set_cons_zero, List.set_cons_succ, i64_w, i32_w]
                        rfl
                      refine one_ (i := 6) (N := some 121) #[true, true, true, true, true, true, true, true, false, true, true, false, false, false, false] rfl rfl (one_of HT_.out (by kernel_rfl)) (by decide) (fun K hK => ?_)
                      refine goes_ Try.func26 (by kernel_rfl) rfl #[.agg #[.int .i64 t310, .int .i64 t311, .int .i64 t312], .agg #[.int .i64 t289, .int .i64 t290, .int .i64 t291], .slice A4 l4.length c4] (by rfl) rfl rfl (by (try simp only [List.map_toArray, List.map_cons, List.map_nil]); first | done | rfl | (simp only [List.length_drop, List.length_take]; rfl)) ?_
                      with_reducible refine (profile_Within.calls t310 t311 t312 t289 t290 t291 _ _ l4 t313 _ ?side1 ?side2 A46.out).mono ?_
                      (case side1 => repeat (first | exact (Kd.C_below HR4.out HB.out) | (with_reducible refine Kd.C_alloc ?_ _) | (with_reducible refine Kd.C_drewN ?_ _) | (with_reducible refine Kd.C_drew ?_)))
                      (case side2 => exact HC4.out)
                      rintro e w52 ⟨rfl, hb⟩
                      refine ⟨_, rfl, ?_⟩
                      have n0_ := Aside0.mk (Kd.R_below (by (with_reducible repeat (first | apply Kd.R_alloc | apply Kd.R_drewN | apply Kd.R_drew)); exact HO_14.out) hb)
                      have n1_ := Aside0.mk (Kd.R_below (by (with_reducible repeat (first | apply Kd.R_alloc | apply Kd.R_drewN | apply Kd.R_drew)); exact HO_16.out) hb)
                      have n2_ := Aside0.mk (Kd.R_below (by (with_reducible repeat (first | apply Kd.R_alloc | apply Kd.R_drewN | apply Kd.R_drew)); exact HO_17.out) hb)
                      have n3_ := Aside0.mk (blk_below (g := gb292) (o := .cells #[.int .i64 t289, .int .i64 t290, .int .i64 t291] 29 (0, 0)) (by (with_reducible repeat (first | refine blk_drewN ?_ _ | refine blk_drew ?_ | refine blk_alloc ?_ _)); exact BK292.out) hb)
                      have n4_ := Aside0.mk (blk_below (g := gb293) (o := .cells #[.int .i64 (wrap64 (-t289)), .int .i64 (wrap64 (-t290)), .int .i64 (wrap64 (-t291))] 29 (0, 0)) (by (with_reducible repeat (first | refine blk_drewN ?_ _ | refine blk_drew ?_ | refine blk_alloc ?_ _)); exact BK293.out) hb)
                      have n5_ := Aside0.mk (below_step (by repeat (first | (with_reducible first | exact HB.out | apply below_alloc | apply pw_below_drewN | apply below_drew1 | refine below_set ?_ GE292.out | refine below_set ?_ GE293.out) | exact HB.out)) hb)
                      clear HO_14
                      clear HO_16
                      clear HO_17
                      clear BK292
                      clear BK293
                      clear HB
                      have HO_14 := n0_
                      have HO_16 := n1_
                      have HO_17 := n2_
                      have BK292 := n3_
                      have BK293 := n4_
                      have HB := n5_
                      clear n0_ n1_ n2_ n3_ n4_ n5_
                      (try clear hb)
                      (try clear hb2)
                      (try clear hk)
                      (try clear hi)
                      refine hK.out _ _ ⟨(blk_cell BK292.out 0).trans rfl, (blk_cell BK292.out 1).trans rfl, (blk_cell BK292.out 2).trans rfl, (blk_cell BK293.out 0).trans rfl, (blk_cell BK293.out 1).trans rfl, (blk_cell BK293.out 2).trans rfl⟩ (fun hHeld => ?_)
                      clear hK K
                      refine norm_ (a' := ?_) ?_ ?_
                      rotate_left
                      · show Act.put _ (some 121) _ = _
                        simp only [Act.put, List.setIfInBounds_toArray, List.set_cons_zero, List.set_cons_succ, i64_w, i32_w]
                        rfl
                      refine one_ (i := 8) (N := some 123) #[true, true, true, true, true, true, true, true, true, true, true, false, false, false, false] rfl rfl (one_of HT_.out (by kernel_rfl)) (by decide) (fun K hK => ?_)
                      refine goes_ Try.func18 (by kernel_rfl) rfl #[.int .u8 a0] (by rfl) rfl rfl (by (try simp only [List.map_toArray, List.map_cons, List.map_nil]); first | done | rfl | (simp only [List.length_drop, List.length_take]; rfl)) ?_
                      with_reducible refine (ambidexterlaw21_Lim.calls a0 t314 t315 t316 _ A47.out).mono ?_
                      rintro e w53 ⟨rfl, hb⟩
                      refine ⟨_, rfl, ?_⟩
                      have n0_ := Aside0.mk (Kd.R_below (by (with_reducible repeat (first | apply Kd.R_alloc | apply Kd.R_drewN | apply Kd.R_drew)); exact HO_14.out) hb)
                      have n1_ := Aside0.mk (Kd.R_below (by (with_reducible repeat (first | apply Kd.R_alloc | apply Kd.R_drewN | apply Kd.R_drew)); exact HO_16.out) hb)
                      have n2_ := Aside0.mk (Kd.R_below (by (with_reducible repeat (first | apply Kd.R_alloc | apply Kd.R_drewN | apply Kd.R_drew)); exact HO_17.out) hb)
                      have n3_ := Aside0.mk (blk_below (g := gb292) (o := .cells #[.int .i64 t289, .int .i64 t290, .int .i64 t291] 29 (0, 0)) (by (with_reducible repeat (first | refine blk_drewN ?_ _ | refine blk_drew ?_ | refine blk_alloc ?_ _)); exact BK292.out) hb)
                      have n4_ := Aside0.mk (blk_below (g := gb293) (o := .cells #[.int .i64 (wrap64 (-t289)), .int .i64 (wrap64 (-t290)), .int .i64 (wrap64 (-t291))] 29 (0, 0)) (by (with_reducible repeat (first | refine blk_drewN ?_ _ | refine blk_drew ?_ | refine blk_alloc ?_ _)); exact BK293.out) hb)
                      have n5_ := Aside0.mk (below_step (by repeat (first | (with_reducible first | exact HB.out | apply below_alloc | apply pw_below_drewN | apply below_drew1 | refine below_set ?_ GE292.out | refine below_set ?_ GE293.out) | exact HB.out)) hb)
                      clear HO_14
                      clear HO_16
                      clear HO_17
                      clear BK292
                      clear BK293
                      clear HB
                      have HO_14 := n0_
                      have HO_16 := n1_
                      have HO_17 := n2_
                      have BK292 := n3_
                      have BK293 := n4_
                      have HB := n5_
                      clear n0_ n1_ n2_ n3_ n4_ n5_
                      (try clear hb)
                      (try clear hb2)
                      (try clear hk)
                      (try clear hi)
                      refine hK.out _ _ ⟨(blk_cell BK292.out 0).trans rfl, (blk_cell BK292.out 1).trans rfl, (blk_cell BK292.out 2).trans rfl, (blk_cell BK293.out 0).trans rfl, (blk_cell BK293.out 1).trans rfl, (blk_cell BK293.out 2).trans rfl⟩ (fun hHeld => ?_)
                      clear hK K
                      refine norm_ (a' := ?_) ?_ ?_
                      rotate_left
                      · show Act.put _ (some 123) _ = _
                        simp only [Act.put, List.setIfInBounds_toArray, List.set_cons_zero, List.set_cons_succ, i64_w, i32_w]
                        rfl
                      refine one_ (i := 11) (N := some 126) #[true, true, true, true, true, true, true, true, true, true, true, true, false, false, false] rfl rfl (one_of HT_.out (by kernel_rfl)) (by decide) (fun K hK => ?_)
                      refine goes_ Try.func26 (by kernel_rfl) rfl #[.agg #[.int .i64 t314, .int .i64 t315, .int .i64 t316], .agg #[.int .i64 (wrap64 (-t289)), .int .i64 (wrap64 (-t290)), .int .i64 (wrap64 (-t291))], .slice Ao29 x14_1.length co29] (by rfl) rfl rfl (by (try simp only [List.map_toArray, List.map_cons, List.map_nil]); first | done | rfl | (simp only [List.length_drop, List.length_take]; rfl)) ?_
                      with_reducible refine (profile_Within.calls t314 t315 t316 (wrap64 (-t289)) (wrap64 (-t290)) (wrap64 (-t291)) _ _ x14_1 t317 _ ?side1 ?side2 A48.out).mono ?_
                      (case side1 => repeat (first | exact (Kd.R_reads' HO_14.out).2.2 | (with_reducible refine Kd.C_alloc ?_ _) | (with_reducible refine Kd.C_drewN ?_ _) | (with_reducible refine Kd.C_drew ?_)))
                      (case side2 => exact (Kd.R_reads' HO_14.out).2.1)
                      rintro e w54 ⟨rfl, hb⟩
                      refine ⟨_, rfl, ?_⟩
                      have n0_ := Aside0.mk (Kd.R_below (by (with_reducible repeat (first | apply Kd.R_alloc | apply Kd.R_drewN | apply Kd.R_drew)); exact HO_14.out) hb)
                      have n1_ := Aside0.mk (Kd.R_below (by (with_reducible repeat (first | apply Kd.R_alloc | apply Kd.R_drewN | apply Kd.R_drew)); exact HO_16.out) hb)
                      have n2_ := Aside0.mk (Kd.R_below (by (with_reducible repeat (first | apply Kd.R_alloc | apply Kd.R_drewN | apply Kd.R_drew)); exact HO_17.out) hb)
                      have n3_ := Aside0.mk (blk_below (g := gb292) (o := .cells #[.int .i64 t289, .int .i64 t290, .int .i64 t291] 29 (0, 0)) (by (with_reducible repeat (first | refine blk_drewN ?_ _ | refine blk_drew ?_ | refine blk_alloc ?_ _)); exact BK292.out) hb)
                      have n4_ := Aside0.mk (blk_below (g := gb293) (o := .cells #[.int .i64 (wrap64 (-t289)), .int .i64 (wrap64 (-t290)), .int .i64 (wrap64 (-t291))] 29 (0, 0)) (by (with_reducible repeat (first | refine blk_drewN ?_ _ | refine blk_drew ?_ | refine blk_alloc ?_ _)); exact BK293.out) hb)
                      have n5_ := Aside0.mk (below_step (by repeat (first | (with_reducible first | exact HB.out | apply below_alloc | apply pw_below_drewN | apply below_drew1 | refine below_set ?_ GE292.out | refine below_set ?_ GE293.out) | exact HB.out)) hb)
                      clear HO_14
                      clear HO_16
                      clear HO_17
                      clear BK292
                      clear BK293
                      clear HB
                      have HO_14 := n0_
                      have HO_16 := n1_
                      have HO_17 := n2_
                      have BK292 := n3_
                      have BK293 := n4_
                      have HB := n5_
                      clear n0_ n1_ n2_ n3_ n4_ n5_
                      (try clear hb)
                      (try clear hb2)
                      (try clear hk)
                      (try clear hi)
                      refine hK.out _ _ ⟨(blk_cell BK292.out 0).trans rfl, (blk_cell BK292.out 1).trans rfl, (blk_cell BK292.out 2).trans rfl, (blk_cell BK293.out 0).trans rfl, (blk_cell BK293.out 1).trans rfl, (blk_cell BK293.out 2).trans rfl⟩ (fun hHeld => ?_)
                      clear hK K
                      refine norm_ (a' := ?_) ?_ ?_
                      rotate_left
                      · show Act.put _ (some 126) _ = _
                        simp only [Act.put, List.setIfInBounds_toArray, List.set_cons_zero, List.set_cons_succ, i64_w, i32_w]
                        rfl
                      refine pure_ (i := 12) (N := some 127) (v := ?_) (a' := ?_) #[true, true, true, true, true, true, true, true, true, true, true, true, true, false, false] rfl rfl (any_of HT_.out (by kernel_rfl)) (fun _ _ _ h => h) (Or.inl ⟨by rfl, ?_⟩) ?_ ?_
                      rotate_left
                      · intro w'
                        go_simp
                        with_reducible rfl
                      rotate_left
                      · simp only [Act.put, List.setIfInBounds_toArray, List.set_cons_zero, List.set_cons_succ, i64_w, i32_w]
                        rfl
                      refine pure_ (i := 13) (N := some 128) (v := ?_) (a' := ?_) #[true, true, true, true, true, true, true, true, true, true, true, true, true, true, false] rfl rfl (any_of HT_.out (by kernel_rfl)) (fun _ _ _ h => h) (Or.inl ⟨by rfl, ?_⟩) ?_ ?_
                      rotate_left
                      · intro w'
                        go_simp
                        with_reducible rfl
                      rotate_left
                      · simp only [Act.put, List.setIfInBounds_toArray, List.set_cons_zero, List.set_cons_succ, i64_w, i32_w]
                        rfl
                      refine pure_ (i := 14) (N := some 10) (v := ?_) (a' := ?_) #[true, true, true, true, true, true, true, true, true, true, true, true, true, true, true] rfl rfl (any_of HT_.out (by kernel_rfl)) (fun _ _ _ h => h) (Or.inl ⟨by rfl, ?_⟩) ?_ ?_
                      rotate_left
                      · intro w'
                        go_simp
                        with_reducible rfl
                      rotate_left
                      · simp only [Act.put, List.setIfInBounds_toArray, List.set_cons_zero, List.set_cons_succ, i64_w, i32_w]
                        rfl
                      refine done_ (done_of HT_.out (by kernel_rfl)) ?_
                      try go_wp2
                      go_ret
                      exact ⟨by first | rfl | (simp [errW_none, errW_some] <;> rfl) | (simp [*, errW_none, errW_some] <;> rfl), by repeat (first | (with_reducible first | exact HB.out | apply below_alloc | apply pw_below_drewN | apply below_drew1 | refine below_set ?_ GE292.out | refine below_set ?_ GE293.out) | exact HB.out)⟩

end Go.Proofs.Ytehibiikdlgneaa.P
