-- Written by this session's own program, for this seat. Lean checks it.
import Derived.Test.YtehibiikdlgneaaP0
import Derived.Test.YtehibiikdlgneaaP2
import Derived.Test.YtehibiikdlgneaaXFar
namespace Go.Proofs.Ytehibiikdlgneaa.P
open Go.RowKit Go.Proofs.YtehibiikdlgneaaW.PrintWords Go.Proofs.YtehibiikdlgneaaW.PrintLast Go.Proofs.YtehibiikdlgneaaW.PrintMore
attribute [local go_sem] max2_int min2_int max_two min_two max_three min_three max_four min_four   -- for this text's walks alone
set_option linter.unusedVariables false
set_option linter.unusedSimpArgs false

/-! ### ambidexterlaw25_ServoLost: function 13 -/
mutual
def ambidexterlaw25_ServoLost.j0 : Nat → Int → List (S54) → List (S54) → Bool → Bool → Option (Bool)
 | 0, _, _, _, _, _ => none
 | k + 1, x0, x1, x2, x7, x24 => if x24 = true then (some x7) else ((servo_New.f (wrap64 (x0))).bind fun bt225 => ((some (([] : List (S54)) : List (S54))).bind fun y231 => (if y231.length + x1.length < 23456248059221 then ((some (y231 ++ x1 : List (S54))).bind fun y234 => (if y234.length + x2.length < 23456248059221 then (ambidexterlaw25_ServoLost.l0 k x7 0 false (y234 ++ x2) 0 bt225.1 bt225.2.1 bt225.2.2.1 bt225.2.2.2.1 bt225.2.2.2.2) else (none))) else (none))))
def ambidexterlaw25_ServoLost.l0 : Nat → Bool → Int → Bool → List (S54) → Int → Int → Int → Int → Int → Bool → Option (Bool)
 | 0, _, _, _, _, _, _, _, _, _, _ => none
 | k + 1, x7, x9, x10, x11, x12, x231000, x231001, x231002, x231003, x231004 => if x12 < (x11.length : Int) then (if 0 ≤ x12 then (if (Int.tmod (wrap64 ((rd_T54 x11 x12).f0)) 4) = 1 then (if x10 = true then ((servo_Step.f x231000 x231001 x231002 x231003 x231004 (Int.tmod (wrap64 ((rd_T54 x11 x12).f0)) 4) (wrap64 ((rd_T54 x11 x12).f1)) (wrap64 ((rd_T54 x11 x12).f2))).bind fun bt243 => (if (bt243.2.2.2.2.1 != true) = true then (some false) else (if bt243.2.2.2.2.2 = 0 then (ambidexterlaw25_ServoLost.l0 k x7 0 true x11 (wrap64 (x12 + 1)) bt243.1 bt243.2.1 bt243.2.2.1 bt243.2.2.2.1 bt243.2.2.2.2.1) else (some false)))) else ((servo_Step.f x231000 x231001 x231002 x231003 x231004 (Int.tmod (wrap64 ((rd_T54 x11 x12).f0)) 4) (wrap64 ((rd_T54 x11 x12).f1)) (wrap64 ((rd_T54 x11 x12).f2))).bind fun bt252 => (if (bt252.2.2.2.2.1 != false) = true then (some false) else (ambidexterlaw25_ServoLost.l0 k x7 0 false x11 (wrap64 (x12 + 1)) bt252.1 bt252.2.1 bt252.2.2.1 bt252.2.2.2.1 bt252.2.2.2.2.1)))) else (if x10 = true then ((servo_Step.f x231000 x231001 x231002 x231003 x231004 (Int.tmod (wrap64 ((rd_T54 x11 x12).f0)) 4) (wrap64 ((rd_T54 x11 x12).f1)) (wrap64 ((rd_T54 x11 x12).f2))).bind fun bt261 => (if (bt261.2.2.2.2.1 != true) = true then (some false) else (if bt261.2.2.2.2.2 = 0 then (ambidexterlaw25_ServoLost.l0 k x7 (wrap64 (x9 + 1)) true x11 (wrap64 (x12 + 1)) bt261.1 bt261.2.1 bt261.2.2.1 bt261.2.2.2.1 bt261.2.2.2.2.1) else (some false)))) else ((servo_Step.f x231000 x231001 x231002 x231003 x231004 (Int.tmod (wrap64 ((rd_T54 x11 x12).f0)) 4) (wrap64 ((rd_T54 x11 x12).f1)) (wrap64 ((rd_T54 x11 x12).f2))).bind fun bt270 => (if (bt270.2.2.2.2.1 != (decide ((wrap64 (x9 + 1)) > 6))) = true then (some false) else (if (wrap64 (x9 + 1)) > 6 then (if bt270.2.2.2.2.2 = 0 then (ambidexterlaw25_ServoLost.l0 k x7 (wrap64 (x9 + 1)) (decide ((wrap64 (x9 + 1)) > 6)) x11 (wrap64 (x12 + 1)) bt270.1 bt270.2.1 bt270.2.2.1 bt270.2.2.2.1 bt270.2.2.2.2.1) else (some false)) else (ambidexterlaw25_ServoLost.l0 k x7 (wrap64 (x9 + 1)) (decide ((wrap64 (x9 + 1)) > 6)) x11 (wrap64 (x12 + 1)) bt270.1 bt270.2.1 bt270.2.2.1 bt270.2.2.2.1 bt270.2.2.2.2.1)))))) else (none)) else (some x7)
end
def ambidexterlaw25_ServoLost.f (k : Nat) (a0 : Int) (l1 : List (S54)) (l2 : List (S54)) : Option (Bool) := (ambidexterlaw25_head.f).bind fun t224 => (if (l1.length : Int) > 300 then (ambidexterlaw25_ServoLost.j0 k a0 l1 l2 t224 true) else (ambidexterlaw25_ServoLost.j0 k a0 l1 l2 t224 (decide ((l2.length : Int) > 300))))
theorem ambidexterlaw25_ServoLost.mono_l : ∀ k, (∀ y0 y1 y2 y3 y4, LeO (ambidexterlaw25_ServoLost.j0 k y0 y1 y2 y3 y4) (ambidexterlaw25_ServoLost.j0 (k + 1) y0 y1 y2 y3 y4)) ∧ (∀ y0 y1 y2 y3 y4 y5 y6 y7 y8 y9, LeO (ambidexterlaw25_ServoLost.l0 k y0 y1 y2 y3 y4 y5 y6 y7 y8 y9) (ambidexterlaw25_ServoLost.l0 (k + 1) y0 y1 y2 y3 y4 y5 y6 y7 y8 y9))
 | 0 => ⟨fun _ _ _ _ _ r h => by simp [ambidexterlaw25_ServoLost.j0] at h, fun _ _ _ _ _ _ _ _ _ _ r h => by simp [ambidexterlaw25_ServoLost.l0] at h⟩
 | k + 1 => by
  obtain ⟨ih0, ih1⟩ := ambidexterlaw25_ServoLost.mono_l k
  refine ⟨?_, ?_⟩
  ·
   intro y0 y1 y2 y3 y4
   unfold ambidexterlaw25_ServoLost.j0
   repeat' first
   | (with_reducible exact ih0 _ _ _ _ _)
   | (with_reducible exact ih1 _ _ _ _ _ _ _ _ _ _)
   | (with_reducible exact LeO.refl _)
   | (with_reducible exact LeO.none _)
   | (with_reducible refine LeO.ite ?_ ?_)
   | (with_reducible refine LeO.bind ?_ (fun _ => ?_))
   | exact ih0 _ _ _ _ _
   | exact ih1 _ _ _ _ _ _ _ _ _ _
   | exact LeO.none _
   | refine LeO.ite ?_ ?_
   | refine LeO.bind ?_ (fun _ => ?_)
  ·
   intro y0 y1 y2 y3 y4 y5 y6 y7 y8 y9
   unfold ambidexterlaw25_ServoLost.l0
   repeat' first
   | (with_reducible exact ih0 _ _ _ _ _)
   | (with_reducible exact ih1 _ _ _ _ _ _ _ _ _ _)
   | (with_reducible exact LeO.refl _)
   | (with_reducible exact LeO.none _)
   | (with_reducible refine LeO.ite ?_ ?_)
   | (with_reducible refine LeO.bind ?_ (fun _ => ?_))
   | exact ih0 _ _ _ _ _
   | exact ih1 _ _ _ _ _ _ _ _ _ _
   | exact LeO.none _
   | refine LeO.ite ?_ ?_
   | refine LeO.bind ?_ (fun _ => ?_)
theorem ambidexterlaw25_ServoLost.mono : ∀ a0 a1 a2 k, LeO (ambidexterlaw25_ServoLost.f k a0 a1 a2) (ambidexterlaw25_ServoLost.f (k + 1) a0 a1 a2) := by
 intro a0 a1 a2 k
 obtain ⟨ih0, ih1⟩ := ambidexterlaw25_ServoLost.mono_l k
 unfold ambidexterlaw25_ServoLost.f
 repeat' first
   | (with_reducible exact ih0 _ _ _ _ _)
   | (with_reducible exact ih1 _ _ _ _ _ _ _ _ _ _)
   | (with_reducible exact LeO.refl _)
   | (with_reducible exact LeO.none _)
   | (with_reducible refine LeO.ite ?_ ?_)
   | (with_reducible refine LeO.bind ?_ (fun _ => ?_))
   | exact ih0 _ _ _ _ _
   | exact ih1 _ _ _ _ _ _ _ _ _ _
   | exact LeO.none _
   | refine LeO.ite ?_ ?_
   | refine LeO.bind ?_ (fun _ => ?_)
def ambidexterlaw25_ServoLost.T16 : Bool × List (List Nat × List Nat) := (true, [([], []), ([], []), ([], []), ([], []), ([2, 3], [2, 3]), ([4], [4]), ([5], [5]), ([6], [6]), ([], []), ([], []), ([8, 9], [8, 9]), ([10], [10]), ([11], [11]), ([12], [12]), ([0, 1, 7, 13], [0, 1, 7, 13]), ([14], [14]), ([15], [15]), ([15], [15]), ([], []), ([18, 16, 14, 0, 1, 2, 3, 4, 5, 6, 7, 8, 9, 10, 11, 12, 13, 14, 15, 16, 18], [16, 18]), ([17, 19, 0, 1, 2, 3, 4, 5, 6, 7, 8, 9, 10, 11, 12, 13, 14, 15, 16, 17, 18, 19], [17])])
def ambidexterlaw25_ServoLost.B16 : List Nat := [0, 0, 0, 0, 12, 28, 60, 124, 0, 0, 768, 1792, 3840, 7936, 16383, 32767, 65535, 65535, 0, 393215, 1048575]
theorem ambidexterlaw25_ServoLost.tab16 : rtab .any (opsOf Try.f13 16) = ambidexterlaw25_ServoLost.T16 := by kernel_rfl
theorem ambidexterlaw25_ServoLost.bits16 : waitsOk ambidexterlaw25_ServoLost.T16.2 ambidexterlaw25_ServoLost.B16 = true := by kernel_rfl
set_option maxHeartbeats 60000000 in
set_option maxRecDepth 100000 in
theorem ambidexterlaw25_ServoLost.calls0 (k : Nat) (a0 : Int) (A1 : Option Addr) (c1 : Nat) (l1 : List (S54)) (A2 : Option Addr) (c2 : Nat) (l2 : List (S54)) (r : Bool) (w : World) (hr1 : Kd.C k54 w A1 l1.length l1) (hc1 : l1.length ≤ c1) (hr2 : Kd.C k54 w A2 l2.length l2) (hc2 : l2.length ≤ c2) (h : ambidexterlaw25_ServoLost.f k a0 l1 l2 = some r) (hT : r = true) :
  Calls Try.prog 13 #[.int .i16 a0, .slice A1 l1.length c1, .slice A2 l2.length c2] w fun e w' => e = .returned (.bool r) ∧ Below w.heap.size w w' := by
 have hu49 := Try.underlying49
 have HR1 := Aside0.mk hr1
 have HC1 := Aside0.mk hc1
 clear hr1 hc1
 have HR2 := Aside0.mk hr2
 have HC2 := Aside0.mk hc2
 clear hr2 hc2
 have HB := Aside0.mk (Below.refl w.heap.size w)
 have H : ((ambidexterlaw25_head.f).bind fun t224 => (if (l1.length : Int) > 300 then (ambidexterlaw25_ServoLost.j0 k a0 l1 l2 t224 true) else (ambidexterlaw25_ServoLost.j0 k a0 l1 l2 t224 (decide ((l2.length : Int) > 300))))) = some r := h
 clear h
 have HT := Aside0.mk hT
 clear hT
 replace H := Option.bind_eq_some_iff.mp H
 obtain ⟨t224, A40, H⟩ := H
 obtain rfl := ambidexterlaw25_head.is_true A40
 replace H : (if (l1.length : Int) > 300 then (ambidexterlaw25_ServoLost.j0 k a0 l1 l2 true true) else (ambidexterlaw25_ServoLost.j0 k a0 l1 l2 true (decide ((l2.length : Int) > 300)))) = some r := H
 have A4 := Aside0.mk A40
 clear A40
 have HC5 := Aside0.mk H
 clear H
 go_enter Try.func13, Try.ntmps13
 go_upto_region 2 with (first | ((with_reducible refine gate_callee (f := 29) rfl ?_); refine goesL_ (some 16) rfl rfl Try.func29 (by kernel_rfl) rfl #[] rfl (by (try simp only [List.map_toArray, List.map_cons, List.map_nil]); first | done | rfl | (simp only [List.length_drop, List.length_take]; rfl)) ?_; (with_reducible refine (ambidexterlaw25_head.calls  true _ A4.out).mono ?_); rintro e w6 ⟨rfl, hb⟩; refine ⟨_, rfl, ?_⟩; have n0_ := Aside0.mk (below_step (by repeat (first | (with_reducible first | exact HB.out | apply below_alloc | apply pw_below_drewN | apply below_drew1) | exact HB.out)) hb); clear HB; have HB := n0_; clear n0_; (try clear hb); (try clear hb2); (try clear hk); (try clear hi)))
 (try simp only [Act.put, List.setIfInBounds_toArray, List.set_cons_zero, List.set_cons_succ])
 go_cut [24] (fun v24 wc => ∃ (kq : Nat) (x24_4 : Bool), v24 = .bool x24_4 ∧ Aside0 (ambidexterlaw25_ServoLost.j0 kq a0 l1 l2 true x24_4 = some r) ∧ Aside0 (kq ≤ k) ∧ Aside0 (Below w.heap.size w wc))
 case first =>
  have H := HC5.out
  clear HC5
  by_cases c7 : (l1.length : Int) > 300
  ·
   rw [if_pos c7] at H
   have c7b0 : decide (300 < (l1.length : Int)) = true := decide_eq_true c7
   have c7b1 : decide (300 < l1.length) = true := decide_eq_true (by omega)
   clear c7
   (first | rw [c7b0] | (simp only [i64_w, i32_w]; rw [c7b0]) | skip)
   have H' := Aside0.mk H
   clear H
   go_wp2
   go_meet
   case rel => exact ⟨_, (true), (by first | rfl | (simp; done) | (simp [*]; done)), H', ⟨by first | omega | exact Nat.le_refl _⟩, ⟨by repeat (first | (with_reducible first | exact HB.out | apply below_alloc | apply pw_below_drewN | apply below_drew1) | exact HB.out)⟩⟩
  ·
   rw [if_neg c7] at H
   have c7b0 : decide (300 < (l1.length : Int)) = false := decide_eq_false c7
   have c7b1 : decide (300 < l1.length) = false := decide_eq_false (by omega)
   clear c7
   (first | rw [c7b0] | (simp only [i64_w, i32_w]; rw [c7b0]) | skip)
   have H' := Aside0.mk H
   clear H
   go_wp2
   go_meet
   case rel => exact ⟨_, (decide ((l2.length : Int) > 300)), (by first | rfl | (simp; done) | (simp [*]; done)), H', ⟨by first | omega | exact Nat.le_refl _⟩, ⟨by repeat (first | (with_reducible first | exact HB.out | apply below_alloc | apply pw_below_drewN | apply below_drew1) | exact HB.out)⟩⟩
 case rest =>
  clear HC5
  try clear c1
  try clear c2
  try clear p2
  try clear c7
  try clear c7b0
  try clear c7b1
  obtain ⟨kq, x24_4, rfl, HA, HJ4, HB⟩ := hcut
  cases kq with
  | zero => exact absurd HA.out (by simp [ambidexterlaw25_ServoLost.j0])
  | succ kj4 =>
   have H := HA.out
   clear HA
   simp only [ambidexterlaw25_ServoLost.j0] at H
   by_cases c8 : x24_4 = true
   ·
    subst c8
    have H1 : (some true) = some r := by rw [if_pos rfl] at H; exact H
    clear H
    have H := H1
    clear H1
    obtain rfl := Option.some.inj H
    go_wp2
    go_ret
    exact ⟨by first | rfl | (simp [errW_none, errW_some] <;> rfl) | (simp [*, errW_none, errW_some] <;> rfl), by repeat (first | (with_reducible first | exact HB.out | apply below_alloc | apply pw_below_drewN | apply below_drew1) | exact HB.out)⟩
   ·
    replace c8 := Bool.eq_false_iff.mpr c8
    subst c8
    have H1 : ((servo_New.f (wrap64 (a0))).bind fun bt225 => ((some (([] : List (S54)) : List (S54))).bind fun y231 => (if y231.length + l1.length < 23456248059221 then ((some (y231 ++ l1 : List (S54))).bind fun y234 => (if y234.length + l2.length < 23456248059221 then (ambidexterlaw25_ServoLost.l0 kj4 true 0 false (y234 ++ l2) 0 bt225.1 bt225.2.1 bt225.2.2.1 bt225.2.2.2.1 bt225.2.2.2.2) else (none))) else (none)))) = some r := by rw [if_neg (show ¬ (false = true) by decide)] at H; exact H
    clear H
    have H := H1
    clear H1
    replace H := Option.bind_eq_some_iff.mp H
    obtain ⟨⟨t225, t226, t227, t228, t229⟩, A90, H⟩ := H
    replace H : ((some (([] : List (S54)) : List (S54))).bind fun y231 => (if y231.length + l1.length < 23456248059221 then ((some (y231 ++ l1 : List (S54))).bind fun y234 => (if y234.length + l2.length < 23456248059221 then (ambidexterlaw25_ServoLost.l0 kj4 true 0 false (y234 ++ l2) 0 t225 t226 t227 t228 t229) else (none))) else (none))) = some r := H
    have A9 := Aside0.mk A90
    clear A90
    obtain ⟨y231, hy231⟩ : ∃ y_ : List (S54), y_ = (([] : List (S54))) := ⟨_, rfl⟩
    replace H : (if y231.length + l1.length < 23456248059221 then ((some (y231 ++ l1 : List (S54))).bind fun y234 => (if y234.length + l2.length < 23456248059221 then (ambidexterlaw25_ServoLost.l0 kj4 true 0 false (y234 ++ l2) 0 t225 t226 t227 t228 t229) else (none))) else (none)) = some r := by first | (rw [hy231]; with_reducible exact H) | (have H2_ := (Option.bind_some _ _).symm.trans H; rw [hy231]; with_reducible exact H2_) | (have H2_ := (Option.bind_some _ _).symm.trans H; with_reducible exact H2_) | with_reducible exact H | (rw [hy231]; exact H) | exact H
    have Ny231 := Aside0.mk hy231
    clear hy231
    by_cases c10 : y231.length + l1.length < 23456248059221
    ·
     rw [if_pos c10] at H
     have LMc10 := Aside0.mk c10
     clear c10
     obtain ⟨y234, hy234⟩ : ∃ y_ : List (S54), y_ = (y231 ++ l1) := ⟨_, rfl⟩
     replace H : (if y234.length + l2.length < 23456248059221 then (ambidexterlaw25_ServoLost.l0 kj4 true 0 false (y234 ++ l2) 0 t225 t226 t227 t228 t229) else (none)) = some r := by first | (rw [hy234]; with_reducible exact H) | (have H2_ := (Option.bind_some _ _).symm.trans H; rw [hy234]; with_reducible exact H2_) | (have H2_ := (Option.bind_some _ _).symm.trans H; with_reducible exact H2_) | with_reducible exact H | (rw [hy234]; exact H) | exact H
     have Ny234 := Aside0.mk hy234
     clear hy234
     by_cases c11 : y234.length + l2.length < 23456248059221
     ·
      rw [if_pos c11] at H
      have LMc11 := Aside0.mk c11
      clear c11
      obtain ⟨y237, hy237⟩ : ∃ y_ : List (S54), y_ = (y234 ++ l2) := ⟨_, rfl⟩
      replace H : (ambidexterlaw25_ServoLost.l0 kj4 true 0 false y237 0 t225 t226 t227 t228 t229) = some r := by first | (rw [hy237]; with_reducible exact H) | (have H2_ := (Option.bind_some _ _).symm.trans H; rw [hy237]; with_reducible exact H2_) | (have H2_ := (Option.bind_some _ _).symm.trans H; with_reducible exact H2_) | with_reducible exact H | (rw [hy237]; exact H) | exact H
      have Ny237 := Aside0.mk hy237
      clear hy237
      have H' := Aside0.mk H
      clear H
      go_wp2_with (first | ((with_reducible refine gate_callee (f := 30) rfl ?_); refine goesL_ (some 28) rfl rfl Try.func30 (by kernel_rfl) rfl #[.int .i64 (wrap64 (a0))] rfl (by (try simp only [List.map_toArray, List.map_cons, List.map_nil]); first | done | rfl | (simp only [List.length_drop, List.length_take]; rfl)) ?_; (with_reducible refine (servo_New.calls (wrap64 (a0)) t225 t226 t227 t228 t229 _ A9.out).mono ?_); rintro e w12 ⟨rfl, hb⟩; refine ⟨_, rfl, ?_⟩; have n0_ := Aside0.mk (below_step (by repeat (first | (with_reducible first | exact HB.out | apply below_alloc | apply pw_below_drewN | apply below_drew1) | exact HB.out)) hb); clear HB; have HB := n0_; clear n0_; (try clear hb); (try clear hb2); (try clear hk); (try clear hi)) | ((with_reducible refine gate_dst (N := 8) rfl ?_); (try (refine gate_guard (by rfl) ?_; dsimp only)); refine box_event ?hg (N := 8) ?hd (cs := #[.int .i64 0, .int .i64 0, .int .i64 0, .int .i64 0, .bool false]) (t := 49) ?hr ?_; (case hd => rfl); (case hg => rfl); (case hr => first | (go_simp; done) | (go_simp; rfl)); intro gb230 hg w13 hbox hb; have n0_ := Aside0.mk (below_step (by repeat (first | (with_reducible first | exact HB.out | apply below_alloc | apply pw_below_drewN | apply below_drew1) | exact HB.out)) hb); have n1_ := Aside0.mk (hbox); have n2_ := Aside0.mk ((by rw [hg]; exact (below_size (by repeat (first | (with_reducible first | exact HB.out | apply below_alloc | apply pw_below_drewN | apply below_drew1) | exact HB.out))) : w.heap.size ≤ gb230)); have n3_ := Aside0.mk ((by rw [hg]; exact (below_size (by repeat (first | (with_reducible first | exact HB.out | apply below_alloc | apply pw_below_drewN | apply below_drew1) | exact HB.out))) : w.heap.size ≤ gb230)); clear HB; have HB := n0_; have BK230 := n1_; have GW230 := n2_; have GE230 := n3_; clear n0_ n1_ n2_ n3_; clear hb hbox hg; have hcz14_0 : w13.cell? ⟨gb230, 0, none⟩ = some (.int .i64 0) := (blk_cell BK230.out 0).trans rfl; have hcz14_1 : w13.cell? ⟨gb230, 1, none⟩ = some (.int .i64 0) := (blk_cell BK230.out 1).trans rfl; have hcz14_2 : w13.cell? ⟨gb230, 2, none⟩ = some (.int .i64 0) := (blk_cell BK230.out 2).trans rfl; have hcz14_3 : w13.cell? ⟨gb230, 3, none⟩ = some (.int .i64 0) := (blk_cell BK230.out 3).trans rfl; have hcz14_4 : w13.cell? ⟨gb230, 4, none⟩ = some (.bool false) := (blk_cell BK230.out 4).trans rfl; have hfz14_0 := blk_frozen BK230.out 0; have hfz14_1 := blk_frozen BK230.out 1; have hfz14_2 := blk_frozen BK230.out 2; have hfz14_3 := blk_frozen BK230.out 3; have hfz14_4 := blk_frozen BK230.out 4) | ((with_reducible refine gate_dst (N := 29) rfl ?_); (try (refine gate_guard (by rfl) ?_; dsimp only)); refine Kd.R_lit k54 _ 54 ?hg (N := 29) ?hd (xs := ([] : List (S54))) (inner := []) (ok := fun _ => True) (okp := fun _ => True) ?hr ?hp (fun _ hk => hk) trivial (Below.refl _ _) (Nat.le_refl _) (by simp) ?_; (case hd => rfl); (case hg => rfl); (case hr => first | (go_simp; done) | (go_simp; rfl)); (case hp => exact (Reps.none _ _)); intro v232 w15 ho16 hb hg_ hnew_; clear hg_ hnew_; (first | rw [← Ny231.out] at ho16 | (simp only [Int.reduceToNat] at ho16; rw [← Ny231.out] at ho16)); have n0_ := Aside0.mk (Kd.R_lower ho16 (below_size (by repeat (first | (with_reducible first | exact HB.out | apply below_alloc | apply pw_below_drewN | apply below_drew1 | refine below_set ?_ GE230.out) | exact HB.out)))); have n1_ := Aside0.mk (blk_below (g := gb230) (o := .cells #[.int .i64 t225, .int .i64 t226, .int .i64 t227, .int .i64 t228, .bool t229] 49 (0, 0)) (by (with_reducible repeat (first | refine blk_drewN ?_ _ | refine blk_drew ?_ | refine blk_alloc ?_ _)); refine blk_put (cs := #[.int .i64 t225, .int .i64 t226, .int .i64 t227, .int .i64 t228, .bool false]) ?_ 4 _ rfl; (with_reducible repeat (first | refine blk_drewN ?_ _ | refine blk_drew ?_ | refine blk_alloc ?_ _)); refine blk_put (cs := #[.int .i64 t225, .int .i64 t226, .int .i64 t227, .int .i64 0, .bool false]) ?_ 3 _ rfl; (with_reducible repeat (first | refine blk_drewN ?_ _ | refine blk_drew ?_ | refine blk_alloc ?_ _)); refine blk_put (cs := #[.int .i64 t225, .int .i64 t226, .int .i64 0, .int .i64 0, .bool false]) ?_ 2 _ rfl; (with_reducible repeat (first | refine blk_drewN ?_ _ | refine blk_drew ?_ | refine blk_alloc ?_ _)); refine blk_put (cs := #[.int .i64 t225, .int .i64 0, .int .i64 0, .int .i64 0, .bool false]) ?_ 1 _ rfl; (with_reducible repeat (first | refine blk_drewN ?_ _ | refine blk_drew ?_ | refine blk_alloc ?_ _)); refine blk_put (cs := #[.int .i64 0, .int .i64 0, .int .i64 0, .int .i64 0, .bool false]) ?_ 0 _ rfl; (with_reducible repeat (first | refine blk_drewN ?_ _ | refine blk_drew ?_ | refine blk_alloc ?_ _)); exact BK230.out) hb); have n2_ := Aside0.mk (below_step (by repeat (first | (with_reducible first | exact HB.out | apply below_alloc | apply pw_below_drewN | apply below_drew1 | refine below_set ?_ GE230.out) | exact HB.out)) hb); clear BK230; clear HB; have HO233 := n0_; have BK230 := n1_; have HB := n2_; clear n0_ n1_ n2_; clear hb ho16) | ((with_reducible refine gate_builtin (b := .append) (xs := #[.tmp 29, .tmp 30]) rfl ?_); (try (refine gate_guard (by rfl) ?_; dsimp only)); at_builtin; refine Kd.R_append_rows k54 (w0 := w) w.heap.size rfl (.tmp 29) (.tmp 30) 45 54 (.agg #[(.int .u8 0), (.int .i16 0), (.int .i16 0)]) 6 rfl Try.underlying45 info54 rfl (by decide) (by omega) v232 y231 l1 _ _ _ (fun _ => True) (fun _ => False) rfl rfl ?aO ?aR (fun _ _ h => h) (fun _ h => h.elim) ?aF ?aB ?aS ?aL ?_; (case aR => repeat (first | exact (Kd.C_below HR1.out HB.out) | (with_reducible refine Kd.C_alloc ?_ _) | (with_reducible refine Kd.C_drewN ?_ _) | (with_reducible refine Kd.C_drew ?_))); (case aB => exact (by repeat (first | (with_reducible first | exact HB.out | apply below_alloc | apply pw_below_drewN | apply below_drew1 | refine below_set ?_ GE230.out) | exact HB.out))); (case aF => exact (fun _ _ => trivial)); (case aO => exact (by (with_reducible repeat (first | apply Kd.R_alloc | apply Kd.R_drewN | apply Kd.R_drew)); exact HO233.out)); (case aS => exact (below_size (by repeat (first | (with_reducible first | exact HB.out | apply below_alloc | apply pw_below_drewN | apply below_drew1 | refine below_set ?_ GE230.out) | exact HB.out)))); (case aL => have := LMc10.out; omega); intro v235 w17 ho hb hg hat; rw [← Ny234.out] at ho; have n0_ := Aside0.mk (blk_grown (g := gb230) (o := .cells #[.int .i64 t225, .int .i64 t226, .int .i64 t227, .int .i64 t228, .bool t229] 49 (0, 0)) (by (with_reducible repeat (first | refine blk_drewN ?_ _ | refine blk_drew ?_ | refine blk_alloc ?_ _)); exact BK230.out) hg (Kd.R_ne HO233.out BK230.out (by decide))); have n1_ := Aside0.mk (hb); have n2_ := Aside0.mk (ho); clear BK230; clear HB; clear HO233; have BK230 := n0_; have HB := n1_; have HO236 := n2_; clear n0_ n1_ n2_; clear ho hb hg hat) | ((with_reducible refine gate_builtin (b := .append) (xs := #[.tmp 31, .tmp 32]) rfl ?_); (try (refine gate_guard (by rfl) ?_; dsimp only)); at_builtin; refine Kd.R_append_rows k54 (w0 := w) w.heap.size rfl (.tmp 31) (.tmp 32) 45 54 (.agg #[(.int .u8 0), (.int .i16 0), (.int .i16 0)]) 6 rfl Try.underlying45 info54 rfl (by decide) (by omega) v235 y234 l2 _ _ _ (fun _ => True) (fun _ => False) rfl rfl ?aO ?aR (fun _ _ h => h) (fun _ h => h.elim) ?aF ?aB ?aS ?aL ?_; (case aR => repeat (first | exact (Kd.C_below HR2.out HB.out) | (with_reducible refine Kd.C_alloc ?_ _) | (with_reducible refine Kd.C_drewN ?_ _) | (with_reducible refine Kd.C_drew ?_))); (case aB => exact (by repeat (first | (with_reducible first | exact HB.out | apply below_alloc | apply pw_below_drewN | apply below_drew1 | refine below_set ?_ GE230.out) | exact HB.out))); (case aF => exact (fun _ _ => trivial)); (case aO => exact (by (with_reducible repeat (first | apply Kd.R_alloc | apply Kd.R_drewN | apply Kd.R_drew)); exact HO236.out)); (case aS => exact (below_size (by repeat (first | (with_reducible first | exact HB.out | apply below_alloc | apply pw_below_drewN | apply below_drew1 | refine below_set ?_ GE230.out) | exact HB.out)))); (case aL => have := LMc11.out; omega); intro v238 w18 ho hb hg hat; rw [← Ny237.out] at ho; have n0_ := Aside0.mk (blk_grown (g := gb230) (o := .cells #[.int .i64 t225, .int .i64 t226, .int .i64 t227, .int .i64 t228, .bool t229] 49 (0, 0)) (by (with_reducible repeat (first | refine blk_drewN ?_ _ | refine blk_drew ?_ | refine blk_alloc ?_ _)); exact BK230.out) hg (Kd.R_ne HO236.out BK230.out (by decide))); have n1_ := Aside0.mk (hb); have n2_ := Aside0.mk (ho); clear BK230; clear HB; clear HO236; have BK230 := n0_; have HB := n1_; have HO239 := n2_; clear n0_ n1_ n2_; clear ho hb hg hat))
      go_loopg [9, 10, 12] kj4 (fun kq v9 v10 v12 w' => ∃ (x9_2 : Int) (x10_2 : Bool) (x12_2 : Int) (x231000_2 : Int) (x231001_2 : Int) (x231002_2 : Int) (x231003_2 : Int) (x231004_2 : Bool), v9 = .int .i64 x9_2 ∧ v10 = .bool x10_2 ∧ v12 = .int .i64 x12_2 ∧ Aside0 (ambidexterlaw25_ServoLost.l0 kq true x9_2 x10_2 y237 x12_2 x231000_2 x231001_2 x231002_2 x231003_2 x231004_2 = some r) ∧ Aside0 (kq ≤ kj4) ∧ Aside0 (Kd.R k54 54 w' w.heap.size (fun _ => True) v238 y237) ∧ Aside0 (w'.heap[gb230]? = some (.cells #[.int .i64 x231000_2, .int .i64 x231001_2, .int .i64 x231002_2, .int .i64 x231003_2, .bool x231004_2] 49 (0, 0))) ∧ Aside0 (Below w.heap.size w w'))
      case atStart => exact ⟨(0), (false), (0), (t225), (t226), (t227), (t228), (t229), (by first | rfl | (simp; done) | (simp [*]; done)), (by first | rfl | (simp; done) | (simp [*]; done)), (by first | rfl | (simp; done) | (simp [*]; done)), H', ⟨Nat.le_refl _⟩, ⟨by (with_reducible repeat (first | apply Kd.R_alloc | apply Kd.R_drewN | apply Kd.R_drew)); exact HO239.out⟩, ⟨by (with_reducible repeat (first | refine blk_drewN ?_ _ | refine blk_drew ?_ | refine blk_alloc ?_ _)); exact BK230.out⟩, ⟨by repeat (first | (with_reducible first | exact HB.out | apply below_alloc | apply pw_below_drewN | apply below_drew1 | refine below_set ?_ GE230.out) | exact HB.out)⟩⟩
      case round =>
       clear H'
       try clear c1
       try clear c2
       try clear p2
       try clear c3
       try clear p6
       try clear c7
       try clear c7b0
       try clear c7b1
       try clear c8
       try clear c10
       try clear c11
       try clear c13
       try clear hcz14_0
       try clear hcz14_1
       try clear hcz14_2
       try clear hcz14_3
       try clear hcz14_4
       try clear hfz14_0
       try clear hfz14_1
       try clear hfz14_2
       try clear hfz14_3
       try clear hfz14_4
       try clear p2
       obtain ⟨x9_2, x10_2, x12_2, x231000_2, x231001_2, x231002_2, x231003_2, x231004_2, rfl, rfl, rfl, HA, HK2, HO_11, BK230, HB⟩ := hrel
       cases gk with
       | zero => exact absurd HA.out (by simp [ambidexterlaw25_ServoLost.l0])
       | succ k2 =>
        have H := HA.out
        clear HA
        simp only [ambidexterlaw25_ServoLost.l0] at H
        by_cases c19 : x12_2 < (y237.length : Int)
        ·
         rw [if_pos c19] at H
         have c19b0 : decide (x12_2 < (y237.length : Int)) = true := decide_eq_true c19
         clear c19
         by_cases c20 : 0 ≤ x12_2
         ·
          rw [if_pos c20] at H
          have c20b0 : decide (0 ≤ x12_2) = true := decide_eq_true c20
          clear c20
          by_cases c21 : (Int.tmod (wrap64 ((rd_T54 y237 x12_2).f0)) 4) = 1
          ·
           rw [if_pos c21] at H
           have c21b0 : ((Int.tmod (wrap64 ((rd_T54 y237 x12_2).f0)) 4) == 1) = true := beq_iff_eq.mpr c21
           have c21b1 : ((Int.tmod (wrap64 ((rd_T54 y237 x12_2).f0)) 4) != 1) = false := bne_eq_false_iff_eq.mpr c21
           clear c21
           by_cases c22 : x10_2 = true
           ·
            subst c22
            have H1 : ((servo_Step.f x231000_2 x231001_2 x231002_2 x231003_2 x231004_2 (Int.tmod (wrap64 ((rd_T54 y237 x12_2).f0)) 4) (wrap64 ((rd_T54 y237 x12_2).f1)) (wrap64 ((rd_T54 y237 x12_2).f2))).bind fun bt243 => (if (bt243.2.2.2.2.1 != true) = true then (some false) else (if bt243.2.2.2.2.2 = 0 then (ambidexterlaw25_ServoLost.l0 k2 true 0 true y237 (wrap64 (x12_2 + 1)) bt243.1 bt243.2.1 bt243.2.2.1 bt243.2.2.2.1 bt243.2.2.2.2.1) else (some false)))) = some r := by rw [if_pos rfl] at H; exact H
            clear H
            have H := H1
            clear H1
            replace H := Option.bind_eq_some_iff.mp H
            obtain ⟨⟨t243, t244, t245, t246, t247, t248⟩, A230, H⟩ := H
            replace H : (if (t247 != true) = true then (some false) else (if t248 = 0 then (ambidexterlaw25_ServoLost.l0 k2 true 0 true y237 (wrap64 (x12_2 + 1)) t243 t244 t245 t246 t247) else (some false))) = some r := H
            have A23 := Aside0.mk A230
            clear A230
            by_cases c24 : (t247 != true) = true
            ·
             rw [if_pos c24] at H
             have c24b0 : (t247 != true) = true := c24
             (try (have c24b1 : decide (t247 = true) = false := by simpa using c24))
             (try (have c24b2 : (t247 == true) = false := by simpa using c24))
             (try (have c24b3 : ¬ (t247 = true) := by simpa using c24))
             clear c24
             exact absurd HT.out (by rw [← Option.some.inj H]; decide)
            ·
             rw [if_neg c24] at H
             have c24b0 : (t247 != true) = false := by simpa using c24
             (try (have c24b1 : decide (t247 = true) = true := by simpa using c24))
             (try (have c24b2 : (t247 == true) = true := by simpa using c24))
             clear c24
             by_cases c25 : t248 = 0
             ·
              rw [if_pos c25] at H
              have c25b0 : (t248 == 0) = true := beq_iff_eq.mpr c25
              have c25b1 : (t248 != 0) = false := bne_eq_false_iff_eq.mpr c25
              clear c25
              have H' := Aside0.mk H
              clear H
              obtain ⟨Ao26, co26, eo26⟩ := Kd.R_slice HO_11.out
              subst eo26
              have p240 : 0 ≤ (x12_2 : Int) := of_decide_eq_true (by first | (with_reducible assumption) | assumption)
              have q240 : x12_2 < (y237.length : Int) := of_decide_eq_true (by first | (with_reducible assumption) | assumption)
              obtain ⟨ad240, e240, hx240_0, hx240_1, hx240_2⟩ := at_T54 (Kd.R_reads' HO_11.out).2.2 x12_2 p240 q240
              cases e240
              replace p240 := eq_true p240
              replace q240 := eq_true q240
              try go_wp2
              have n0_ := Aside0.mk (Kd.R_drew HO_11.out)
              have n1_ := Aside0.mk (blk_drew BK230.out)
              have n2_ := Aside0.mk (below_drew1 HB.out)
              clear HO_11
              clear BK230
              clear HB
              have HO_11 := n0_
              have BK230 := n1_
              have HB := n2_
              clear n0_ n1_ n2_
              have p241 : 0 ≤ (x12_2 : Int) := of_decide_eq_true (by first | (with_reducible assumption) | assumption)
              have q241 : x12_2 < (y237.length : Int) := of_decide_eq_true (by first | (with_reducible assumption) | assumption)
              obtain ⟨ad241, e241, hx241_0, hx241_1, hx241_2⟩ := at_T54 (Kd.R_reads' HO_11.out).2.2 x12_2 p241 q241
              obtain rfl : ad240 = ad241 := (by injection e241)
              replace p241 := eq_true p241
              replace q241 := eq_true q241
              have p242 : 0 ≤ (x12_2 : Int) := of_decide_eq_true (by first | (with_reducible assumption) | assumption)
              have q242 : x12_2 < (y237.length : Int) := of_decide_eq_true (by first | (with_reducible assumption) | assumption)
              obtain ⟨ad242, e242, hx242_0, hx242_1, hx242_2⟩ := at_T54 (Kd.R_reads' HO_11.out).2.2 x12_2 p242 q242
              obtain rfl : ad240 = ad242 := (by injection e242)
              replace p242 := eq_true p242
              replace q242 := eq_true q242
              refine start_ (n := 21) (S := fun w' => w'.cell? ⟨gb230, 0, none⟩ = some (.int .i64 x231000_2) ∧ w'.cell? ⟨gb230, 1, none⟩ = some (.int .i64 x231001_2) ∧ w'.cell? ⟨gb230, 2, none⟩ = some (.int .i64 x231002_2) ∧ w'.cell? ⟨gb230, 3, none⟩ = some (.int .i64 x231003_2) ∧ w'.cell? ⟨gb230, 4, none⟩ = some (.bool x231004_2) ∧ w'.cell? (ad240.add ((x12_2).toNat * 3)) = some (.int .u8 ((rd_T54 y237 x12_2).f0)) ∧ w'.cell? ⟨(ad240.add ((x12_2).toNat * 3)).block, (ad240.add ((x12_2).toNat * 3)).off + 1, none⟩ = some (.int .i16 ((rd_T54 y237 x12_2).f1)) ∧ w'.cell? ⟨(ad240.add ((x12_2).toNat * 3)).block, (ad240.add ((x12_2).toNat * 3)).off + 2, none⟩ = some (.int .i16 ((rd_T54 y237 x12_2).f2)) ∧ w'.cell? (ad240.add ((x12_2).toNat * 3)) = some (.int .u8 ((rd_T54 y237 x12_2).f0)) ∧ w'.cell? ⟨(ad240.add ((x12_2).toNat * 3)).block, (ad240.add ((x12_2).toNat * 3)).off + 1, none⟩ = some (.int .i16 ((rd_T54 y237 x12_2).f1)) ∧ w'.cell? ⟨(ad240.add ((x12_2).toNat * 3)).block, (ad240.add ((x12_2).toNat * 3)).off + 2, none⟩ = some (.int .i16 ((rd_T54 y237 x12_2).f2))) (ds := []) #[false, false, false, false, false, false, false, false, false, false, false, false, false, false, false, false, false, false, false, false, false] (by kernel_rfl) rfl rfl ⟨(blk_cell BK230.out 0).trans rfl, (blk_cell BK230.out 1).trans rfl, (blk_cell BK230.out 2).trans rfl, (blk_cell BK230.out 3).trans rfl, (blk_cell BK230.out 4).trans rfl, hx241_0, hx241_1, hx241_2, hx242_0, hx242_1, hx242_2⟩ (fun hHeld => ?_); refine with_tabW ambidexterlaw25_ServoLost.tab16 ambidexterlaw25_ServoLost.bits16 (fun HT_ HW_ => ?_)
              generalize wr.drew = w27 at HO_11 BK230 HB hx241_0 hx241_1 hx241_2 hx242_0 hx242_1 hx242_2 hHeld ⊢
              refine pure_ (i := 1) (N := some 58) (v := ?_) (a' := ?_) #[false, true, false, false, false, false, false, false, false, false, false, false, false, false, false, false, false, false, false, false, false] rfl rfl (any_of HT_.out (by kernel_rfl)) (fun _ _ _ h => h) (Or.inl ⟨by rfl, ?_⟩) ?_ ?_
              rotate_left
              ·
               intro w'
               go_simp
               with_reducible rfl
              rotate_left
              ·
               simp only [Act.put, List.setIfInBounds_toArray, List.set_cons_zero, List.set_cons_succ, i64_w, i32_w]
               rfl
              refine pure_ (i := 2) (N := some 59) (v := ?_) (a' := ?_) #[false, true, true, false, false, false, false, false, false, false, false, false, false, false, false, false, false, false, false, false, false] rfl rfl (any_of HT_.out (by kernel_rfl)) (fun _ _ _ h => h) (Or.inl ⟨by rfl, ?_⟩) ?_ ?_
              rotate_left
              ·
               intro w'
               go_simp
               with_reducible rfl
              rotate_left
              ·
               simp only [Act.put, List.setIfInBounds_toArray, List.set_cons_zero, List.set_cons_succ, i64_w, i32_w]
               rfl
              refine pure_ (i := 3) (N := some 60) (v := ?_) (a' := ?_) #[false, true, true, true, false, false, false, false, false, false, false, false, false, false, false, false, false, false, false, false, false] rfl rfl (any_of HT_.out (by kernel_rfl)) (fun _ _ _ h => h) (Or.inl ⟨by rfl, ?_⟩) ?_ ?_
              rotate_left
              ·
               intro w'
               go_simp
               with_reducible rfl
              rotate_left
              ·
               simp only [Act.put, List.setIfInBounds_toArray, List.set_cons_zero, List.set_cons_succ, i64_w, i32_w]
               rfl
              refine pure_ (i := 4) (N := some 61) (v := ?_) (a' := ?_) #[false, true, true, true, true, false, false, false, false, false, false, false, false, false, false, false, false, false, false, false, false] rfl rfl (any_of HT_.out (by kernel_rfl)) (fun _ _ _ h => h) (Or.inl ⟨by rfl, ?_⟩) ?_ ?_
              rotate_left
              ·
               intro w'
               go_simp
               with_reducible rfl
              rotate_left
              ·
               simp only [Act.put, List.setIfInBounds_toArray, List.set_cons_zero, List.set_cons_succ, i64_w, i32_w]
               rfl
              refine pure_ (i := 5) (N := some 62) (v := ?_) (a' := ?_) #[false, true, true, true, true, true, false, false, false, false, false, false, false, false, false, false, false, false, false, false, false] rfl rfl (any_of HT_.out (by kernel_rfl)) (fun _ _ _ h => h) (Or.inl ⟨by rfl, ?_⟩) ?_ ?_
              rotate_left
              ·
               intro w'
               go_simp
               with_reducible rfl
              rotate_left
              ·
               simp only [Act.put, List.setIfInBounds_toArray, List.set_cons_zero, List.set_cons_succ, i64_w, i32_w]
               rfl
              refine pure_ (i := 8) (N := some 65) (v := ?_) (a' := ?_) #[false, true, true, true, true, true, false, false, true, false, false, false, false, false, false, false, false, false, false, false, false] rfl rfl (any_of HT_.out (by kernel_rfl)) (fun _ _ _ h => h) (Or.inl ⟨by rfl, ?_⟩) ?_ ?_
              rotate_left
              ·
               intro w'
               go_simp
               with_reducible rfl
              rotate_left
              ·
               simp only [Act.put, List.setIfInBounds_toArray, List.set_cons_zero, List.set_cons_succ, i64_w, i32_w]
               rfl
              refine pure_ (i := 9) (N := some 66) (v := ?_) (a' := ?_) #[false, true, true, true, true, true, false, false, true, true, false, false, false, false, false, false, false, false, false, false, false] rfl rfl (any_of HT_.out (by kernel_rfl)) (fun _ _ _ h => h) (Or.inl ⟨by rfl, ?_⟩) ?_ ?_
              rotate_left
              ·
               intro w'
               go_simp
               with_reducible rfl
              rotate_left
              ·
               simp only [Act.put, List.setIfInBounds_toArray, List.set_cons_zero, List.set_cons_succ, i64_w, i32_w]
               rfl
              refine pure_ (i := 10) (N := some 67) (v := ?_) (a' := ?_) #[false, true, true, true, true, true, false, false, true, true, true, false, false, false, false, false, false, false, false, false, false] rfl rfl (any_of HT_.out (by kernel_rfl)) (fun _ _ _ h => h) (Or.inl ⟨by rfl, ?_⟩) ?_ ?_
              rotate_left
              ·
               intro w'
               go_simp
               with_reducible rfl
              rotate_left
              ·
               simp only [Act.put, List.setIfInBounds_toArray, List.set_cons_zero, List.set_cons_succ, i64_w, i32_w]
               rfl
              refine pure_ (i := 11) (N := some 68) (v := ?_) (a' := ?_) #[false, true, true, true, true, true, false, false, true, true, true, true, false, false, false, false, false, false, false, false, false] rfl rfl (any_of HT_.out (by kernel_rfl)) (fun _ _ _ h => h) (Or.inl ⟨by rfl, ?_⟩) ?_ ?_
              rotate_left
              ·
               intro w'
               go_simp
               with_reducible rfl
              rotate_left
              ·
               simp only [Act.put, List.setIfInBounds_toArray, List.set_cons_zero, List.set_cons_succ, i64_w, i32_w]
               rfl
              refine take_ (i := 0) (N := some 57) (v := ?_) (a' := ?_) #[true, true, true, true, true, true, false, false, true, true, true, true, false, false, false, false, false, false, false, false, false] rfl rfl (take_ofW HT_.out HW_.out (by kernel_rfl)) (fun _ _ _ h => h) (Or.inl ⟨by rfl, ?_⟩) hHeld ?_ ?_
              rotate_left
              ·
               rintro w' ⟨s0, s1, s2, s3, s4, s5, s6, s7, s8, s9, s10⟩
               go_simp
               with_reducible rfl
              rotate_left
              ·
               simp only [Act.put, List.setIfInBounds_toArray, List.set_cons_zero, List.set_cons_succ, i64_w, i32_w]
               rfl
              refine take_ (i := 6) (N := some 63) (v := ?_) (a' := ?_) #[true, true, true, true, true, true, true, false, true, true, true, true, false, false, false, false, false, false, false, false, false] rfl rfl (take_ofW HT_.out HW_.out (by kernel_rfl)) (fun _ _ _ h => h) (Or.inl ⟨by rfl, ?_⟩) hHeld ?_ ?_
              rotate_left
              ·
               rintro w' ⟨s0, s1, s2, s3, s4, s5, s6, s7, s8, s9, s10⟩
               go_simp
               with_reducible rfl
              rotate_left
              ·
               simp only [Act.put, List.setIfInBounds_toArray, List.set_cons_zero, List.set_cons_succ, i64_w, i32_w]
               rfl
              refine pure_ (i := 7) (N := some 64) (v := ?_) (a' := ?_) #[true, true, true, true, true, true, true, true, true, true, true, true, false, false, false, false, false, false, false, false, false] rfl rfl (any_of HT_.out (by kernel_rfl)) (fun _ _ _ h => h) (Or.inl ⟨by rfl, ?_⟩) ?_ ?_
              rotate_left
              ·
               intro w'
               go_simp
               with_reducible rfl
              rotate_left
              ·
               simp only [Act.put, List.setIfInBounds_toArray, List.set_cons_zero, List.set_cons_succ, i64_w, i32_w]
               rfl
              refine take_ (i := 12) (N := some 69) (v := ?_) (a' := ?_) #[true, true, true, true, true, true, true, true, true, true, true, true, true, false, false, false, false, false, false, false, false] rfl rfl (take_ofW HT_.out HW_.out (by kernel_rfl)) (fun _ _ _ h => h) (Or.inl ⟨by rfl, ?_⟩) hHeld ?_ ?_
              rotate_left
              ·
               rintro w' ⟨s0, s1, s2, s3, s4, s5, s6, s7, s8, s9, s10⟩
               go_simp
               with_reducible rfl
              rotate_left
              ·
               simp only [Act.put, List.setIfInBounds_toArray, List.set_cons_zero, List.set_cons_succ, i64_w, i32_w]
               rfl
              refine pure_ (i := 13) (N := some 70) (v := ?_) (a' := ?_) #[true, true, true, true, true, true, true, true, true, true, true, true, true, true, false, false, false, false, false, false, false] rfl rfl (any_of HT_.out (by kernel_rfl)) (fun _ _ _ h => h) (Or.inl ⟨by rfl, ?_⟩) ?_ ?_
              rotate_left
              ·
               intro w'
               go_simp
               with_reducible rfl
              rotate_left
              ·
               simp only [Act.put, List.setIfInBounds_toArray, List.set_cons_zero, List.set_cons_succ, i64_w, i32_w]
               rfl
              refine join_ (σ := Nat) 2 #[true, true, true, true, true, true, true, true, true, true, true, true, true, true, true, true, true, true, true, false, false] (fun s_ => [(71, .tuple #[.agg #[.int .i64 t243, .int .i64 t244, .int .i64 t245, .int .i64 t246, .bool t247], .int .i64 t248]), (14, .pointer (some ⟨s_, 0, none⟩)), (56, .tuple #[.agg #[.int .i64 t243, .int .i64 t244, .int .i64 t245, .int .i64 t246, .bool t247], .int .i64 t248]), (72, .agg #[.int .i64 t243, .int .i64 t244, .int .i64 t245, .int .i64 t246, .bool t247]), (73, .int .i64 t248)]) (fun s_ w' => (w'.cell? ⟨gb230, 0, none⟩ = some (.int .i64 x231000_2) ∧ w'.cell? ⟨gb230, 1, none⟩ = some (.int .i64 x231001_2) ∧ w'.cell? ⟨gb230, 2, none⟩ = some (.int .i64 x231002_2) ∧ w'.cell? ⟨gb230, 3, none⟩ = some (.int .i64 x231003_2) ∧ w'.cell? ⟨gb230, 4, none⟩ = some (.bool x231004_2) ∧ w'.cell? (ad240.add ((x12_2).toNat * 3)) = some (.int .u8 ((rd_T54 y237 x12_2).f0)) ∧ w'.cell? ⟨(ad240.add ((x12_2).toNat * 3)).block, (ad240.add ((x12_2).toNat * 3)).off + 1, none⟩ = some (.int .i16 ((rd_T54 y237 x12_2).f1)) ∧ w'.cell? ⟨(ad240.add ((x12_2).toNat * 3)).block, (ad240.add ((x12_2).toNat * 3)).off + 2, none⟩ = some (.int .i16 ((rd_T54 y237 x12_2).f2)) ∧ w'.cell? (ad240.add ((x12_2).toNat * 3)) = some (.int .u8 ((rd_T54 y237 x12_2).f0)) ∧ w'.cell? ⟨(ad240.add ((x12_2).toNat * 3)).block, (ad240.add ((x12_2).toNat * 3)).off + 1, none⟩ = some (.int .i16 ((rd_T54 y237 x12_2).f1)) ∧ w'.cell? ⟨(ad240.add ((x12_2).toNat * 3)).block, (ad240.add ((x12_2).toNat * 3)).off + 2, none⟩ = some (.int .i16 ((rd_T54 y237 x12_2).f2))) ∧ (Kd.R k54 54 w' w.heap.size (fun _ => True) (.slice (some ad240) y237.length co26) y237) ∧ (w'.heap[gb230]? = some (.cells #[.int .i64 x231000_2, .int .i64 x231001_2, .int .i64 x231002_2, .int .i64 x231003_2, .bool x231004_2] 49 (0, 0))) ∧ (w'.heap[s_]? = some (.cells #[.int .i64 0, .int .i64 0, .int .i64 0, .int .i64 0, .bool false] 49 (0, 0))) ∧ (w.heap.size ≤ s_) ∧ (w.heap.size ≤ s_) ∧ (gb230 ≠ s_) ∧ (s_ ≠ gb230) ∧ (Below w.heap.size w w')) ?_ ?_
              rotate_left
              ·
               intro hCont
               refine two_ (i := 14) (j := 18) (Ni := some 71) (Nj := some 14) #[true, true, true, true, true, true, true, true, true, true, true, true, true, true, true, false, false, false, false, false, false] #[true, true, true, true, true, true, true, true, true, true, true, true, true, true, false, false, false, false, true, false, false] rfl rfl rfl rfl (two_of HT_.out (by kernel_rfl)) (by decide) (by decide) (fun K hK => ?_) (fun K hK => ?_)
               ·
                skip
                refine goes_ Try.func32 (by kernel_rfl) rfl #[.agg #[.int .i64 x231000_2, .int .i64 x231001_2, .int .i64 x231002_2, .int .i64 x231003_2, .bool x231004_2], .int .i64 (Int.tmod (wrap64 ((rd_T54 y237 x12_2).f0)) 4), .int .i64 (wrap64 ((rd_T54 y237 x12_2).f1)), .int .i64 (wrap64 ((rd_T54 y237 x12_2).f2))] (by rfl) rfl rfl (by (try simp only [List.map_toArray, List.map_cons, List.map_nil]); first | done | rfl | (simp only [List.length_drop, List.length_take]; rfl)) ?_
                with_reducible refine (servo_Step.calls x231000_2 x231001_2 x231002_2 x231003_2 x231004_2 (Int.tmod (wrap64 ((rd_T54 y237 x12_2).f0)) 4) (wrap64 ((rd_T54 y237 x12_2).f1)) (wrap64 ((rd_T54 y237 x12_2).f2)) t243 t244 t245 t246 t247 t248 _ A23.out).mono ?_
                rintro e w28 ⟨rfl, hb⟩
                have HS5_ := (hb.cell (World.block_lt_of_cell? _ _ (hHeld.2.2.2.2.2.1))).trans (hHeld.2.2.2.2.2.1)
                have HS6_ := (hb.cell (World.block_lt_of_cell? _ _ (hHeld.2.2.2.2.2.2.1))).trans (hHeld.2.2.2.2.2.2.1)
                have HS7_ := (hb.cell (World.block_lt_of_cell? _ _ (hHeld.2.2.2.2.2.2.2.1))).trans (hHeld.2.2.2.2.2.2.2.1)
                have HS8_ := (hb.cell (World.block_lt_of_cell? _ _ (hHeld.2.2.2.2.2.2.2.2.1))).trans (hHeld.2.2.2.2.2.2.2.2.1)
                have HS9_ := (hb.cell (World.block_lt_of_cell? _ _ (hHeld.2.2.2.2.2.2.2.2.2.1))).trans (hHeld.2.2.2.2.2.2.2.2.2.1)
                have HS10_ := (hb.cell (World.block_lt_of_cell? _ _ (hHeld.2.2.2.2.2.2.2.2.2.2))).trans (hHeld.2.2.2.2.2.2.2.2.2.2)
                refine ⟨_, rfl, ?_⟩
                have n0_ := Aside0.mk (Kd.R_below (by (with_reducible repeat (first | apply Kd.R_alloc | apply Kd.R_drewN | apply Kd.R_drew)); exact HO_11.out) hb)
                have n1_ := Aside0.mk (blk_below (g := gb230) (o := .cells #[.int .i64 x231000_2, .int .i64 x231001_2, .int .i64 x231002_2, .int .i64 x231003_2, .bool x231004_2] 49 (0, 0)) (by (with_reducible repeat (first | refine blk_drewN ?_ _ | refine blk_drew ?_ | refine blk_alloc ?_ _)); exact BK230.out) hb)
                have n2_ := Aside0.mk (below_step (by repeat (first | (with_reducible first | exact HB.out | apply below_alloc | apply pw_below_drewN | apply below_drew1 | refine below_set ?_ GE230.out) | exact HB.out)) hb)
                clear HO_11
                clear BK230
                clear HB
                have HO_11 := n0_
                have BK230 := n1_
                have HB := n2_
                clear n0_ n1_ n2_
                (try clear hb)
                (try clear hb2)
                (try clear hk)
                (try clear hi)
                refine hK.out _ _ ⟨(blk_cell BK230.out 0).trans rfl, (blk_cell BK230.out 1).trans rfl, (blk_cell BK230.out 2).trans rfl, (blk_cell BK230.out 3).trans rfl, (blk_cell BK230.out 4).trans rfl, HS5_, HS6_, HS7_, HS8_, HS9_, HS10_⟩ (fun hHeld => ?_)
                clear hK K
                refine norm_ (a' := ?_) ?_ ?_
                rotate_left
                ·
                 show Act.put _ (some 71) _ = _
                 simp only [Act.put, List.setIfInBounds_toArray, List.set_cons_zero, List.set_cons_succ, i64_w, i32_w]
                 rfl
                refine pure_ (i := 15) (N := some 56) (v := ?_) (a' := ?_) #[true, true, true, true, true, true, true, true, true, true, true, true, true, true, true, true, false, false, false, false, false] rfl rfl (any_of HT_.out (by kernel_rfl)) (fun _ _ _ h => h) (Or.inl ⟨by rfl, ?_⟩) ?_ ?_
                rotate_left
                ·
                 intro w'
                 go_simp
                 with_reducible rfl
                rotate_left
                ·
                 simp only [Act.put, List.setIfInBounds_toArray, List.set_cons_zero, List.set_cons_succ, i64_w, i32_w]
                 rfl
                refine pure_ (i := 16) (N := some 72) (v := ?_) (a' := ?_) #[true, true, true, true, true, true, true, true, true, true, true, true, true, true, true, true, true, false, false, false, false] rfl rfl (any_of HT_.out (by kernel_rfl)) (fun _ _ _ h => h) (Or.inl ⟨by rfl, ?_⟩) ?_ ?_
                rotate_left
                ·
                 intro w'
                 go_simp
                 with_reducible rfl
                rotate_left
                ·
                 simp only [Act.put, List.setIfInBounds_toArray, List.set_cons_zero, List.set_cons_succ, i64_w, i32_w]
                 rfl
                refine pure_ (i := 17) (N := some 73) (v := ?_) (a' := ?_) #[true, true, true, true, true, true, true, true, true, true, true, true, true, true, true, true, true, true, false, false, false] rfl rfl (any_of HT_.out (by kernel_rfl)) (fun _ _ _ h => h) (Or.inl ⟨by rfl, ?_⟩) ?_ ?_
                rotate_left
                ·
                 intro w'
                 go_simp
                 with_reducible rfl
                rotate_left
                ·
                 simp only [Act.put, List.setIfInBounds_toArray, List.set_cons_zero, List.set_cons_succ, i64_w, i32_w]
                 rfl
                refine one_ (i := 18) (N := some 14) #[true, true, true, true, true, true, true, true, true, true, true, true, true, true, true, true, true, true, true, false, false] rfl rfl (one_of HT_.out (by kernel_rfl)) (by decide) (fun K hK => ?_)
                refine box_step ?hg (N := 14) ?hd (cs := #[.int .i64 0, .int .i64 0, .int .i64 0, .int .i64 0, .bool false]) (t := 49) ?hr ?_; (case hd => rfl); (case hg => rfl); (case hr => first | (go_simp; done) | (go_simp; rfl))
                intro gb249 hg w29 hbox hb
                have HS5_ := (hb.cell (World.block_lt_of_cell? _ _ (hHeld.2.2.2.2.2.1))).trans (hHeld.2.2.2.2.2.1)
                have HS6_ := (hb.cell (World.block_lt_of_cell? _ _ (hHeld.2.2.2.2.2.2.1))).trans (hHeld.2.2.2.2.2.2.1)
                have HS7_ := (hb.cell (World.block_lt_of_cell? _ _ (hHeld.2.2.2.2.2.2.2.1))).trans (hHeld.2.2.2.2.2.2.2.1)
                have HS8_ := (hb.cell (World.block_lt_of_cell? _ _ (hHeld.2.2.2.2.2.2.2.2.1))).trans (hHeld.2.2.2.2.2.2.2.2.1)
                have HS9_ := (hb.cell (World.block_lt_of_cell? _ _ (hHeld.2.2.2.2.2.2.2.2.2.1))).trans (hHeld.2.2.2.2.2.2.2.2.2.1)
                have HS10_ := (hb.cell (World.block_lt_of_cell? _ _ (hHeld.2.2.2.2.2.2.2.2.2.2))).trans (hHeld.2.2.2.2.2.2.2.2.2.2)
                have n0_ := Aside0.mk (Kd.R_below (by (with_reducible repeat (first | apply Kd.R_alloc | apply Kd.R_drewN | apply Kd.R_drew)); exact HO_11.out) hb)
                have n1_ := Aside0.mk (blk_below (g := gb230) (o := .cells #[.int .i64 x231000_2, .int .i64 x231001_2, .int .i64 x231002_2, .int .i64 x231003_2, .bool x231004_2] 49 (0, 0)) (by (with_reducible repeat (first | refine blk_drewN ?_ _ | refine blk_drew ?_ | refine blk_alloc ?_ _)); exact BK230.out) hb)
                have n2_ := Aside0.mk (below_step (by repeat (first | (with_reducible first | exact HB.out | apply below_alloc | apply pw_below_drewN | apply below_drew1 | refine below_set ?_ GE230.out) | exact HB.out)) hb)
                have n3_ := Aside0.mk (hbox)
                have n4_ := Aside0.mk ((by rw [hg]; exact (below_size (by repeat (first | (with_reducible first | exact HB.out | apply below_alloc | apply pw_below_drewN | apply below_drew1 | refine below_set ?_ GE230.out) | exact HB.out))) : w.heap.size ≤ gb249))
                have n5_ := Aside0.mk ((by rw [hg]; exact (below_size (by repeat (first | (with_reducible first | exact HB.out | apply below_alloc | apply pw_below_drewN | apply below_drew1 | refine below_set ?_ GE230.out) | exact HB.out))) : w.heap.size ≤ gb249))
                have n6_ := Aside0.mk ((by rw [hg]; exact Nat.ne_of_lt (blk_lt (g := gb230) (o := .cells #[.int .i64 x231000_2, .int .i64 x231001_2, .int .i64 x231002_2, .int .i64 x231003_2, .bool x231004_2] 49 (0, 0)) (by (with_reducible repeat (first | refine blk_drewN ?_ _ | refine blk_drew ?_ | refine blk_alloc ?_ _)); exact BK230.out)) : gb230 ≠ gb249))
                have n7_ := Aside0.mk ((by rw [hg]; exact Nat.ne_of_gt (blk_lt (g := gb230) (o := .cells #[.int .i64 x231000_2, .int .i64 x231001_2, .int .i64 x231002_2, .int .i64 x231003_2, .bool x231004_2] 49 (0, 0)) (by (with_reducible repeat (first | refine blk_drewN ?_ _ | refine blk_drew ?_ | refine blk_alloc ?_ _)); exact BK230.out)) : gb249 ≠ gb230))
                clear HO_11
                clear BK230
                clear HB
                have HO_11 := n0_
                have BK230 := n1_
                have HB := n2_
                have BK249 := n3_
                have GW249 := n4_
                have GE249 := n5_
                have NB230_249 := n6_
                have NB249_230 := n7_
                clear n0_ n1_ n2_ n3_ n4_ n5_ n6_ n7_
                clear hb hbox hg
                refine hK.out _ _ ⟨(blk_cell BK230.out 0).trans rfl, (blk_cell BK230.out 1).trans rfl, (blk_cell BK230.out 2).trans rfl, (blk_cell BK230.out 3).trans rfl, (blk_cell BK230.out 4).trans rfl, HS5_, HS6_, HS7_, HS8_, HS9_, HS10_⟩ (fun hHeld => ?_)
                clear hK K
                refine norm_ (a' := ?_) ?_ ?_
                rotate_left
                ·
                 show Act.put _ (some 14) _ = _
                 simp only [Act.put, List.setIfInBounds_toArray, List.set_cons_zero, List.set_cons_succ, i64_w, i32_w]
                 rfl
                exact norm_ (by simp only [putAll, Act.put, List.setIfInBounds_toArray, List.set_cons_zero, List.set_cons_succ]) (hCont (gb249) _ ⟨hHeld, (by (with_reducible repeat (first | apply Kd.R_alloc | apply Kd.R_drewN | apply Kd.R_drew)); exact HO_11.out), (by (with_reducible repeat (first | refine blk_drewN ?_ _ | refine blk_drew ?_ | refine blk_alloc ?_ _)); exact BK230.out), (by (with_reducible repeat (first | refine blk_drewN ?_ _ | refine blk_drew ?_ | refine blk_alloc ?_ _)); exact BK249.out), GW249.out, GE249.out, NB230_249.out, NB249_230.out, (by repeat (first | (with_reducible first | exact HB.out | apply below_alloc | apply pw_below_drewN | apply below_drew1 | refine below_set ?_ GE230.out | refine below_set ?_ GE249.out) | exact HB.out))⟩)
               ·
                skip
                refine box_step ?hg (N := 14) ?hd (cs := #[.int .i64 0, .int .i64 0, .int .i64 0, .int .i64 0, .bool false]) (t := 49) ?hr ?_; (case hd => rfl); (case hg => rfl); (case hr => first | (go_simp; done) | (go_simp; rfl))
                intro gb249 hg w28 hbox hb
                have HS5_ := (hb.cell (World.block_lt_of_cell? _ _ (hHeld.2.2.2.2.2.1))).trans (hHeld.2.2.2.2.2.1)
                have HS6_ := (hb.cell (World.block_lt_of_cell? _ _ (hHeld.2.2.2.2.2.2.1))).trans (hHeld.2.2.2.2.2.2.1)
                have HS7_ := (hb.cell (World.block_lt_of_cell? _ _ (hHeld.2.2.2.2.2.2.2.1))).trans (hHeld.2.2.2.2.2.2.2.1)
                have HS8_ := (hb.cell (World.block_lt_of_cell? _ _ (hHeld.2.2.2.2.2.2.2.2.1))).trans (hHeld.2.2.2.2.2.2.2.2.1)
                have HS9_ := (hb.cell (World.block_lt_of_cell? _ _ (hHeld.2.2.2.2.2.2.2.2.2.1))).trans (hHeld.2.2.2.2.2.2.2.2.2.1)
                have HS10_ := (hb.cell (World.block_lt_of_cell? _ _ (hHeld.2.2.2.2.2.2.2.2.2.2))).trans (hHeld.2.2.2.2.2.2.2.2.2.2)
                have n0_ := Aside0.mk (Kd.R_below (by (with_reducible repeat (first | apply Kd.R_alloc | apply Kd.R_drewN | apply Kd.R_drew)); exact HO_11.out) hb)
                have n1_ := Aside0.mk (blk_below (g := gb230) (o := .cells #[.int .i64 x231000_2, .int .i64 x231001_2, .int .i64 x231002_2, .int .i64 x231003_2, .bool x231004_2] 49 (0, 0)) (by (with_reducible repeat (first | refine blk_drewN ?_ _ | refine blk_drew ?_ | refine blk_alloc ?_ _)); exact BK230.out) hb)
                have n2_ := Aside0.mk (below_step (by repeat (first | (with_reducible first | exact HB.out | apply below_alloc | apply pw_below_drewN | apply below_drew1 | refine below_set ?_ GE230.out) | exact HB.out)) hb)
                have n3_ := Aside0.mk (hbox)
                have n4_ := Aside0.mk ((by rw [hg]; exact (below_size (by repeat (first | (with_reducible first | exact HB.out | apply below_alloc | apply pw_below_drewN | apply below_drew1 | refine below_set ?_ GE230.out) | exact HB.out))) : w.heap.size ≤ gb249))
                have n5_ := Aside0.mk ((by rw [hg]; exact (below_size (by repeat (first | (with_reducible first | exact HB.out | apply below_alloc | apply pw_below_drewN | apply below_drew1 | refine below_set ?_ GE230.out) | exact HB.out))) : w.heap.size ≤ gb249))
                have n6_ := Aside0.mk ((by rw [hg]; exact Nat.ne_of_lt (blk_lt (g := gb230) (o := .cells #[.int .i64 x231000_2, .int .i64 x231001_2, .int .i64 x231002_2, .int .i64 x231003_2, .bool x231004_2] 49 (0, 0)) (by (with_reducible repeat (first | refine blk_drewN ?_ _ | refine blk_drew ?_ | refine blk_alloc ?_ _)); exact BK230.out)) : gb230 ≠ gb249))
                have n7_ := Aside0.mk ((by rw [hg]; exact Nat.ne_of_gt (blk_lt (g := gb230) (o := .cells #[.int .i64 x231000_2, .int .i64 x231001_2, .int .i64 x231002_2, .int .i64 x231003_2, .bool x231004_2] 49 (0, 0)) (by (with_reducible repeat (first | refine blk_drewN ?_ _ | refine blk_drew ?_ | refine blk_alloc ?_ _)); exact BK230.out)) : gb249 ≠ gb230))
                clear HO_11
                clear BK230
                clear HB
                have HO_11 := n0_
                have BK230 := n1_
                have HB := n2_
                have BK249 := n3_
                have GW249 := n4_
                have GE249 := n5_
                have NB230_249 := n6_
                have NB249_230 := n7_
                clear n0_ n1_ n2_ n3_ n4_ n5_ n6_ n7_
                clear hb hbox hg
                refine hK.out _ _ ⟨(blk_cell BK230.out 0).trans rfl, (blk_cell BK230.out 1).trans rfl, (blk_cell BK230.out 2).trans rfl, (blk_cell BK230.out 3).trans rfl, (blk_cell BK230.out 4).trans rfl, HS5_, HS6_, HS7_, HS8_, HS9_, HS10_⟩ (fun hHeld => ?_)
                clear hK K
                refine norm_ (a' := ?_) ?_ ?_
                rotate_left
                ·
                 show Act.put _ (some 14) _ = _
                 simp only [Act.put, List.setIfInBounds_toArray, List.set_cons_zero, List.set_cons_succ, i64_w, i32_w]
                 rfl
                refine one_ (i := 14) (N := some 71) #[true, true, true, true, true, true, true, true, true, true, true, true, true, true, true, false, false, false, true, false, false] rfl rfl (one_of HT_.out (by kernel_rfl)) (by decide) (fun K hK => ?_)
                refine goes_ Try.func32 (by kernel_rfl) rfl #[.agg #[.int .i64 x231000_2, .int .i64 x231001_2, .int .i64 x231002_2, .int .i64 x231003_2, .bool x231004_2], .int .i64 (Int.tmod (wrap64 ((rd_T54 y237 x12_2).f0)) 4), .int .i64 (wrap64 ((rd_T54 y237 x12_2).f1)), .int .i64 (wrap64 ((rd_T54 y237 x12_2).f2))] (by rfl) rfl rfl (by (try simp only [List.map_toArray, List.map_cons, List.map_nil]); first | done | rfl | (simp only [List.length_drop, List.length_take]; rfl)) ?_
                with_reducible refine (servo_Step.calls x231000_2 x231001_2 x231002_2 x231003_2 x231004_2 (Int.tmod (wrap64 ((rd_T54 y237 x12_2).f0)) 4) (wrap64 ((rd_T54 y237 x12_2).f1)) (wrap64 ((rd_T54 y237 x12_2).f2)) t243 t244 t245 t246 t247 t248 _ A23.out).mono ?_
                rintro e w29 ⟨rfl, hb⟩
                have HS5_ := (hb.cell (World.block_lt_of_cell? _ _ (hHeld.2.2.2.2.2.1))).trans (hHeld.2.2.2.2.2.1)
                have HS6_ := (hb.cell (World.block_lt_of_cell? _ _ (hHeld.2.2.2.2.2.2.1))).trans (hHeld.2.2.2.2.2.2.1)
                have HS7_ := (hb.cell (World.block_lt_of_cell? _ _ (hHeld.2.2.2.2.2.2.2.1))).trans (hHeld.2.2.2.2.2.2.2.1)
                have HS8_ := (hb.cell (World.block_lt_of_cell? _ _ (hHeld.2.2.2.2.2.2.2.2.1))).trans (hHeld.2.2.2.2.2.2.2.2.1)
                have HS9_ := (hb.cell (World.block_lt_of_cell? _ _ (hHeld.2.2.2.2.2.2.2.2.2.1))).trans (hHeld.2.2.2.2.2.2.2.2.2.1)
                have HS10_ := (hb.cell (World.block_lt_of_cell? _ _ (hHeld.2.2.2.2.2.2.2.2.2.2))).trans (hHeld.2.2.2.2.2.2.2.2.2.2)
                refine ⟨_, rfl, ?_⟩
                have n0_ := Aside0.mk (Kd.R_below (by (with_reducible repeat (first | apply Kd.R_alloc | apply Kd.R_drewN | apply Kd.R_drew)); exact HO_11.out) hb)
                have n1_ := Aside0.mk (blk_below (g := gb230) (o := .cells #[.int .i64 x231000_2, .int .i64 x231001_2, .int .i64 x231002_2, .int .i64 x231003_2, .bool x231004_2] 49 (0, 0)) (by (with_reducible repeat (first | refine blk_drewN ?_ _ | refine blk_drew ?_ | refine blk_alloc ?_ _)); exact BK230.out) hb)
                have n2_ := Aside0.mk (blk_below (g := gb249) (o := .cells #[.int .i64 0, .int .i64 0, .int .i64 0, .int .i64 0, .bool false] 49 (0, 0)) (by (with_reducible repeat (first | refine blk_drewN ?_ _ | refine blk_drew ?_ | refine blk_alloc ?_ _)); exact BK249.out) hb)
                have n3_ := Aside0.mk (below_step (by repeat (first | (with_reducible first | exact HB.out | apply below_alloc | apply pw_below_drewN | apply below_drew1 | refine below_set ?_ GE230.out | refine below_set ?_ GE249.out) | exact HB.out)) hb)
                clear HO_11
                clear BK230
                clear BK249
                clear HB
                have HO_11 := n0_
                have BK230 := n1_
                have BK249 := n2_
                have HB := n3_
                clear n0_ n1_ n2_ n3_
                (try clear hb)
                (try clear hb2)
                (try clear hk)
                (try clear hi)
                refine hK.out _ _ ⟨(blk_cell BK230.out 0).trans rfl, (blk_cell BK230.out 1).trans rfl, (blk_cell BK230.out 2).trans rfl, (blk_cell BK230.out 3).trans rfl, (blk_cell BK230.out 4).trans rfl, HS5_, HS6_, HS7_, HS8_, HS9_, HS10_⟩ (fun hHeld => ?_)
                clear hK K
                refine norm_ (a' := ?_) ?_ ?_
                rotate_left
                ·
                 show Act.put _ (some 71) _ = _
                 simp only [Act.put, List.setIfInBounds_toArray, List.set_cons_zero, List.set_cons_succ, i64_w, i32_w]
                 rfl
                refine pure_ (i := 15) (N := some 56) (v := ?_) (a' := ?_) #[true, true, true, true, true, true, true, true, true, true, true, true, true, true, true, true, false, false, true, false, false] rfl rfl (any_of HT_.out (by kernel_rfl)) (fun _ _ _ h => h) (Or.inl ⟨by rfl, ?_⟩) ?_ ?_
                rotate_left
                ·
                 intro w'
                 go_simp
                 with_reducible rfl
                rotate_left
                ·
                 simp only [Act.put, List.setIfInBounds_toArray, List.set_cons_zero, List.set_cons_succ, i64_w, i32_w]
                 rfl
                refine pure_ (i := 16) (N := some 72) (v := ?_) (a' := ?_) #[true, true, true, true, true, true, true, true, true, true, true, true, true, true, true, true, true, false, true, false, false] rfl rfl (any_of HT_.out (by kernel_rfl)) (fun _ _ _ h => h) (Or.inl ⟨by rfl, ?_⟩) ?_ ?_
                rotate_left
                ·
                 intro w'
                 go_simp
                 with_reducible rfl
                rotate_left
                ·
                 simp only [Act.put, List.setIfInBounds_toArray, List.set_cons_zero, List.set_cons_succ, i64_w, i32_w]
                 rfl
                refine pure_ (i := 17) (N := some 73) (v := ?_) (a' := ?_) #[true, true, true, true, true, true, true, true, true, true, true, true, true, true, true, true, true, true, true, false, false] rfl rfl (any_of HT_.out (by kernel_rfl)) (fun _ _ _ h => h) (Or.inl ⟨by rfl, ?_⟩) ?_ ?_
                rotate_left
                ·
                 intro w'
                 go_simp
                 with_reducible rfl
                rotate_left
                ·
                 simp only [Act.put, List.setIfInBounds_toArray, List.set_cons_zero, List.set_cons_succ, i64_w, i32_w]
                 rfl
                exact norm_ (by simp only [putAll, Act.put, List.setIfInBounds_toArray, List.set_cons_zero, List.set_cons_succ]) (hCont (gb249) _ ⟨hHeld, (by (with_reducible repeat (first | apply Kd.R_alloc | apply Kd.R_drewN | apply Kd.R_drew)); exact HO_11.out), (by (with_reducible repeat (first | refine blk_drewN ?_ _ | refine blk_drew ?_ | refine blk_alloc ?_ _)); exact BK230.out), (by (with_reducible repeat (first | refine blk_drewN ?_ _ | refine blk_drew ?_ | refine blk_alloc ?_ _)); exact BK249.out), GW249.out, GE249.out, NB230_249.out, NB249_230.out, (by repeat (first | (with_reducible first | exact HB.out | apply below_alloc | apply pw_below_drewN | apply below_drew1 | refine below_set ?_ GE230.out | refine below_set ?_ GE249.out) | exact HB.out))⟩)
              rintro gb249 w30 ⟨hS_, h0_, h1_, h2_, h3_, h4_, h5_, h6_, h7_⟩
              have n0_ : Aside0 (Kd.R k54 54 w30 w.heap.size (fun _ => True) (.slice (some ad240) y237.length co26) y237) := ⟨h0_⟩
              have n1_ : Aside0 (w30.heap[gb230]? = some (.cells #[.int .i64 x231000_2, .int .i64 x231001_2, .int .i64 x231002_2, .int .i64 x231003_2, .bool x231004_2] 49 (0, 0))) := ⟨h1_⟩
              have n2_ : Aside0 (w30.heap[gb249]? = some (.cells #[.int .i64 0, .int .i64 0, .int .i64 0, .int .i64 0, .bool false] 49 (0, 0))) := ⟨h2_⟩
              have n3_ : Aside0 (w.heap.size ≤ gb249) := ⟨h3_⟩
              have n4_ : Aside0 (w.heap.size ≤ gb249) := ⟨h4_⟩
              have n5_ : Aside0 (gb230 ≠ gb249) := ⟨h5_⟩
              have n6_ : Aside0 (gb249 ≠ gb230) := ⟨h6_⟩
              have n7_ : Aside0 (Below w.heap.size w w30) := ⟨h7_⟩
              clear HO_11
              clear BK230
              clear HB
              clear h0_ h1_ h2_ h3_ h4_ h5_ h6_ h7_
              have HO_11 := n0_
              have BK230 := n1_
              have BK249 := n2_
              have GW249 := n3_
              have GE249 := n4_
              have NB230_249 := n5_
              have NB249_230 := n6_
              have HB := n7_
              clear n0_ n1_ n2_ n3_ n4_ n5_ n6_ n7_
              have hHeld : w30.cell? ⟨gb230, 0, none⟩ = some (.int .i64 x231000_2) ∧ w30.cell? ⟨gb230, 1, none⟩ = some (.int .i64 x231001_2) ∧ w30.cell? ⟨gb230, 2, none⟩ = some (.int .i64 x231002_2) ∧ w30.cell? ⟨gb230, 3, none⟩ = some (.int .i64 x231003_2) ∧ w30.cell? ⟨gb230, 4, none⟩ = some (.bool x231004_2) ∧ w30.cell? (ad240.add ((x12_2).toNat * 3)) = some (.int .u8 ((rd_T54 y237 x12_2).f0)) ∧ w30.cell? ⟨(ad240.add ((x12_2).toNat * 3)).block, (ad240.add ((x12_2).toNat * 3)).off + 1, none⟩ = some (.int .i16 ((rd_T54 y237 x12_2).f1)) ∧ w30.cell? ⟨(ad240.add ((x12_2).toNat * 3)).block, (ad240.add ((x12_2).toNat * 3)).off + 2, none⟩ = some (.int .i16 ((rd_T54 y237 x12_2).f2)) ∧ w30.cell? (ad240.add ((x12_2).toNat * 3)) = some (.int .u8 ((rd_T54 y237 x12_2).f0)) ∧ w30.cell? ⟨(ad240.add ((x12_2).toNat * 3)).block, (ad240.add ((x12_2).toNat * 3)).off + 1, none⟩ = some (.int .i16 ((rd_T54 y237 x12_2).f1)) ∧ w30.cell? ⟨(ad240.add ((x12_2).toNat * 3)).block, (ad240.add ((x12_2).toNat * 3)).off + 2, none⟩ = some (.int .i16 ((rd_T54 y237 x12_2).f2)) := hS_
              refine norm_ (a' := ?_) ?_ ?_
              rotate_left
              ·
               simp only [putAll, Act.put, List.setIfInBounds_toArray, List.set_cons_zero, List.set_cons_succ]
               rfl
              refine one_ (i := 19) (N := none) #[true, true, true, true, true, true, true, true, true, true, true, true, true, true, true, true, true, true, true, true, false] rfl rfl (one_of HT_.out (by kernel_rfl)) (by decide) (fun K hK => ?_)
              have hs31 : w30.cell? ⟨gb249, 0, none⟩ = some (.int .i64 0) := (blk_cell BK249.out 0).trans rfl
              have hfs31 := blk_frozen BK249.out 0
              have hns31_0 := NB230_249.out
              have hms31_0 := NB249_230.out
              have hs32 : w30.cell? ⟨gb249, 1, none⟩ = some (.int .i64 0) := (blk_cell BK249.out 1).trans rfl
              have hfs32 := blk_frozen BK249.out 1
              have hns32_0 := NB230_249.out
              have hms32_0 := NB249_230.out
              have hs33 : w30.cell? ⟨gb249, 2, none⟩ = some (.int .i64 0) := (blk_cell BK249.out 2).trans rfl
              have hfs33 := blk_frozen BK249.out 2
              have hns33_0 := NB230_249.out
              have hms33_0 := NB249_230.out
              have hs34 : w30.cell? ⟨gb249, 3, none⟩ = some (.int .i64 0) := (blk_cell BK249.out 3).trans rfl
              have hfs34 := blk_frozen BK249.out 3
              have hns34_0 := NB230_249.out
              have hms34_0 := NB249_230.out
              have hs35 : w30.cell? ⟨gb249, 4, none⟩ = some (.bool false) := (blk_cell BK249.out 4).trans rfl
              have hfs35 := blk_frozen BK249.out 4
              have hns35_0 := NB230_249.out
              have hms35_0 := NB249_230.out
              refine skip_ (w1 := ?_) (by rfl) rfl ?_ ?_
              rotate_left
              ·
               go_simp
               rfl
              refine hK.out _ _ ⟨((cell_far5 (g := gb249) NB230_249.out).trans (hHeld.1)), ((cell_far5 (g := gb249) NB230_249.out).trans (hHeld.2.1)), ((cell_far5 (g := gb249) NB230_249.out).trans (hHeld.2.2.1)), ((cell_far5 (g := gb249) NB230_249.out).trans (hHeld.2.2.2.1)), ((cell_far5 (g := gb249) NB230_249.out).trans (hHeld.2.2.2.2.1)), ((cell_far5 (g := gb249) (by first | exact Kd.own_blk (Kd.R_ne HO_11.out BK249.out (by decide)) | (rw [add_block]; exact Kd.own_blk (Kd.R_ne HO_11.out BK249.out (by decide))) | (show (Addr.add _ _).block ≠ _; rw [add_block]; exact Kd.own_blk (Kd.R_ne HO_11.out BK249.out (by decide))) | (dsimp only; exact Kd.own_blk (Kd.R_ne HO_11.out BK249.out (by decide))))).trans (hHeld.2.2.2.2.2.1)), ((cell_far5 (g := gb249) (by first | exact Kd.own_blk (Kd.R_ne HO_11.out BK249.out (by decide)) | (rw [add_block]; exact Kd.own_blk (Kd.R_ne HO_11.out BK249.out (by decide))) | (show (Addr.add _ _).block ≠ _; rw [add_block]; exact Kd.own_blk (Kd.R_ne HO_11.out BK249.out (by decide))) | (dsimp only; exact Kd.own_blk (Kd.R_ne HO_11.out BK249.out (by decide))))).trans (hHeld.2.2.2.2.2.2.1)), ((cell_far5 (g := gb249) (by first | exact Kd.own_blk (Kd.R_ne HO_11.out BK249.out (by decide)) | (rw [add_block]; exact Kd.own_blk (Kd.R_ne HO_11.out BK249.out (by decide))) | (show (Addr.add _ _).block ≠ _; rw [add_block]; exact Kd.own_blk (Kd.R_ne HO_11.out BK249.out (by decide))) | (dsimp only; exact Kd.own_blk (Kd.R_ne HO_11.out BK249.out (by decide))))).trans (hHeld.2.2.2.2.2.2.2.1)), ((cell_far5 (g := gb249) (by first | exact Kd.own_blk (Kd.R_ne HO_11.out BK249.out (by decide)) | (rw [add_block]; exact Kd.own_blk (Kd.R_ne HO_11.out BK249.out (by decide))) | (show (Addr.add _ _).block ≠ _; rw [add_block]; exact Kd.own_blk (Kd.R_ne HO_11.out BK249.out (by decide))) | (dsimp only; exact Kd.own_blk (Kd.R_ne HO_11.out BK249.out (by decide))))).trans (hHeld.2.2.2.2.2.2.2.2.1)), ((cell_far5 (g := gb249) (by first | exact Kd.own_blk (Kd.R_ne HO_11.out BK249.out (by decide)) | (rw [add_block]; exact Kd.own_blk (Kd.R_ne HO_11.out BK249.out (by decide))) | (show (Addr.add _ _).block ≠ _; rw [add_block]; exact Kd.own_blk (Kd.R_ne HO_11.out BK249.out (by decide))) | (dsimp only; exact Kd.own_blk (Kd.R_ne HO_11.out BK249.out (by decide))))).trans (hHeld.2.2.2.2.2.2.2.2.2.1)), ((cell_far5 (g := gb249) (by first | exact Kd.own_blk (Kd.R_ne HO_11.out BK249.out (by decide)) | (rw [add_block]; exact Kd.own_blk (Kd.R_ne HO_11.out BK249.out (by decide))) | (show (Addr.add _ _).block ≠ _; rw [add_block]; exact Kd.own_blk (Kd.R_ne HO_11.out BK249.out (by decide))) | (dsimp only; exact Kd.own_blk (Kd.R_ne HO_11.out BK249.out (by decide))))).trans (hHeld.2.2.2.2.2.2.2.2.2.2))⟩ (fun hHeld => ?_)
              clear hK K
              refine pure_ (i := 20) (N := some 15) (v := ?_) (a' := ?_) #[true, true, true, true, true, true, true, true, true, true, true, true, true, true, true, true, true, true, true, true, true] rfl rfl (any_of HT_.out (by kernel_rfl)) (fun _ _ _ h => h) (Or.inl ⟨by rfl, ?_⟩) ?_ ?_
              rotate_left
              ·
               intro w'
               go_simp
               with_reducible rfl
              rotate_left
              ·
               simp only [Act.put, List.setIfInBounds_toArray, List.set_cons_zero, List.set_cons_succ, i64_w, i32_w]
               rfl
              refine done_ (done_of HT_.out (by kernel_rfl)) ?_
              have hnb36 := NB249_230.out
              have hnc36 := NB230_249.out
              have hcz37_0 : w30.cell? ⟨gb249, 0, none⟩ = some (.int .i64 0) := (blk_cell BK249.out 0).trans rfl
              have hcz37_1 : w30.cell? ⟨gb249, 1, none⟩ = some (.int .i64 0) := (blk_cell BK249.out 1).trans rfl
              have hcz37_2 : w30.cell? ⟨gb249, 2, none⟩ = some (.int .i64 0) := (blk_cell BK249.out 2).trans rfl
              have hcz37_3 : w30.cell? ⟨gb249, 3, none⟩ = some (.int .i64 0) := (blk_cell BK249.out 3).trans rfl
              have hcz37_4 : w30.cell? ⟨gb249, 4, none⟩ = some (.bool false) := (blk_cell BK249.out 4).trans rfl
              have hfz37_0 := blk_frozen BK249.out 0
              have hfz37_1 := blk_frozen BK249.out 1
              have hfz37_2 := blk_frozen BK249.out 2
              have hfz37_3 := blk_frozen BK249.out 3
              have hfz37_4 := blk_frozen BK249.out 4
              have hcz38_0 : w30.cell? ⟨gb230, 0, none⟩ = some (.int .i64 x231000_2) := (blk_cell BK230.out 0).trans rfl
              have hcz38_1 : w30.cell? ⟨gb230, 1, none⟩ = some (.int .i64 x231001_2) := (blk_cell BK230.out 1).trans rfl
              have hcz38_2 : w30.cell? ⟨gb230, 2, none⟩ = some (.int .i64 x231002_2) := (blk_cell BK230.out 2).trans rfl
              have hcz38_3 : w30.cell? ⟨gb230, 3, none⟩ = some (.int .i64 x231003_2) := (blk_cell BK230.out 3).trans rfl
              have hcz38_4 : w30.cell? ⟨gb230, 4, none⟩ = some (.bool x231004_2) := (blk_cell BK230.out 4).trans rfl
              have hfz38_0 := blk_frozen BK230.out 0
              have hfz38_1 := blk_frozen BK230.out 1
              have hfz38_2 := blk_frozen BK230.out 2
              have hfz38_3 := blk_frozen BK230.out 3
              have hfz38_4 := blk_frozen BK230.out 4
              try go_wp2
              go_roundg k2
              case measure => have := HJ4.out; have := HK2.out; omega
              case rel => exact ⟨(0), (true), (wrap64 (x12_2 + 1)), (t243), (t244), (t245), (t246), (t247), (by first | rfl | (simp; done) | (simp [*]; done)), (by first | rfl | (simp; done) | (simp [*]; done)), (by first | rfl | (simp; done) | (simp [*]; done)), H', ⟨by have := HJ4.out; have := HK2.out; omega⟩, ⟨by (with_reducible repeat (first | apply Kd.R_alloc | apply Kd.R_drewN | apply Kd.R_drew)); exact Kd.R_mono (Kd.R_far (p := ⟨gb230, 4, none⟩) (Kd.R_far (p := ⟨gb230, 3, none⟩) (Kd.R_far (p := ⟨gb230, 2, none⟩) (Kd.R_far (p := ⟨gb230, 1, none⟩) (Kd.R_far (p := ⟨gb230, 0, none⟩) (Kd.R_far (p := ⟨gb249, 4, none⟩) (Kd.R_far (p := ⟨gb249, 3, none⟩) (Kd.R_far (p := ⟨gb249, 2, none⟩) (Kd.R_far (p := ⟨gb249, 1, none⟩) (Kd.R_far (p := ⟨gb249, 0, none⟩) (Kd.R_types (Kd.R_types HO_11.out BK249.out (by decide)) BK230.out (by decide)) (fun _ hk => hk.1.2) (.int .i64 t243)) (fun _ hk => hk.1.2) (.int .i64 t244)) (fun _ hk => hk.1.2) (.int .i64 t245)) (fun _ hk => hk.1.2) (.int .i64 t246)) (fun _ hk => hk.1.2) (.bool t247)) (fun _ hk => hk.2) (.int .i64 t243)) (fun _ hk => hk.2) (.int .i64 t244)) (fun _ hk => hk.2) (.int .i64 t245)) (fun _ hk => hk.2) (.int .i64 t246)) (fun _ hk => hk.2) (.bool t247)) (fun _ hk => trivial)⟩, ⟨by (with_reducible repeat (first | refine blk_drewN ?_ _ | refine blk_drew ?_ | refine blk_alloc ?_ _)); refine blk_put (cs := #[.int .i64 t243, .int .i64 t244, .int .i64 t245, .int .i64 t246, .bool x231004_2]) ?_ 4 _ rfl; (with_reducible repeat (first | refine blk_drewN ?_ _ | refine blk_drew ?_ | refine blk_alloc ?_ _)); refine blk_put (cs := #[.int .i64 t243, .int .i64 t244, .int .i64 t245, .int .i64 x231003_2, .bool x231004_2]) ?_ 3 _ rfl; (with_reducible repeat (first | refine blk_drewN ?_ _ | refine blk_drew ?_ | refine blk_alloc ?_ _)); refine blk_put (cs := #[.int .i64 t243, .int .i64 t244, .int .i64 x231002_2, .int .i64 x231003_2, .bool x231004_2]) ?_ 2 _ rfl; (with_reducible repeat (first | refine blk_drewN ?_ _ | refine blk_drew ?_ | refine blk_alloc ?_ _)); refine blk_put (cs := #[.int .i64 t243, .int .i64 x231001_2, .int .i64 x231002_2, .int .i64 x231003_2, .bool x231004_2]) ?_ 1 _ rfl; (with_reducible repeat (first | refine blk_drewN ?_ _ | refine blk_drew ?_ | refine blk_alloc ?_ _)); refine blk_put (cs := #[.int .i64 x231000_2, .int .i64 x231001_2, .int .i64 x231002_2, .int .i64 x231003_2, .bool x231004_2]) ?_ 0 _ rfl; (with_reducible repeat (first | refine blk_drewN ?_ _ | refine blk_drew ?_ | refine blk_alloc ?_ _)); refine blk_far ?_ NB230_249.out _; (with_reducible repeat (first | refine blk_drewN ?_ _ | refine blk_drew ?_ | refine blk_alloc ?_ _)); refine blk_far ?_ NB230_249.out _; (with_reducible repeat (first | refine blk_drewN ?_ _ | refine blk_drew ?_ | refine blk_alloc ?_ _)); refine blk_far ?_ NB230_249.out _; (with_reducible repeat (first | refine blk_drewN ?_ _ | refine blk_drew ?_ | refine blk_alloc ?_ _)); refine blk_far ?_ NB230_249.out _; (with_reducible repeat (first | refine blk_drewN ?_ _ | refine blk_drew ?_ | refine blk_alloc ?_ _)); refine blk_far ?_ NB230_249.out _; (with_reducible repeat (first | refine blk_drewN ?_ _ | refine blk_drew ?_ | refine blk_alloc ?_ _)); exact BK230.out⟩, ⟨by repeat (first | (with_reducible first | exact HB.out | apply below_alloc | apply pw_below_drewN | apply below_drew1 | refine below_set ?_ GE230.out | refine below_set ?_ GE249.out) | exact HB.out)⟩⟩
             ·
              rw [if_neg c25] at H
              have c25b0 : (t248 == 0) = false := beq_eq_false_iff_ne.mpr c25
              have c25b1 : (t248 != 0) = true := bne_iff_ne.mpr c25
              exact absurd HT.out (by rw [← Option.some.inj H]; decide)
           ·
            replace c22 := Bool.eq_false_iff.mpr c22
            subst c22
            have H1 : ((servo_Step.f x231000_2 x231001_2 x231002_2 x231003_2 x231004_2 (Int.tmod (wrap64 ((rd_T54 y237 x12_2).f0)) 4) (wrap64 ((rd_T54 y237 x12_2).f1)) (wrap64 ((rd_T54 y237 x12_2).f2))).bind fun bt252 => (if (bt252.2.2.2.2.1 != false) = true then (some false) else (ambidexterlaw25_ServoLost.l0 k2 true 0 false y237 (wrap64 (x12_2 + 1)) bt252.1 bt252.2.1 bt252.2.2.1 bt252.2.2.2.1 bt252.2.2.2.2.1))) = some r := by rw [if_neg (show ¬ (false = true) by decide)] at H; exact H
            clear H
            have H := H1
            clear H1
            replace H := Option.bind_eq_some_iff.mp H
            obtain ⟨⟨t252, t253, t254, t255, t256, t257⟩, A390, H⟩ := H
            replace H : (if (t256 != false) = true then (some false) else (ambidexterlaw25_ServoLost.l0 k2 true 0 false y237 (wrap64 (x12_2 + 1)) t252 t253 t254 t255 t256)) = some r := H
            have A39 := Aside0.mk A390
            clear A390
            by_cases c40 : (t256 != false) = true
            ·
             rw [if_pos c40] at H
             have c40b0 : (t256 != false) = true := c40
             (try (have c40b1 : decide (t256 = false) = false := by simpa using c40))
             (try (have c40b2 : (t256 == false) = false := by simpa using c40))
             (try (have c40b3 : ¬ (t256 = false) := by simpa using c40))
             clear c40
             exact absurd HT.out (by rw [← Option.some.inj H]; decide)
            ·
             rw [if_neg c40] at H
             have c40b0 : (t256 != false) = false := by simpa using c40
             (try (have c40b1 : decide (t256 = false) = true := by simpa using c40))
             (try (have c40b2 : (t256 == false) = true := by simpa using c40))
             clear c40
             have H' := Aside0.mk H
             clear H
             obtain ⟨Ao41, co41, eo41⟩ := Kd.R_slice HO_11.out
             subst eo41
             have p240 : 0 ≤ (x12_2 : Int) := of_decide_eq_true (by first | (with_reducible assumption) | assumption)
             have q240 : x12_2 < (y237.length : Int) := of_decide_eq_true (by first | (with_reducible assumption) | assumption)
             obtain ⟨ad240, e240, hx240_0, hx240_1, hx240_2⟩ := at_T54 (Kd.R_reads' HO_11.out).2.2 x12_2 p240 q240
             cases e240
             replace p240 := eq_true p240
             replace q240 := eq_true q240
             try go_wp2
             have n0_ := Aside0.mk (Kd.R_drew HO_11.out)
             have n1_ := Aside0.mk (blk_drew BK230.out)
             have n2_ := Aside0.mk (below_drew1 HB.out)
             clear HO_11
             clear BK230
             clear HB
             have HO_11 := n0_
             have BK230 := n1_
             have HB := n2_
             clear n0_ n1_ n2_
             have p250 : 0 ≤ (x12_2 : Int) := of_decide_eq_true (by first | (with_reducible assumption) | assumption)
             have q250 : x12_2 < (y237.length : Int) := of_decide_eq_true (by first | (with_reducible assumption) | assumption)
             obtain ⟨ad250, e250, hx250_0, hx250_1, hx250_2⟩ := at_T54 (Kd.R_reads' HO_11.out).2.2 x12_2 p250 q250
             obtain rfl : ad240 = ad250 := (by injection e250)
             replace p250 := eq_true p250
             replace q250 := eq_true q250
             have p251 : 0 ≤ (x12_2 : Int) := of_decide_eq_true (by first | (with_reducible assumption) | assumption)
             have q251 : x12_2 < (y237.length : Int) := of_decide_eq_true (by first | (with_reducible assumption) | assumption)
             obtain ⟨ad251, e251, hx251_0, hx251_1, hx251_2⟩ := at_T54 (Kd.R_reads' HO_11.out).2.2 x12_2 p251 q251
             obtain rfl : ad240 = ad251 := (by injection e251)
             replace p251 := eq_true p251
             replace q251 := eq_true q251
             refine start_ (n := 21) (S := fun w' => w'.cell? ⟨gb230, 0, none⟩ = some (.int .i64 x231000_2) ∧ w'.cell? ⟨gb230, 1, none⟩ = some (.int .i64 x231001_2) ∧ w'.cell? ⟨gb230, 2, none⟩ = some (.int .i64 x231002_2) ∧ w'.cell? ⟨gb230, 3, none⟩ = some (.int .i64 x231003_2) ∧ w'.cell? ⟨gb230, 4, none⟩ = some (.bool x231004_2) ∧ w'.cell? (ad240.add ((x12_2).toNat * 3)) = some (.int .u8 ((rd_T54 y237 x12_2).f0)) ∧ w'.cell? ⟨(ad240.add ((x12_2).toNat * 3)).block, (ad240.add ((x12_2).toNat * 3)).off + 1, none⟩ = some (.int .i16 ((rd_T54 y237 x12_2).f1)) ∧ w'.cell? ⟨(ad240.add ((x12_2).toNat * 3)).block, (ad240.add ((x12_2).toNat * 3)).off + 2, none⟩ = some (.int .i16 ((rd_T54 y237 x12_2).f2)) ∧ w'.cell? (ad240.add ((x12_2).toNat * 3)) = some (.int .u8 ((rd_T54 y237 x12_2).f0)) ∧ w'.cell? ⟨(ad240.add ((x12_2).toNat * 3)).block, (ad240.add ((x12_2).toNat * 3)).off + 1, none⟩ = some (.int .i16 ((rd_T54 y237 x12_2).f1)) ∧ w'.cell? ⟨(ad240.add ((x12_2).toNat * 3)).block, (ad240.add ((x12_2).toNat * 3)).off + 2, none⟩ = some (.int .i16 ((rd_T54 y237 x12_2).f2))) (ds := []) #[false, false, false, false, false, false, false, false, false, false, false, false, false, false, false, false, false, false, false, false, false] (by kernel_rfl) rfl rfl ⟨(blk_cell BK230.out 0).trans rfl, (blk_cell BK230.out 1).trans rfl, (blk_cell BK230.out 2).trans rfl, (blk_cell BK230.out 3).trans rfl, (blk_cell BK230.out 4).trans rfl, hx250_0, hx250_1, hx250_2, hx251_0, hx251_1, hx251_2⟩ (fun hHeld => ?_); refine with_tabW ambidexterlaw25_ServoLost.tab16 ambidexterlaw25_ServoLost.bits16 (fun HT_ HW_ => ?_)
             generalize wr.drew = w42 at HO_11 BK230 HB hx250_0 hx250_1 hx250_2 hx251_0 hx251_1 hx251_2 hHeld ⊢
             refine pure_ (i := 1) (N := some 58) (v := ?_) (a' := ?_) #[false, true, false, false, false, false, false, false, false, false, false, false, false, false, false, false, false, false, false, false, false] rfl rfl (any_of HT_.out (by kernel_rfl)) (fun _ _ _ h => h) (Or.inl ⟨by rfl, ?_⟩) ?_ ?_
             rotate_left
             ·
              intro w'
              go_simp
              with_reducible rfl
             rotate_left
             ·
              simp only [Act.put, List.setIfInBounds_toArray, List.set_cons_zero, List.set_cons_succ, i64_w, i32_w]
              rfl
             refine pure_ (i := 2) (N := some 59) (v := ?_) (a' := ?_) #[false, true, true, false, false, false, false, false, false, false, false, false, false, false, false, false, false, false, false, false, false] rfl rfl (any_of HT_.out (by kernel_rfl)) (fun _ _ _ h => h) (Or.inl ⟨by rfl, ?_⟩) ?_ ?_
             rotate_left
             ·
              intro w'
              go_simp
              with_reducible rfl
             rotate_left
             ·
              simp only [Act.put, List.setIfInBounds_toArray, List.set_cons_zero, List.set_cons_succ, i64_w, i32_w]
              rfl
             refine pure_ (i := 3) (N := some 60) (v := ?_) (a' := ?_) #[false, true, true, true, false, false, false, false, false, false, false, false, false, false, false, false, false, false, false, false, false] rfl rfl (any_of HT_.out (by kernel_rfl)) (fun _ _ _ h => h) (Or.inl ⟨by rfl, ?_⟩) ?_ ?_
             rotate_left
             ·
              intro w'
              go_simp
              with_reducible rfl
             rotate_left
             ·
              simp only [Act.put, List.setIfInBounds_toArray, List.set_cons_zero, List.set_cons_succ, i64_w, i32_w]
              rfl
             refine pure_ (i := 4) (N := some 61) (v := ?_) (a' := ?_) #[false, true, true, true, true, false, false, false, false, false, false, false, false, false, false, false, false, false, false, false, false] rfl rfl (any_of HT_.out (by kernel_rfl)) (fun _ _ _ h => h) (Or.inl ⟨by rfl, ?_⟩) ?_ ?_
             rotate_left
             ·
              intro w'
              go_simp
              with_reducible rfl
             rotate_left
             ·
              simp only [Act.put, List.setIfInBounds_toArray, List.set_cons_zero, List.set_cons_succ, i64_w, i32_w]
              rfl
             refine pure_ (i := 5) (N := some 62) (v := ?_) (a' := ?_) #[false, true, true, true, true, true, false, false, false, false, false, false, false, false, false, false, false, false, false, false, false] rfl rfl (any_of HT_.out (by kernel_rfl)) (fun _ _ _ h => h) (Or.inl ⟨by rfl, ?_⟩) ?_ ?_
             rotate_left
             ·
              intro w'
              go_simp
              with_reducible rfl
             rotate_left
             ·
              simp only [Act.put, List.setIfInBounds_toArray, List.set_cons_zero, List.set_cons_succ, i64_w, i32_w]
              rfl
             refine pure_ (i := 8) (N := some 65) (v := ?_) (a' := ?_) #[false, true, true, true, true, true, false, false, true, false, false, false, false, false, false, false, false, false, false, false, false] rfl rfl (any_of HT_.out (by kernel_rfl)) (fun _ _ _ h => h) (Or.inl ⟨by rfl, ?_⟩) ?_ ?_
             rotate_left
             ·
              intro w'
              go_simp
              with_reducible rfl
             rotate_left
             ·
              simp only [Act.put, List.setIfInBounds_toArray, List.set_cons_zero, List.set_cons_succ, i64_w, i32_w]
              rfl
             refine pure_ (i := 9) (N := some 66) (v := ?_) (a' := ?_) #[false, true, true, true, true, true, false, false, true, true, false, false, false, false, false, false, false, false, false, false, false] rfl rfl (any_of HT_.out (by kernel_rfl)) (fun _ _ _ h => h) (Or.inl ⟨by rfl, ?_⟩) ?_ ?_
             rotate_left
             ·
              intro w'
              go_simp
              with_reducible rfl
             rotate_left
             ·
              simp only [Act.put, List.setIfInBounds_toArray, List.set_cons_zero, List.set_cons_succ, i64_w, i32_w]
              rfl
             refine pure_ (i := 10) (N := some 67) (v := ?_) (a' := ?_) #[false, true, true, true, true, true, false, false, true, true, true, false, false, false, false, false, false, false, false, false, false] rfl rfl (any_of HT_.out (by kernel_rfl)) (fun _ _ _ h => h) (Or.inl ⟨by rfl, ?_⟩) ?_ ?_
             rotate_left
             ·
              intro w'
              go_simp
              with_reducible rfl
             rotate_left
             ·
              simp only [Act.put, List.setIfInBounds_toArray, List.set_cons_zero, List.set_cons_succ, i64_w, i32_w]
              rfl
             refine pure_ (i := 11) (N := some 68) (v := ?_) (a' := ?_) #[false, true, true, true, true, true, false, false, true, true, true, true, false, false, false, false, false, false, false, false, false] rfl rfl (any_of HT_.out (by kernel_rfl)) (fun _ _ _ h => h) (Or.inl ⟨by rfl, ?_⟩) ?_ ?_
             rotate_left
             ·
              intro w'
              go_simp
              with_reducible rfl
             rotate_left
             ·
              simp only [Act.put, List.setIfInBounds_toArray, List.set_cons_zero, List.set_cons_succ, i64_w, i32_w]
              rfl
             refine take_ (i := 0) (N := some 57) (v := ?_) (a' := ?_) #[true, true, true, true, true, true, false, false, true, true, true, true, false, false, false, false, false, false, false, false, false] rfl rfl (take_ofW HT_.out HW_.out (by kernel_rfl)) (fun _ _ _ h => h) (Or.inl ⟨by rfl, ?_⟩) hHeld ?_ ?_
             rotate_left
             ·
              rintro w' ⟨s0, s1, s2, s3, s4, s5, s6, s7, s8, s9, s10⟩
              go_simp
              with_reducible rfl
             rotate_left
             ·
              simp only [Act.put, List.setIfInBounds_toArray, List.set_cons_zero, List.set_cons_succ, i64_w, i32_w]
              rfl
             refine take_ (i := 6) (N := some 63) (v := ?_) (a' := ?_) #[true, true, true, true, true, true, true, false, true, true, true, true, false, false, false, false, false, false, false, false, false] rfl rfl (take_ofW HT_.out HW_.out (by kernel_rfl)) (fun _ _ _ h => h) (Or.inl ⟨by rfl, ?_⟩) hHeld ?_ ?_
             rotate_left
             ·
              rintro w' ⟨s0, s1, s2, s3, s4, s5, s6, s7, s8, s9, s10⟩
              go_simp
              with_reducible rfl
             rotate_left
             ·
              simp only [Act.put, List.setIfInBounds_toArray, List.set_cons_zero, List.set_cons_succ, i64_w, i32_w]
              rfl
             refine pure_ (i := 7) (N := some 64) (v := ?_) (a' := ?_) #[true, true, true, true, true, true, true, true, true, true, true, true, false, false, false, false, false, false, false, false, false] rfl rfl (any_of HT_.out (by kernel_rfl)) (fun _ _ _ h => h) (Or.inl ⟨by rfl, ?_⟩) ?_ ?_
             rotate_left
             ·
              intro w'
              go_simp
              with_reducible rfl
             rotate_left
             ·
              simp only [Act.put, List.setIfInBounds_toArray, List.set_cons_zero, List.set_cons_succ, i64_w, i32_w]
              rfl
             refine take_ (i := 12) (N := some 69) (v := ?_) (a' := ?_) #[true, true, true, true, true, true, true, true, true, true, true, true, true, false, false, false, false, false, false, false, false] rfl rfl (take_ofW HT_.out HW_.out (by kernel_rfl)) (fun _ _ _ h => h) (Or.inl ⟨by rfl, ?_⟩) hHeld ?_ ?_
             rotate_left
             ·
              rintro w' ⟨s0, s1, s2, s3, s4, s5, s6, s7, s8, s9, s10⟩
              go_simp
              with_reducible rfl
             rotate_left
             ·
              simp only [Act.put, List.setIfInBounds_toArray, List.set_cons_zero, List.set_cons_succ, i64_w, i32_w]
              rfl
             refine pure_ (i := 13) (N := some 70) (v := ?_) (a' := ?_) #[true, true, true, true, true, true, true, true, true, true, true, true, true, true, false, false, false, false, false, false, false] rfl rfl (any_of HT_.out (by kernel_rfl)) (fun _ _ _ h => h) (Or.inl ⟨by rfl, ?_⟩) ?_ ?_
             rotate_left
             ·
              intro w'
              go_simp
              with_reducible rfl
             rotate_left
             ·
              simp only [Act.put, List.setIfInBounds_toArray, List.set_cons_zero, List.set_cons_succ, i64_w, i32_w]
              rfl
             refine join_ (σ := Nat) 2 #[true, true, true, true, true, true, true, true, true, true, true, true, true, true, true, true, true, true, true, false, false] (fun s_ => [(71, .tuple #[.agg #[.int .i64 t252, .int .i64 t253, .int .i64 t254, .int .i64 t255, .bool t256], .int .i64 t257]), (14, .pointer (some ⟨s_, 0, none⟩)), (56, .tuple #[.agg #[.int .i64 t252, .int .i64 t253, .int .i64 t254, .int .i64 t255, .bool t256], .int .i64 t257]), (72, .agg #[.int .i64 t252, .int .i64 t253, .int .i64 t254, .int .i64 t255, .bool t256]), (73, .int .i64 t257)]) (fun s_ w' => (w'.cell? ⟨gb230, 0, none⟩ = some (.int .i64 x231000_2) ∧ w'.cell? ⟨gb230, 1, none⟩ = some (.int .i64 x231001_2) ∧ w'.cell? ⟨gb230, 2, none⟩ = some (.int .i64 x231002_2) ∧ w'.cell? ⟨gb230, 3, none⟩ = some (.int .i64 x231003_2) ∧ w'.cell? ⟨gb230, 4, none⟩ = some (.bool x231004_2) ∧ w'.cell? (ad240.add ((x12_2).toNat * 3)) = some (.int .u8 ((rd_T54 y237 x12_2).f0)) ∧ w'.cell? ⟨(ad240.add ((x12_2).toNat * 3)).block, (ad240.add ((x12_2).toNat * 3)).off + 1, none⟩ = some (.int .i16 ((rd_T54 y237 x12_2).f1)) ∧ w'.cell? ⟨(ad240.add ((x12_2).toNat * 3)).block, (ad240.add ((x12_2).toNat * 3)).off + 2, none⟩ = some (.int .i16 ((rd_T54 y237 x12_2).f2)) ∧ w'.cell? (ad240.add ((x12_2).toNat * 3)) = some (.int .u8 ((rd_T54 y237 x12_2).f0)) ∧ w'.cell? ⟨(ad240.add ((x12_2).toNat * 3)).block, (ad240.add ((x12_2).toNat * 3)).off + 1, none⟩ = some (.int .i16 ((rd_T54 y237 x12_2).f1)) ∧ w'.cell? ⟨(ad240.add ((x12_2).toNat * 3)).block, (ad240.add ((x12_2).toNat * 3)).off + 2, none⟩ = some (.int .i16 ((rd_T54 y237 x12_2).f2))) ∧ (Kd.R k54 54 w' w.heap.size (fun _ => True) (.slice (some ad240) y237.length co41) y237) ∧ (w'.heap[gb230]? = some (.cells #[.int .i64 x231000_2, .int .i64 x231001_2, .int .i64 x231002_2, .int .i64 x231003_2, .bool x231004_2] 49 (0, 0))) ∧ (w'.heap[s_]? = some (.cells #[.int .i64 0, .int .i64 0, .int .i64 0, .int .i64 0, .bool false] 49 (0, 0))) ∧ (w.heap.size ≤ s_) ∧ (w.heap.size ≤ s_) ∧ (gb230 ≠ s_) ∧ (s_ ≠ gb230) ∧ (Below w.heap.size w w')) ?_ ?_
             rotate_left
             ·
              intro hCont
              refine two_ (i := 14) (j := 18) (Ni := some 71) (Nj := some 14) #[true, true, true, true, true, true, true, true, true, true, true, true, true, true, true, false, false, false, false, false, false] #[true, true, true, true, true, true, true, true, true, true, true, true, true, true, false, false, false, false, true, false, false] rfl rfl rfl rfl (two_of HT_.out (by kernel_rfl)) (by decide) (by decide) (fun K hK => ?_) (fun K hK => ?_)
              ·
               skip
               refine goes_ Try.func32 (by kernel_rfl) rfl #[.agg #[.int .i64 x231000_2, .int .i64 x231001_2, .int .i64 x231002_2, .int .i64 x231003_2, .bool x231004_2], .int .i64 (Int.tmod (wrap64 ((rd_T54 y237 x12_2).f0)) 4), .int .i64 (wrap64 ((rd_T54 y237 x12_2).f1)), .int .i64 (wrap64 ((rd_T54 y237 x12_2).f2))] (by rfl) rfl rfl (by (try simp only [List.map_toArray, List.map_cons, List.map_nil]); first | done | rfl | (simp only [List.length_drop, List.length_take]; rfl)) ?_
               with_reducible refine (servo_Step.calls x231000_2 x231001_2 x231002_2 x231003_2 x231004_2 (Int.tmod (wrap64 ((rd_T54 y237 x12_2).f0)) 4) (wrap64 ((rd_T54 y237 x12_2).f1)) (wrap64 ((rd_T54 y237 x12_2).f2)) t252 t253 t254 t255 t256 t257 _ A39.out).mono ?_
               rintro e w43 ⟨rfl, hb⟩
               have HS5_ := (hb.cell (World.block_lt_of_cell? _ _ (hHeld.2.2.2.2.2.1))).trans (hHeld.2.2.2.2.2.1)
               have HS6_ := (hb.cell (World.block_lt_of_cell? _ _ (hHeld.2.2.2.2.2.2.1))).trans (hHeld.2.2.2.2.2.2.1)
               have HS7_ := (hb.cell (World.block_lt_of_cell? _ _ (hHeld.2.2.2.2.2.2.2.1))).trans (hHeld.2.2.2.2.2.2.2.1)
               have HS8_ := (hb.cell (World.block_lt_of_cell? _ _ (hHeld.2.2.2.2.2.2.2.2.1))).trans (hHeld.2.2.2.2.2.2.2.2.1)
               have HS9_ := (hb.cell (World.block_lt_of_cell? _ _ (hHeld.2.2.2.2.2.2.2.2.2.1))).trans (hHeld.2.2.2.2.2.2.2.2.2.1)
               have HS10_ := (hb.cell (World.block_lt_of_cell? _ _ (hHeld.2.2.2.2.2.2.2.2.2.2))).trans (hHeld.2.2.2.2.2.2.2.2.2.2)
               refine ⟨_, rfl, ?_⟩
               have n0_ := Aside0.mk (Kd.R_below (by (with_reducible repeat (first | apply Kd.R_alloc | apply Kd.R_drewN | apply Kd.R_drew)); exact HO_11.out) hb)
               have n1_ := Aside0.mk (blk_below (g := gb230) (o := .cells #[.int .i64 x231000_2, .int .i64 x231001_2, .int .i64 x231002_2, .int .i64 x231003_2, .bool x231004_2] 49 (0, 0)) (by (with_reducible repeat (first | refine blk_drewN ?_ _ | refine blk_drew ?_ | refine blk_alloc ?_ _)); exact BK230.out) hb)
               have n2_ := Aside0.mk (below_step (by repeat (first | (with_reducible first | exact HB.out | apply below_alloc | apply pw_below_drewN | apply below_drew1 | refine below_set ?_ GE230.out) | exact HB.out)) hb)
               clear HO_11
               clear BK230
               clear HB
               have HO_11 := n0_
               have BK230 := n1_
               have HB := n2_
               clear n0_ n1_ n2_
               (try clear hb)
               (try clear hb2)
               (try clear hk)
               (try clear hi)
               refine hK.out _ _ ⟨(blk_cell BK230.out 0).trans rfl, (blk_cell BK230.out 1).trans rfl, (blk_cell BK230.out 2).trans rfl, (blk_cell BK230.out 3).trans rfl, (blk_cell BK230.out 4).trans rfl, HS5_, HS6_, HS7_, HS8_, HS9_, HS10_⟩ (fun hHeld => ?_)
               clear hK K
               refine norm_ (a' := ?_) ?_ ?_
               rotate_left
               ·
                show Act.put _ (some 71) _ = _
                simp only [Act.put, List.setIfInBounds_toArray, List.set_cons_zero, List.set_cons_succ, i64_w, i32_w]
                rfl
               refine pure_ (i := 15) (N := some 56) (v := ?_) (a' := ?_) #[true, true, true, true, true, true, true, true, true, true, true, true, true, true, true, true, false, false, false, false, false] rfl rfl (any_of HT_.out (by kernel_rfl)) (fun _ _ _ h => h) (Or.inl ⟨by rfl, ?_⟩) ?_ ?_
               rotate_left
               ·
                intro w'
                go_simp
                with_reducible rfl
               rotate_left
               ·
                simp only [Act.put, List.setIfInBounds_toArray, List.set_cons_zero, List.set_cons_succ, i64_w, i32_w]
                rfl
               refine pure_ (i := 16) (N := some 72) (v := ?_) (a' := ?_) #[true, true, true, true, true, true, true, true, true, true, true, true, true, true, true, true, true, false, false, false, false] rfl rfl (any_of HT_.out (by kernel_rfl)) (fun _ _ _ h => h) (Or.inl ⟨by rfl, ?_⟩) ?_ ?_
               rotate_left
               ·
                intro w'
                go_simp
                with_reducible rfl
               rotate_left
               ·
                simp only [Act.put, List.setIfInBounds_toArray, List.set_cons_zero, List.set_cons_succ, i64_w, i32_w]
                rfl
               refine pure_ (i := 17) (N := some 73) (v := ?_) (a' := ?_) #[true, true, true, true, true, true, true, true, true, true, true, true, true, true, true, true, true, true, false, false, false] rfl rfl (any_of HT_.out (by kernel_rfl)) (fun _ _ _ h => h) (Or.inl ⟨by rfl, ?_⟩) ?_ ?_
               rotate_left
               ·
                intro w'
                go_simp
                with_reducible rfl
               rotate_left
               ·
                simp only [Act.put, List.setIfInBounds_toArray, List.set_cons_zero, List.set_cons_succ, i64_w, i32_w]
                rfl
               refine one_ (i := 18) (N := some 14) #[true, true, true, true, true, true, true, true, true, true, true, true, true, true, true, true, true, true, true, false, false] rfl rfl (one_of HT_.out (by kernel_rfl)) (by decide) (fun K hK => ?_)
               refine box_step ?hg (N := 14) ?hd (cs := #[.int .i64 0, .int .i64 0, .int .i64 0, .int .i64 0, .bool false]) (t := 49) ?hr ?_; (case hd => rfl); (case hg => rfl); (case hr => first | (go_simp; done) | (go_simp; rfl))
               intro gb258 hg w44 hbox hb
               have HS5_ := (hb.cell (World.block_lt_of_cell? _ _ (hHeld.2.2.2.2.2.1))).trans (hHeld.2.2.2.2.2.1)
               have HS6_ := (hb.cell (World.block_lt_of_cell? _ _ (hHeld.2.2.2.2.2.2.1))).trans (hHeld.2.2.2.2.2.2.1)
               have HS7_ := (hb.cell (World.block_lt_of_cell? _ _ (hHeld.2.2.2.2.2.2.2.1))).trans (hHeld.2.2.2.2.2.2.2.1)
               have HS8_ := (hb.cell (World.block_lt_of_cell? _ _ (hHeld.2.2.2.2.2.2.2.2.1))).trans (hHeld.2.2.2.2.2.2.2.2.1)
               have HS9_ := (hb.cell (World.block_lt_of_cell? _ _ (hHeld.2.2.2.2.2.2.2.2.2.1))).trans (hHeld.2.2.2.2.2.2.2.2.2.1)
               have HS10_ := (hb.cell (World.block_lt_of_cell? _ _ (hHeld.2.2.2.2.2.2.2.2.2.2))).trans (hHeld.2.2.2.2.2.2.2.2.2.2)
               have n0_ := Aside0.mk (Kd.R_below (by (with_reducible repeat (first | apply Kd.R_alloc | apply Kd.R_drewN | apply Kd.R_drew)); exact HO_11.out) hb)
               have n1_ := Aside0.mk (blk_below (g := gb230) (o := .cells #[.int .i64 x231000_2, .int .i64 x231001_2, .int .i64 x231002_2, .int .i64 x231003_2, .bool x231004_2] 49 (0, 0)) (by (with_reducible repeat (first | refine blk_drewN ?_ _ | refine blk_drew ?_ | refine blk_alloc ?_ _)); exact BK230.out) hb)
               have n2_ := Aside0.mk (below_step (by repeat (first | (with_reducible first | exact HB.out | apply below_alloc | apply pw_below_drewN | apply below_drew1 | refine below_set ?_ GE230.out) | exact HB.out)) hb)
               have n3_ := Aside0.mk (hbox)
               have n4_ := Aside0.mk ((by rw [hg]; exact (below_size (by repeat (first | (with_reducible first | exact HB.out | apply below_alloc | apply pw_below_drewN | apply below_drew1 | refine below_set ?_ GE230.out) | exact HB.out))) : w.heap.size ≤ gb258))
               have n5_ := Aside0.mk ((by rw [hg]; exact (below_size (by repeat (first | (with_reducible first | exact HB.out | apply below_alloc | apply pw_below_drewN | apply below_drew1 | refine below_set ?_ GE230.out) | exact HB.out))) : w.heap.size ≤ gb258))
               have n6_ := Aside0.mk ((by rw [hg]; exact Nat.ne_of_lt (blk_lt (g := gb230) (o := .cells #[.int .i64 x231000_2, .int .i64 x231001_2, .int .i64 x231002_2, .int .i64 x231003_2, .bool x231004_2] 49 (0, 0)) (by (with_reducible repeat (first | refine blk_drewN ?_ _ | refine blk_drew ?_ | refine blk_alloc ?_ _)); exact BK230.out)) : gb230 ≠ gb258))
               have n7_ := Aside0.mk ((by rw [hg]; exact Nat.ne_of_gt (blk_lt (g := gb230) (o := .cells #[.int .i64 x231000_2, .int .i64 x231001_2, .int .i64 x231002_2, .int .i64 x231003_2, .bool x231004_2] 49 (0, 0)) (by (with_reducible repeat (first | refine blk_drewN ?_ _ | refine blk_drew ?_ | refine blk_alloc ?_ _)); exact BK230.out)) : gb258 ≠ gb230))
               clear HO_11
               clear BK230
               clear HB
               have HO_11 := n0_
               have BK230 := n1_
               have HB := n2_
               have BK258 := n3_
               have GW258 := n4_
               have GE258 := n5_
               have NB230_258 := n6_
               have NB258_230 := n7_
               clear n0_ n1_ n2_ n3_ n4_ n5_ n6_ n7_
               clear hb hbox hg
               refine hK.out _ _ ⟨(blk_cell BK230.out 0).trans rfl, (blk_cell BK230.out 1).trans rfl, (blk_cell BK230.out 2).trans rfl, (blk_cell BK230.out 3).trans rfl, (blk_cell BK230.out 4).trans rfl, HS5_, HS6_, HS7_, HS8_, HS9_, HS10_⟩ (fun hHeld => ?_)
               clear hK K
               refine norm_ (a' := ?_) ?_ ?_
               rotate_left
               ·
                show Act.put _ (some 14) _ = _
                simp only [Act.put, List.setIfInBounds_toArray, List.set_cons_zero, List.set_cons_succ, i64_w, i32_w]
                rfl
               exact norm_ (by simp only [putAll, Act.put, List.setIfInBounds_toArray, List.set_cons_zero, List.set_cons_succ]) (hCont (gb258) _ ⟨hHeld, (by (with_reducible repeat (first | apply Kd.R_alloc | apply Kd.R_drewN | apply Kd.R_drew)); exact HO_11.out), (by (with_reducible repeat (first | refine blk_drewN ?_ _ | refine blk_drew ?_ | refine blk_alloc ?_ _)); exact BK230.out), (by (with_reducible repeat (first | refine blk_drewN ?_ _ | refine blk_drew ?_ | refine blk_alloc ?_ _)); exact BK258.out), GW258.out, GE258.out, NB230_258.out, NB258_230.out, (by repeat (first | (with_reducible first | exact HB.out | apply below_alloc | apply pw_below_drewN | apply below_drew1 | refine below_set ?_ GE230.out | refine below_set ?_ GE258.out) | exact HB.out))⟩)
              ·
               skip
               refine box_step ?hg (N := 14) ?hd (cs := #[.int .i64 0, .int .i64 0, .int .i64 0, .int .i64 0, .bool false]) (t := 49) ?hr ?_; (case hd => rfl); (case hg => rfl); (case hr => first | (go_simp; done) | (go_simp; rfl))
               intro gb258 hg w43 hbox hb
               have HS5_ := (hb.cell (World.block_lt_of_cell? _ _ (hHeld.2.2.2.2.2.1))).trans (hHeld.2.2.2.2.2.1)
               have HS6_ := (hb.cell (World.block_lt_of_cell? _ _ (hHeld.2.2.2.2.2.2.1))).trans (hHeld.2.2.2.2.2.2.1)
               have HS7_ := (hb.cell (World.block_lt_of_cell? _ _ (hHeld.2.2.2.2.2.2.2.1))).trans (hHeld.2.2.2.2.2.2.2.1)
               have HS8_ := (hb.cell (World.block_lt_of_cell? _ _ (hHeld.2.2.2.2.2.2.2.2.1))).trans (hHeld.2.2.2.2.2.2.2.2.1)
               have HS9_ := (hb.cell (World.block_lt_of_cell? _ _ (hHeld.2.2.2.2.2.2.2.2.2.1))).trans (hHeld.2.2.2.2.2.2.2.2.2.1)
               have HS10_ := (hb.cell (World.block_lt_of_cell? _ _ (hHeld.2.2.2.2.2.2.2.2.2.2))).trans (hHeld.2.2.2.2.2.2.2.2.2.2)
               have n0_ := Aside0.mk (Kd.R_below (by (with_reducible repeat (first | apply Kd.R_alloc | apply Kd.R_drewN | apply Kd.R_drew)); exact HO_11.out) hb)
               have n1_ := Aside0.mk (blk_below (g := gb230) (o := .cells #[.int .i64 x231000_2, .int .i64 x231001_2, .int .i64 x231002_2, .int .i64 x231003_2, .bool x231004_2] 49 (0, 0)) (by (with_reducible repeat (first | refine blk_drewN ?_ _ | refine blk_drew ?_ | refine blk_alloc ?_ _)); exact BK230.out) hb)
               have n2_ := Aside0.mk (below_step (by repeat (first | (with_reducible first | exact HB.out | apply below_alloc | apply pw_below_drewN | apply below_drew1 | refine below_set ?_ GE230.out) | exact HB.out)) hb)
               have n3_ := Aside0.mk (hbox)
               have n4_ := Aside0.mk ((by rw [hg]; exact (below_size (by repeat (first | (with_reducible first | exact HB.out | apply below_alloc | apply pw_below_drewN | apply below_drew1 | refine below_set ?_ GE230.out) | exact HB.out))) : w.heap.size ≤ gb258))
               have n5_ := Aside0.mk ((by rw [hg]; exact (below_size (by repeat (first | (with_reducible first | exact HB.out | apply below_alloc | apply pw_below_drewN | apply below_drew1 | refine below_set ?_ GE230.out) | exact HB.out))) : w.heap.size ≤ gb258))
               have n6_ := Aside0.mk ((by rw [hg]; exact Nat.ne_of_lt (blk_lt (g := gb230) (o := .cells #[.int .i64 x231000_2, .int .i64 x231001_2, .int .i64 x231002_2, .int .i64 x231003_2, .bool x231004_2] 49 (0, 0)) (by (with_reducible repeat (first | refine blk_drewN ?_ _ | refine blk_drew ?_ | refine blk_alloc ?_ _)); exact BK230.out)) : gb230 ≠ gb258))
               have n7_ := Aside0.mk ((by rw [hg]; exact Nat.ne_of_gt (blk_lt (g := gb230) (o := .cells #[.int .i64 x231000_2, .int .i64 x231001_2, .int .i64 x231002_2, .int .i64 x231003_2, .bool x231004_2] 49 (0, 0)) (by (with_reducible repeat (first | refine blk_drewN ?_ _ | refine blk_drew ?_ | refine blk_alloc ?_ _)); exact BK230.out)) : gb258 ≠ gb230))
               clear HO_11
               clear BK230
               clear HB
               have HO_11 := n0_
               have BK230 := n1_
               have HB := n2_
               have BK258 := n3_
               have GW258 := n4_
               have GE258 := n5_
               have NB230_258 := n6_
               have NB258_230 := n7_
               clear n0_ n1_ n2_ n3_ n4_ n5_ n6_ n7_
               clear hb hbox hg
               refine hK.out _ _ ⟨(blk_cell BK230.out 0).trans rfl, (blk_cell BK230.out 1).trans rfl, (blk_cell BK230.out 2).trans rfl, (blk_cell BK230.out 3).trans rfl, (blk_cell BK230.out 4).trans rfl, HS5_, HS6_, HS7_, HS8_, HS9_, HS10_⟩ (fun hHeld => ?_)
               clear hK K
               refine norm_ (a' := ?_) ?_ ?_
               rotate_left
               ·
                show Act.put _ (some 14) _ = _
                simp only [Act.put, List.setIfInBounds_toArray, List.set_cons_zero, List.set_cons_succ, i64_w, i32_w]
                rfl
               refine one_ (i := 14) (N := some 71) #[true, true, true, true, true, true, true, true, true, true, true, true, true, true, true, false, false, false, true, false, false] rfl rfl (one_of HT_.out (by kernel_rfl)) (by decide) (fun K hK => ?_)
               refine goes_ Try.func32 (by kernel_rfl) rfl #[.agg #[.int .i64 x231000_2, .int .i64 x231001_2, .int .i64 x231002_2, .int .i64 x231003_2, .bool x231004_2], .int .i64 (Int.tmod (wrap64 ((rd_T54 y237 x12_2).f0)) 4), .int .i64 (wrap64 ((rd_T54 y237 x12_2).f1)), .int .i64 (wrap64 ((rd_T54 y237 x12_2).f2))] (by rfl) rfl rfl (by (try simp only [List.map_toArray, List.map_cons, List.map_nil]); first | done | rfl | (simp only [List.length_drop, List.length_take]; rfl)) ?_
               with_reducible refine (servo_Step.calls x231000_2 x231001_2 x231002_2 x231003_2 x231004_2 (Int.tmod (wrap64 ((rd_T54 y237 x12_2).f0)) 4) (wrap64 ((rd_T54 y237 x12_2).f1)) (wrap64 ((rd_T54 y237 x12_2).f2)) t252 t253 t254 t255 t256 t257 _ A39.out).mono ?_
               rintro e w44 ⟨rfl, hb⟩
               have HS5_ := (hb.cell (World.block_lt_of_cell? _ _ (hHeld.2.2.2.2.2.1))).trans (hHeld.2.2.2.2.2.1)
               have HS6_ := (hb.cell (World.block_lt_of_cell? _ _ (hHeld.2.2.2.2.2.2.1))).trans (hHeld.2.2.2.2.2.2.1)
               have HS7_ := (hb.cell (World.block_lt_of_cell? _ _ (hHeld.2.2.2.2.2.2.2.1))).trans (hHeld.2.2.2.2.2.2.2.1)
               have HS8_ := (hb.cell (World.block_lt_of_cell? _ _ (hHeld.2.2.2.2.2.2.2.2.1))).trans (hHeld.2.2.2.2.2.2.2.2.1)
               have HS9_ := (hb.cell (World.block_lt_of_cell? _ _ (hHeld.2.2.2.2.2.2.2.2.2.1))).trans (hHeld.2.2.2.2.2.2.2.2.2.1)
               have HS10_ := (hb.cell (World.block_lt_of_cell? _ _ (hHeld.2.2.2.2.2.2.2.2.2.2))).trans (hHeld.2.2.2.2.2.2.2.2.2.2)
               refine ⟨_, rfl, ?_⟩
               have n0_ := Aside0.mk (Kd.R_below (by (with_reducible repeat (first | apply Kd.R_alloc | apply Kd.R_drewN | apply Kd.R_drew)); exact HO_11.out) hb)
               have n1_ := Aside0.mk (blk_below (g := gb230) (o := .cells #[.int .i64 x231000_2, .int .i64 x231001_2, .int .i64 x231002_2, .int .i64 x231003_2, .bool x231004_2] 49 (0, 0)) (by (with_reducible repeat (first | refine blk_drewN ?_ _ | refine blk_drew ?_ | refine blk_alloc ?_ _)); exact BK230.out) hb)
               have n2_ := Aside0.mk (blk_below (g := gb258) (o := .cells #[.int .i64 0, .int .i64 0, .int .i64 0, .int .i64 0, .bool false] 49 (0, 0)) (by (with_reducible repeat (first | refine blk_drewN ?_ _ | refine blk_drew ?_ | refine blk_alloc ?_ _)); exact BK258.out) hb)
               have n3_ := Aside0.mk (below_step (by repeat (first | (with_reducible first | exact HB.out | apply below_alloc | apply pw_below_drewN | apply below_drew1 | refine below_set ?_ GE230.out | refine below_set ?_ GE258.out) | exact HB.out)) hb)
               clear HO_11
               clear BK230
               clear BK258
               clear HB
               have HO_11 := n0_
               have BK230 := n1_
               have BK258 := n2_
               have HB := n3_
               clear n0_ n1_ n2_ n3_
               (try clear hb)
               (try clear hb2)
               (try clear hk)
               (try clear hi)
               refine hK.out _ _ ⟨(blk_cell BK230.out 0).trans rfl, (blk_cell BK230.out 1).trans rfl, (blk_cell BK230.out 2).trans rfl, (blk_cell BK230.out 3).trans rfl, (blk_cell BK230.out 4).trans rfl, HS5_, HS6_, HS7_, HS8_, HS9_, HS10_⟩ (fun hHeld => ?_)
               clear hK K
               refine norm_ (a' := ?_) ?_ ?_
               rotate_left
               ·
                show Act.put _ (some 71) _ = _
                simp only [Act.put, List.setIfInBounds_toArray, List.set_cons_zero, List.set_cons_succ, i64_w, i32_w]
                rfl
               refine pure_ (i := 15) (N := some 56) (v := ?_) (a' := ?_) #[true, true, true, true, true, true, true, true, true, true, true, true, true, true, true, true, false, false, true, false, false] rfl rfl (any_of HT_.out (by kernel_rfl)) (fun _ _ _ h => h) (Or.inl ⟨by rfl, ?_⟩) ?_ ?_
               rotate_left
               ·
                intro w'
                go_simp
                with_reducible rfl
               rotate_left
               ·
                simp only [Act.put, List.setIfInBounds_toArray, List.set_cons_zero, List.set_cons_succ, i64_w, i32_w]
                rfl
               refine pure_ (i := 16) (N := some 72) (v := ?_) (a' := ?_) #[true, true, true, true, true, true, true, true, true, true, true, true, true, true, true, true, true, false, true, false, false] rfl rfl (any_of HT_.out (by kernel_rfl)) (fun _ _ _ h => h) (Or.inl ⟨by rfl, ?_⟩) ?_ ?_
               rotate_left
               ·
                intro w'
                go_simp
                with_reducible rfl
               rotate_left
               ·
                simp only [Act.put, List.setIfInBounds_toArray, List.set_cons_zero, List.set_cons_succ, i64_w, i32_w]
                rfl
               refine pure_ (i := 17) (N := some 73) (v := ?_) (a' := ?_) #[true, true, true, true, true, true, true, true, true, true, true, true, true, true, true, true, true, true, true, false, false] rfl rfl (any_of HT_.out (by kernel_rfl)) (fun _ _ _ h => h) (Or.inl ⟨by rfl, ?_⟩) ?_ ?_
               rotate_left
               ·
                intro w'
                go_simp
                with_reducible rfl
               rotate_left
               ·
                simp only [Act.put, List.setIfInBounds_toArray, List.set_cons_zero, List.set_cons_succ, i64_w, i32_w]
                rfl
               exact norm_ (by simp only [putAll, Act.put, List.setIfInBounds_toArray, List.set_cons_zero, List.set_cons_succ]) (hCont (gb258) _ ⟨hHeld, (by (with_reducible repeat (first | apply Kd.R_alloc | apply Kd.R_drewN | apply Kd.R_drew)); exact HO_11.out), (by (with_reducible repeat (first | refine blk_drewN ?_ _ | refine blk_drew ?_ | refine blk_alloc ?_ _)); exact BK230.out), (by (with_reducible repeat (first | refine blk_drewN ?_ _ | refine blk_drew ?_ | refine blk_alloc ?_ _)); exact BK258.out), GW258.out, GE258.out, NB230_258.out, NB258_230.out, (by repeat (first | (with_reducible first | exact HB.out | apply below_alloc | apply pw_below_drewN | apply below_drew1 | refine below_set ?_ GE230.out | refine below_set ?_ GE258.out) | exact HB.out))⟩)
             rintro gb258 w45 ⟨hS_, h0_, h1_, h2_, h3_, h4_, h5_, h6_, h7_⟩
             have n0_ : Aside0 (Kd.R k54 54 w45 w.heap.size (fun _ => True) (.slice (some ad240) y237.length co41) y237) := ⟨h0_⟩
             have n1_ : Aside0 (w45.heap[gb230]? = some (.cells #[.int .i64 x231000_2, .int .i64 x231001_2, .int .i64 x231002_2, .int .i64 x231003_2, .bool x231004_2] 49 (0, 0))) := ⟨h1_⟩
             have n2_ : Aside0 (w45.heap[gb258]? = some (.cells #[.int .i64 0, .int .i64 0, .int .i64 0, .int .i64 0, .bool false] 49 (0, 0))) := ⟨h2_⟩
             have n3_ : Aside0 (w.heap.size ≤ gb258) := ⟨h3_⟩
             have n4_ : Aside0 (w.heap.size ≤ gb258) := ⟨h4_⟩
             have n5_ : Aside0 (gb230 ≠ gb258) := ⟨h5_⟩
             have n6_ : Aside0 (gb258 ≠ gb230) := ⟨h6_⟩
             have n7_ : Aside0 (Below w.heap.size w w45) := ⟨h7_⟩
             clear HO_11
             clear BK230
             clear HB
             clear h0_ h1_ h2_ h3_ h4_ h5_ h6_ h7_
             have HO_11 := n0_
             have BK230 := n1_
             have BK258 := n2_
             have GW258 := n3_
             have GE258 := n4_
             have NB230_258 := n5_
             have NB258_230 := n6_
             have HB := n7_
             clear n0_ n1_ n2_ n3_ n4_ n5_ n6_ n7_
             have hHeld : w45.cell? ⟨gb230, 0, none⟩ = some (.int .i64 x231000_2) ∧ w45.cell? ⟨gb230, 1, none⟩ = some (.int .i64 x231001_2) ∧ w45.cell? ⟨gb230, 2, none⟩ = some (.int .i64 x231002_2) ∧ w45.cell? ⟨gb230, 3, none⟩ = some (.int .i64 x231003_2) ∧ w45.cell? ⟨gb230, 4, none⟩ = some (.bool x231004_2) ∧ w45.cell? (ad240.add ((x12_2).toNat * 3)) = some (.int .u8 ((rd_T54 y237 x12_2).f0)) ∧ w45.cell? ⟨(ad240.add ((x12_2).toNat * 3)).block, (ad240.add ((x12_2).toNat * 3)).off + 1, none⟩ = some (.int .i16 ((rd_T54 y237 x12_2).f1)) ∧ w45.cell? ⟨(ad240.add ((x12_2).toNat * 3)).block, (ad240.add ((x12_2).toNat * 3)).off + 2, none⟩ = some (.int .i16 ((rd_T54 y237 x12_2).f2)) ∧ w45.cell? (ad240.add ((x12_2).toNat * 3)) = some (.int .u8 ((rd_T54 y237 x12_2).f0)) ∧ w45.cell? ⟨(ad240.add ((x12_2).toNat * 3)).block, (ad240.add ((x12_2).toNat * 3)).off + 1, none⟩ = some (.int .i16 ((rd_T54 y237 x12_2).f1)) ∧ w45.cell? ⟨(ad240.add ((x12_2).toNat * 3)).block, (ad240.add ((x12_2).toNat * 3)).off + 2, none⟩ = some (.int .i16 ((rd_T54 y237 x12_2).f2)) := hS_
             refine norm_ (a' := ?_) ?_ ?_
             rotate_left
             ·
              simp only [putAll, Act.put, List.setIfInBounds_toArray, List.set_cons_zero, List.set_cons_succ]
              rfl
             refine one_ (i := 19) (N := none) #[true, true, true, true, true, true, true, true, true, true, true, true, true, true, true, true, true, true, true, true, false] rfl rfl (one_of HT_.out (by kernel_rfl)) (by decide) (fun K hK => ?_)
             have hs46 : w45.cell? ⟨gb258, 0, none⟩ = some (.int .i64 0) := (blk_cell BK258.out 0).trans rfl
             have hfs46 := blk_frozen BK258.out 0
             have hns46_0 := NB230_258.out
             have hms46_0 := NB258_230.out
             have hs47 : w45.cell? ⟨gb258, 1, none⟩ = some (.int .i64 0) := (blk_cell BK258.out 1).trans rfl
             have hfs47 := blk_frozen BK258.out 1
             have hns47_0 := NB230_258.out
             have hms47_0 := NB258_230.out
             have hs48 : w45.cell? ⟨gb258, 2, none⟩ = some (.int .i64 0) := (blk_cell BK258.out 2).trans rfl
             have hfs48 := blk_frozen BK258.out 2
             have hns48_0 := NB230_258.out
             have hms48_0 := NB258_230.out
             have hs49 : w45.cell? ⟨gb258, 3, none⟩ = some (.int .i64 0) := (blk_cell BK258.out 3).trans rfl
             have hfs49 := blk_frozen BK258.out 3
             have hns49_0 := NB230_258.out
             have hms49_0 := NB258_230.out
             have hs50 : w45.cell? ⟨gb258, 4, none⟩ = some (.bool false) := (blk_cell BK258.out 4).trans rfl
             have hfs50 := blk_frozen BK258.out 4
             have hns50_0 := NB230_258.out
             have hms50_0 := NB258_230.out
             refine skip_ (w1 := ?_) (by rfl) rfl ?_ ?_
             rotate_left
             ·
              go_simp
              rfl
             refine hK.out _ _ ⟨((cell_far5 (g := gb258) NB230_258.out).trans (hHeld.1)), ((cell_far5 (g := gb258) NB230_258.out).trans (hHeld.2.1)), ((cell_far5 (g := gb258) NB230_258.out).trans (hHeld.2.2.1)), ((cell_far5 (g := gb258) NB230_258.out).trans (hHeld.2.2.2.1)), ((cell_far5 (g := gb258) NB230_258.out).trans (hHeld.2.2.2.2.1)), ((cell_far5 (g := gb258) (by first | exact Kd.own_blk (Kd.R_ne HO_11.out BK258.out (by decide)) | (rw [add_block]; exact Kd.own_blk (Kd.R_ne HO_11.out BK258.out (by decide))) | (show (Addr.add _ _).block ≠ _; rw [add_block]; exact Kd.own_blk (Kd.R_ne HO_11.out BK258.out (by decide))) | (dsimp only; exact Kd.own_blk (Kd.R_ne HO_11.out BK258.out (by decide))))).trans (hHeld.2.2.2.2.2.1)), ((cell_far5 (g := gb258) (by first | exact Kd.own_blk (Kd.R_ne HO_11.out BK258.out (by decide)) | (rw [add_block]; exact Kd.own_blk (Kd.R_ne HO_11.out BK258.out (by decide))) | (show (Addr.add _ _).block ≠ _; rw [add_block]; exact Kd.own_blk (Kd.R_ne HO_11.out BK258.out (by decide))) | (dsimp only; exact Kd.own_blk (Kd.R_ne HO_11.out BK258.out (by decide))))).trans (hHeld.2.2.2.2.2.2.1)), ((cell_far5 (g := gb258) (by first | exact Kd.own_blk (Kd.R_ne HO_11.out BK258.out (by decide)) | (rw [add_block]; exact Kd.own_blk (Kd.R_ne HO_11.out BK258.out (by decide))) | (show (Addr.add _ _).block ≠ _; rw [add_block]; exact Kd.own_blk (Kd.R_ne HO_11.out BK258.out (by decide))) | (dsimp only; exact Kd.own_blk (Kd.R_ne HO_11.out BK258.out (by decide))))).trans (hHeld.2.2.2.2.2.2.2.1)), ((cell_far5 (g := gb258) (by first | exact Kd.own_blk (Kd.R_ne HO_11.out BK258.out (by decide)) | (rw [add_block]; exact Kd.own_blk (Kd.R_ne HO_11.out BK258.out (by decide))) | (show (Addr.add _ _).block ≠ _; rw [add_block]; exact Kd.own_blk (Kd.R_ne HO_11.out BK258.out (by decide))) | (dsimp only; exact Kd.own_blk (Kd.R_ne HO_11.out BK258.out (by decide))))).trans (hHeld.2.2.2.2.2.2.2.2.1)), ((cell_far5 (g := gb258) (by first | exact Kd.own_blk (Kd.R_ne HO_11.out BK258.out (by decide)) | (rw [add_block]; exact Kd.own_blk (Kd.R_ne HO_11.out BK258.out (by decide))) | (show (Addr.add _ _).block ≠ _; rw [add_block]; exact Kd.own_blk (Kd.R_ne HO_11.out BK258.out (by decide))) | (dsimp only; exact Kd.own_blk (Kd.R_ne HO_11.out BK258.out (by decide))))).trans (hHeld.2.2.2.2.2.2.2.2.2.1)), ((cell_far5 (g := gb258) (by first | exact Kd.own_blk (Kd.R_ne HO_11.out BK258.out (by decide)) | (rw [add_block]; exact Kd.own_blk (Kd.R_ne HO_11.out BK258.out (by decide))) | (show (Addr.add _ _).block ≠ _; rw [add_block]; exact Kd.own_blk (Kd.R_ne HO_11.out BK258.out (by decide))) | (dsimp only; exact Kd.own_blk (Kd.R_ne HO_11.out BK258.out (by decide))))).trans (hHeld.2.2.2.2.2.2.2.2.2.2))⟩ (fun hHeld => ?_)
             clear hK K
             refine pure_ (i := 20) (N := some 15) (v := ?_) (a' := ?_) #[true, true, true, true, true, true, true, true, true, true, true, true, true, true, true, true, true, true, true, true, true] rfl rfl (any_of HT_.out (by kernel_rfl)) (fun _ _ _ h => h) (Or.inl ⟨by rfl, ?_⟩) ?_ ?_
             rotate_left
             ·
              intro w'
              go_simp
              with_reducible rfl
             rotate_left
             ·
              simp only [Act.put, List.setIfInBounds_toArray, List.set_cons_zero, List.set_cons_succ, i64_w, i32_w]
              rfl
             refine done_ (done_of HT_.out (by kernel_rfl)) ?_
             have hnb51 := NB258_230.out
             have hnc51 := NB230_258.out
             have hcz52_0 : w45.cell? ⟨gb258, 0, none⟩ = some (.int .i64 0) := (blk_cell BK258.out 0).trans rfl
             have hcz52_1 : w45.cell? ⟨gb258, 1, none⟩ = some (.int .i64 0) := (blk_cell BK258.out 1).trans rfl
             have hcz52_2 : w45.cell? ⟨gb258, 2, none⟩ = some (.int .i64 0) := (blk_cell BK258.out 2).trans rfl
             have hcz52_3 : w45.cell? ⟨gb258, 3, none⟩ = some (.int .i64 0) := (blk_cell BK258.out 3).trans rfl
             have hcz52_4 : w45.cell? ⟨gb258, 4, none⟩ = some (.bool false) := (blk_cell BK258.out 4).trans rfl
             have hfz52_0 := blk_frozen BK258.out 0
             have hfz52_1 := blk_frozen BK258.out 1
             have hfz52_2 := blk_frozen BK258.out 2
             have hfz52_3 := blk_frozen BK258.out 3
             have hfz52_4 := blk_frozen BK258.out 4
             have hcz53_0 : w45.cell? ⟨gb230, 0, none⟩ = some (.int .i64 x231000_2) := (blk_cell BK230.out 0).trans rfl
             have hcz53_1 : w45.cell? ⟨gb230, 1, none⟩ = some (.int .i64 x231001_2) := (blk_cell BK230.out 1).trans rfl
             have hcz53_2 : w45.cell? ⟨gb230, 2, none⟩ = some (.int .i64 x231002_2) := (blk_cell BK230.out 2).trans rfl
             have hcz53_3 : w45.cell? ⟨gb230, 3, none⟩ = some (.int .i64 x231003_2) := (blk_cell BK230.out 3).trans rfl
             have hcz53_4 : w45.cell? ⟨gb230, 4, none⟩ = some (.bool x231004_2) := (blk_cell BK230.out 4).trans rfl
             have hfz53_0 := blk_frozen BK230.out 0
             have hfz53_1 := blk_frozen BK230.out 1
             have hfz53_2 := blk_frozen BK230.out 2
             have hfz53_3 := blk_frozen BK230.out 3
             have hfz53_4 := blk_frozen BK230.out 4
             try go_wp2
             go_roundg k2
             case measure => have := HJ4.out; have := HK2.out; omega
             case rel => exact ⟨(0), (false), (wrap64 (x12_2 + 1)), (t252), (t253), (t254), (t255), (t256), (by first | rfl | (simp; done) | (simp [*]; done)), (by first | rfl | (simp; done) | (simp [*]; done)), (by first | rfl | (simp; done) | (simp [*]; done)), H', ⟨by have := HJ4.out; have := HK2.out; omega⟩, ⟨by (with_reducible repeat (first | apply Kd.R_alloc | apply Kd.R_drewN | apply Kd.R_drew)); exact Kd.R_mono (Kd.R_far (p := ⟨gb230, 4, none⟩) (Kd.R_far (p := ⟨gb230, 3, none⟩) (Kd.R_far (p := ⟨gb230, 2, none⟩) (Kd.R_far (p := ⟨gb230, 1, none⟩) (Kd.R_far (p := ⟨gb230, 0, none⟩) (Kd.R_far (p := ⟨gb258, 4, none⟩) (Kd.R_far (p := ⟨gb258, 3, none⟩) (Kd.R_far (p := ⟨gb258, 2, none⟩) (Kd.R_far (p := ⟨gb258, 1, none⟩) (Kd.R_far (p := ⟨gb258, 0, none⟩) (Kd.R_types (Kd.R_types HO_11.out BK258.out (by decide)) BK230.out (by decide)) (fun _ hk => hk.1.2) (.int .i64 t252)) (fun _ hk => hk.1.2) (.int .i64 t253)) (fun _ hk => hk.1.2) (.int .i64 t254)) (fun _ hk => hk.1.2) (.int .i64 t255)) (fun _ hk => hk.1.2) (.bool t256)) (fun _ hk => hk.2) (.int .i64 t252)) (fun _ hk => hk.2) (.int .i64 t253)) (fun _ hk => hk.2) (.int .i64 t254)) (fun _ hk => hk.2) (.int .i64 t255)) (fun _ hk => hk.2) (.bool t256)) (fun _ hk => trivial)⟩, ⟨by (with_reducible repeat (first | refine blk_drewN ?_ _ | refine blk_drew ?_ | refine blk_alloc ?_ _)); refine blk_put (cs := #[.int .i64 t252, .int .i64 t253, .int .i64 t254, .int .i64 t255, .bool x231004_2]) ?_ 4 _ rfl; (with_reducible repeat (first | refine blk_drewN ?_ _ | refine blk_drew ?_ | refine blk_alloc ?_ _)); refine blk_put (cs := #[.int .i64 t252, .int .i64 t253, .int .i64 t254, .int .i64 x231003_2, .bool x231004_2]) ?_ 3 _ rfl; (with_reducible repeat (first | refine blk_drewN ?_ _ | refine blk_drew ?_ | refine blk_alloc ?_ _)); refine blk_put (cs := #[.int .i64 t252, .int .i64 t253, .int .i64 x231002_2, .int .i64 x231003_2, .bool x231004_2]) ?_ 2 _ rfl; (with_reducible repeat (first | refine blk_drewN ?_ _ | refine blk_drew ?_ | refine blk_alloc ?_ _)); refine blk_put (cs := #[.int .i64 t252, .int .i64 x231001_2, .int .i64 x231002_2, .int .i64 x231003_2, .bool x231004_2]) ?_ 1 _ rfl; (with_reducible repeat (first | refine blk_drewN ?_ _ | refine blk_drew ?_ | refine blk_alloc ?_ _)); refine blk_put (cs := #[.int .i64 x231000_2, .int .i64 x231001_2, .int .i64 x231002_2, .int .i64 x231003_2, .bool x231004_2]) ?_ 0 _ rfl; (with_reducible repeat (first | refine blk_drewN ?_ _ | refine blk_drew ?_ | refine blk_alloc ?_ _)); refine blk_far ?_ NB230_258.out _; (with_reducible repeat (first | refine blk_drewN ?_ _ | refine blk_drew ?_ | refine blk_alloc ?_ _)); refine blk_far ?_ NB230_258.out _; (with_reducible repeat (first | refine blk_drewN ?_ _ | refine blk_drew ?_ | refine blk_alloc ?_ _)); refine blk_far ?_ NB230_258.out _; (with_reducible repeat (first | refine blk_drewN ?_ _ | refine blk_drew ?_ | refine blk_alloc ?_ _)); refine blk_far ?_ NB230_258.out _; (with_reducible repeat (first | refine blk_drewN ?_ _ | refine blk_drew ?_ | refine blk_alloc ?_ _)); refine blk_far ?_ NB230_258.out _; (with_reducible repeat (first | refine blk_drewN ?_ _ | refine blk_drew ?_ | refine blk_alloc ?_ _)); exact BK230.out⟩, ⟨by repeat (first | (with_reducible first | exact HB.out | apply below_alloc | apply pw_below_drewN | apply below_drew1 | refine below_set ?_ GE230.out | refine below_set ?_ GE258.out) | exact HB.out)⟩⟩
          ·
           rw [if_neg c21] at H
           have c21b0 : ((Int.tmod (wrap64 ((rd_T54 y237 x12_2).f0)) 4) == 1) = false := beq_eq_false_iff_ne.mpr c21
           have c21b1 : ((Int.tmod (wrap64 ((rd_T54 y237 x12_2).f0)) 4) != 1) = true := bne_iff_ne.mpr c21
           by_cases c54 : x10_2 = true
           ·
            subst c54
            have H1 : ((servo_Step.f x231000_2 x231001_2 x231002_2 x231003_2 x231004_2 (Int.tmod (wrap64 ((rd_T54 y237 x12_2).f0)) 4) (wrap64 ((rd_T54 y237 x12_2).f1)) (wrap64 ((rd_T54 y237 x12_2).f2))).bind fun bt261 => (if (bt261.2.2.2.2.1 != true) = true then (some false) else (if bt261.2.2.2.2.2 = 0 then (ambidexterlaw25_ServoLost.l0 k2 true (wrap64 (x9_2 + 1)) true y237 (wrap64 (x12_2 + 1)) bt261.1 bt261.2.1 bt261.2.2.1 bt261.2.2.2.1 bt261.2.2.2.2.1) else (some false)))) = some r := by rw [if_pos rfl] at H; exact H
            clear H
            have H := H1
            clear H1
            replace H := Option.bind_eq_some_iff.mp H
            obtain ⟨⟨t261, t262, t263, t264, t265, t266⟩, A550, H⟩ := H
            replace H : (if (t265 != true) = true then (some false) else (if t266 = 0 then (ambidexterlaw25_ServoLost.l0 k2 true (wrap64 (x9_2 + 1)) true y237 (wrap64 (x12_2 + 1)) t261 t262 t263 t264 t265) else (some false))) = some r := H
            have A55 := Aside0.mk A550
            clear A550
            by_cases c56 : (t265 != true) = true
            ·
             rw [if_pos c56] at H
             have c56b0 : (t265 != true) = true := c56
             (try (have c56b1 : decide (t265 = true) = false := by simpa using c56))
             (try (have c56b2 : (t265 == true) = false := by simpa using c56))
             (try (have c56b3 : ¬ (t265 = true) := by simpa using c56))
             clear c56
             exact absurd HT.out (by rw [← Option.some.inj H]; decide)
            ·
             rw [if_neg c56] at H
             have c56b0 : (t265 != true) = false := by simpa using c56
             (try (have c56b1 : decide (t265 = true) = true := by simpa using c56))
             (try (have c56b2 : (t265 == true) = true := by simpa using c56))
             clear c56
             by_cases c57 : t266 = 0
             ·
              rw [if_pos c57] at H
              have c57b0 : (t266 == 0) = true := beq_iff_eq.mpr c57
              have c57b1 : (t266 != 0) = false := bne_eq_false_iff_eq.mpr c57
              clear c57
              have H' := Aside0.mk H
              clear H
              obtain ⟨Ao58, co58, eo58⟩ := Kd.R_slice HO_11.out
              subst eo58
              have p240 : 0 ≤ (x12_2 : Int) := of_decide_eq_true (by first | (with_reducible assumption) | assumption)
              have q240 : x12_2 < (y237.length : Int) := of_decide_eq_true (by first | (with_reducible assumption) | assumption)
              obtain ⟨ad240, e240, hx240_0, hx240_1, hx240_2⟩ := at_T54 (Kd.R_reads' HO_11.out).2.2 x12_2 p240 q240
              cases e240
              replace p240 := eq_true p240
              replace q240 := eq_true q240
              try go_wp2
              have n0_ := Aside0.mk (Kd.R_drew HO_11.out)
              have n1_ := Aside0.mk (blk_drew BK230.out)
              have n2_ := Aside0.mk (below_drew1 HB.out)
              clear HO_11
              clear BK230
              clear HB
              have HO_11 := n0_
              have BK230 := n1_
              have HB := n2_
              clear n0_ n1_ n2_
              have p259 : 0 ≤ (x12_2 : Int) := of_decide_eq_true (by first | (with_reducible assumption) | assumption)
              have q259 : x12_2 < (y237.length : Int) := of_decide_eq_true (by first | (with_reducible assumption) | assumption)
              obtain ⟨ad259, e259, hx259_0, hx259_1, hx259_2⟩ := at_T54 (Kd.R_reads' HO_11.out).2.2 x12_2 p259 q259
              obtain rfl : ad240 = ad259 := (by injection e259)
              replace p259 := eq_true p259
              replace q259 := eq_true q259
              have p260 : 0 ≤ (x12_2 : Int) := of_decide_eq_true (by first | (with_reducible assumption) | assumption)
              have q260 : x12_2 < (y237.length : Int) := of_decide_eq_true (by first | (with_reducible assumption) | assumption)
              obtain ⟨ad260, e260, hx260_0, hx260_1, hx260_2⟩ := at_T54 (Kd.R_reads' HO_11.out).2.2 x12_2 p260 q260
              obtain rfl : ad240 = ad260 := (by injection e260)
              replace p260 := eq_true p260
              replace q260 := eq_true q260
              refine start_ (n := 21) (S := fun w' => w'.cell? ⟨gb230, 0, none⟩ = some (.int .i64 x231000_2) ∧ w'.cell? ⟨gb230, 1, none⟩ = some (.int .i64 x231001_2) ∧ w'.cell? ⟨gb230, 2, none⟩ = some (.int .i64 x231002_2) ∧ w'.cell? ⟨gb230, 3, none⟩ = some (.int .i64 x231003_2) ∧ w'.cell? ⟨gb230, 4, none⟩ = some (.bool x231004_2) ∧ w'.cell? (ad240.add ((x12_2).toNat * 3)) = some (.int .u8 ((rd_T54 y237 x12_2).f0)) ∧ w'.cell? ⟨(ad240.add ((x12_2).toNat * 3)).block, (ad240.add ((x12_2).toNat * 3)).off + 1, none⟩ = some (.int .i16 ((rd_T54 y237 x12_2).f1)) ∧ w'.cell? ⟨(ad240.add ((x12_2).toNat * 3)).block, (ad240.add ((x12_2).toNat * 3)).off + 2, none⟩ = some (.int .i16 ((rd_T54 y237 x12_2).f2)) ∧ w'.cell? (ad240.add ((x12_2).toNat * 3)) = some (.int .u8 ((rd_T54 y237 x12_2).f0)) ∧ w'.cell? ⟨(ad240.add ((x12_2).toNat * 3)).block, (ad240.add ((x12_2).toNat * 3)).off + 1, none⟩ = some (.int .i16 ((rd_T54 y237 x12_2).f1)) ∧ w'.cell? ⟨(ad240.add ((x12_2).toNat * 3)).block, (ad240.add ((x12_2).toNat * 3)).off + 2, none⟩ = some (.int .i16 ((rd_T54 y237 x12_2).f2))) (ds := []) #[false, false, false, false, false, false, false, false, false, false, false, false, false, false, false, false, false, false, false, false, false] (by kernel_rfl) rfl rfl ⟨(blk_cell BK230.out 0).trans rfl, (blk_cell BK230.out 1).trans rfl, (blk_cell BK230.out 2).trans rfl, (blk_cell BK230.out 3).trans rfl, (blk_cell BK230.out 4).trans rfl, hx259_0, hx259_1, hx259_2, hx260_0, hx260_1, hx260_2⟩ (fun hHeld => ?_); refine with_tabW ambidexterlaw25_ServoLost.tab16 ambidexterlaw25_ServoLost.bits16 (fun HT_ HW_ => ?_)
              generalize wr.drew = w59 at HO_11 BK230 HB hx259_0 hx259_1 hx259_2 hx260_0 hx260_1 hx260_2 hHeld ⊢
              refine pure_ (i := 1) (N := some 58) (v := ?_) (a' := ?_) #[false, true, false, false, false, false, false, false, false, false, false, false, false, false, false, false, false, false, false, false, false] rfl rfl (any_of HT_.out (by kernel_rfl)) (fun _ _ _ h => h) (Or.inl ⟨by rfl, ?_⟩) ?_ ?_
              rotate_left
              ·
               intro w'
               go_simp
               with_reducible rfl
              rotate_left
              ·
               simp only [Act.put, List.setIfInBounds_toArray, List.set_cons_zero, List.set_cons_succ, i64_w, i32_w]
               rfl
              refine pure_ (i := 2) (N := some 59) (v := ?_) (a' := ?_) #[false, true, true, false, false, false, false, false, false, false, false, false, false, false, false, false, false, false, false, false, false] rfl rfl (any_of HT_.out (by kernel_rfl)) (fun _ _ _ h => h) (Or.inl ⟨by rfl, ?_⟩) ?_ ?_
              rotate_left
              ·
               intro w'
               go_simp
               with_reducible rfl
              rotate_left
              ·
               simp only [Act.put, List.setIfInBounds_toArray, List.set_cons_zero, List.set_cons_succ, i64_w, i32_w]
               rfl
              refine pure_ (i := 3) (N := some 60) (v := ?_) (a' := ?_) #[false, true, true, true, false, false, false, false, false, false, false, false, false, false, false, false, false, false, false, false, false] rfl rfl (any_of HT_.out (by kernel_rfl)) (fun _ _ _ h => h) (Or.inl ⟨by rfl, ?_⟩) ?_ ?_
              rotate_left
              ·
               intro w'
               go_simp
               with_reducible rfl
              rotate_left
              ·
               simp only [Act.put, List.setIfInBounds_toArray, List.set_cons_zero, List.set_cons_succ, i64_w, i32_w]
               rfl
              refine pure_ (i := 4) (N := some 61) (v := ?_) (a' := ?_) #[false, true, true, true, true, false, false, false, false, false, false, false, false, false, false, false, false, false, false, false, false] rfl rfl (any_of HT_.out (by kernel_rfl)) (fun _ _ _ h => h) (Or.inl ⟨by rfl, ?_⟩) ?_ ?_
              rotate_left
              ·
               intro w'
               go_simp
               with_reducible rfl
              rotate_left
              ·
               simp only [Act.put, List.setIfInBounds_toArray, List.set_cons_zero, List.set_cons_succ, i64_w, i32_w]
               rfl
              refine pure_ (i := 5) (N := some 62) (v := ?_) (a' := ?_) #[false, true, true, true, true, true, false, false, false, false, false, false, false, false, false, false, false, false, false, false, false] rfl rfl (any_of HT_.out (by kernel_rfl)) (fun _ _ _ h => h) (Or.inl ⟨by rfl, ?_⟩) ?_ ?_
              rotate_left
              ·
               intro w'
               go_simp
               with_reducible rfl
              rotate_left
              ·
               simp only [Act.put, List.setIfInBounds_toArray, List.set_cons_zero, List.set_cons_succ, i64_w, i32_w]
               rfl
              refine pure_ (i := 8) (N := some 65) (v := ?_) (a' := ?_) #[false, true, true, true, true, true, false, false, true, false, false, false, false, false, false, false, false, false, false, false, false] rfl rfl (any_of HT_.out (by kernel_rfl)) (fun _ _ _ h => h) (Or.inl ⟨by rfl, ?_⟩) ?_ ?_
              rotate_left
              ·
               intro w'
               go_simp
               with_reducible rfl
              rotate_left
              ·
               simp only [Act.put, List.setIfInBounds_toArray, List.set_cons_zero, List.set_cons_succ, i64_w, i32_w]
               rfl
              refine pure_ (i := 9) (N := some 66) (v := ?_) (a' := ?_) #[false, true, true, true, true, true, false, false, true, true, false, false, false, false, false, false, false, false, false, false, false] rfl rfl (any_of HT_.out (by kernel_rfl)) (fun _ _ _ h => h) (Or.inl ⟨by rfl, ?_⟩) ?_ ?_
              rotate_left
              ·
               intro w'
               go_simp
               with_reducible rfl
              rotate_left
              ·
               simp only [Act.put, List.setIfInBounds_toArray, List.set_cons_zero, List.set_cons_succ, i64_w, i32_w]
               rfl
              refine pure_ (i := 10) (N := some 67) (v := ?_) (a' := ?_) #[false, true, true, true, true, true, false, false, true, true, true, false, false, false, false, false, false, false, false, false, false] rfl rfl (any_of HT_.out (by kernel_rfl)) (fun _ _ _ h => h) (Or.inl ⟨by rfl, ?_⟩) ?_ ?_
              rotate_left
              ·
               intro w'
               go_simp
               with_reducible rfl
              rotate_left
              ·
               simp only [Act.put, List.setIfInBounds_toArray, List.set_cons_zero, List.set_cons_succ, i64_w, i32_w]
               rfl
              refine pure_ (i := 11) (N := some 68) (v := ?_) (a' := ?_) #[false, true, true, true, true, true, false, false, true, true, true, true, false, false, false, false, false, false, false, false, false] rfl rfl (any_of HT_.out (by kernel_rfl)) (fun _ _ _ h => h) (Or.inl ⟨by rfl, ?_⟩) ?_ ?_
              rotate_left
              ·
               intro w'
               go_simp
               with_reducible rfl
              rotate_left
              ·
               simp only [Act.put, List.setIfInBounds_toArray, List.set_cons_zero, List.set_cons_succ, i64_w, i32_w]
               rfl
              refine take_ (i := 0) (N := some 57) (v := ?_) (a' := ?_) #[true, true, true, true, true, true, false, false, true, true, true, true, false, false, false, false, false, false, false, false, false] rfl rfl (take_ofW HT_.out HW_.out (by kernel_rfl)) (fun _ _ _ h => h) (Or.inl ⟨by rfl, ?_⟩) hHeld ?_ ?_
              rotate_left
              ·
               rintro w' ⟨s0, s1, s2, s3, s4, s5, s6, s7, s8, s9, s10⟩
               go_simp
               with_reducible rfl
              rotate_left
              ·
               simp only [Act.put, List.setIfInBounds_toArray, List.set_cons_zero, List.set_cons_succ, i64_w, i32_w]
               rfl
              refine take_ (i := 6) (N := some 63) (v := ?_) (a' := ?_) #[true, true, true, true, true, true, true, false, true, true, true, true, false, false, false, false, false, false, false, false, false] rfl rfl (take_ofW HT_.out HW_.out (by kernel_rfl)) (fun _ _ _ h => h) (Or.inl ⟨by rfl, ?_⟩) hHeld ?_ ?_
              rotate_left
              ·
               rintro w' ⟨s0, s1, s2, s3, s4, s5, s6, s7, s8, s9, s10⟩
               go_simp
               with_reducible rfl
              rotate_left
              ·
               simp only [Act.put, List.setIfInBounds_toArray, List.set_cons_zero, List.set_cons_succ, i64_w, i32_w]
               rfl
              refine pure_ (i := 7) (N := some 64) (v := ?_) (a' := ?_) #[true, true, true, true, true, true, true, true, true, true, true, true, false, false, false, false, false, false, false, false, false] rfl rfl (any_of HT_.out (by kernel_rfl)) (fun _ _ _ h => h) (Or.inl ⟨by rfl, ?_⟩) ?_ ?_
              rotate_left
              ·
               intro w'
               go_simp
               with_reducible rfl
              rotate_left
              ·
               simp only [Act.put, List.setIfInBounds_toArray, List.set_cons_zero, List.set_cons_succ, i64_w, i32_w]
               rfl
              refine take_ (i := 12) (N := some 69) (v := ?_) (a' := ?_) #[true, true, true, true, true, true, true, true, true, true, true, true, true, false, false, false, false, false, false, false, false] rfl rfl (take_ofW HT_.out HW_.out (by kernel_rfl)) (fun _ _ _ h => h) (Or.inl ⟨by rfl, ?_⟩) hHeld ?_ ?_
              rotate_left
              ·
               rintro w' ⟨s0, s1, s2, s3, s4, s5, s6, s7, s8, s9, s10⟩
               go_simp
               with_reducible rfl
              rotate_left
              ·
               simp only [Act.put, List.setIfInBounds_toArray, List.set_cons_zero, List.set_cons_succ, i64_w, i32_w]
               rfl
              refine pure_ (i := 13) (N := some 70) (v := ?_) (a' := ?_) #[true, true, true, true, true, true, true, true, true, true, true, true, true, true, false, false, false, false, false, false, false] rfl rfl (any_of HT_.out (by kernel_rfl)) (fun _ _ _ h => h) (Or.inl ⟨by rfl, ?_⟩) ?_ ?_
              rotate_left
              ·
               intro w'
               go_simp
               with_reducible rfl
              rotate_left
              ·
               simp only [Act.put, List.setIfInBounds_toArray, List.set_cons_zero, List.set_cons_succ, i64_w, i32_w]
               rfl
              refine join_ (σ := Nat) 2 #[true, true, true, true, true, true, true, true, true, true, true, true, true, true, true, true, true, true, true, false, false] (fun s_ => [(71, .tuple #[.agg #[.int .i64 t261, .int .i64 t262, .int .i64 t263, .int .i64 t264, .bool t265], .int .i64 t266]), (14, .pointer (some ⟨s_, 0, none⟩)), (56, .tuple #[.agg #[.int .i64 t261, .int .i64 t262, .int .i64 t263, .int .i64 t264, .bool t265], .int .i64 t266]), (72, .agg #[.int .i64 t261, .int .i64 t262, .int .i64 t263, .int .i64 t264, .bool t265]), (73, .int .i64 t266)]) (fun s_ w' => (w'.cell? ⟨gb230, 0, none⟩ = some (.int .i64 x231000_2) ∧ w'.cell? ⟨gb230, 1, none⟩ = some (.int .i64 x231001_2) ∧ w'.cell? ⟨gb230, 2, none⟩ = some (.int .i64 x231002_2) ∧ w'.cell? ⟨gb230, 3, none⟩ = some (.int .i64 x231003_2) ∧ w'.cell? ⟨gb230, 4, none⟩ = some (.bool x231004_2) ∧ w'.cell? (ad240.add ((x12_2).toNat * 3)) = some (.int .u8 ((rd_T54 y237 x12_2).f0)) ∧ w'.cell? ⟨(ad240.add ((x12_2).toNat * 3)).block, (ad240.add ((x12_2).toNat * 3)).off + 1, none⟩ = some (.int .i16 ((rd_T54 y237 x12_2).f1)) ∧ w'.cell? ⟨(ad240.add ((x12_2).toNat * 3)).block, (ad240.add ((x12_2).toNat * 3)).off + 2, none⟩ = some (.int .i16 ((rd_T54 y237 x12_2).f2)) ∧ w'.cell? (ad240.add ((x12_2).toNat * 3)) = some (.int .u8 ((rd_T54 y237 x12_2).f0)) ∧ w'.cell? ⟨(ad240.add ((x12_2).toNat * 3)).block, (ad240.add ((x12_2).toNat * 3)).off + 1, none⟩ = some (.int .i16 ((rd_T54 y237 x12_2).f1)) ∧ w'.cell? ⟨(ad240.add ((x12_2).toNat * 3)).block, (ad240.add ((x12_2).toNat * 3)).off + 2, none⟩ = some (.int .i16 ((rd_T54 y237 x12_2).f2))) ∧ (Kd.R k54 54 w' w.heap.size (fun _ => True) (.slice (some ad240) y237.length co58) y237) ∧ (w'.heap[gb230]? = some (.cells #[.int .i64 x231000_2, .int .i64 x231001_2, .int .i64 x231002_2, .int .i64 x231003_2, .bool x231004_2] 49 (0, 0))) ∧ (w'.heap[s_]? = some (.cells #[.int .i64 0, .int .i64 0, .int .i64 0, .int .i64 0, .bool false] 49 (0, 0))) ∧ (w.heap.size ≤ s_) ∧ (w.heap.size ≤ s_) ∧ (gb230 ≠ s_) ∧ (s_ ≠ gb230) ∧ (Below w.heap.size w w')) ?_ ?_
              rotate_left
              ·
               intro hCont
               refine two_ (i := 14) (j := 18) (Ni := some 71) (Nj := some 14) #[true, true, true, true, true, true, true, true, true, true, true, true, true, true, true, false, false, false, false, false, false] #[true, true, true, true, true, true, true, true, true, true, true, true, true, true, false, false, false, false, true, false, false] rfl rfl rfl rfl (two_of HT_.out (by kernel_rfl)) (by decide) (by decide) (fun K hK => ?_) (fun K hK => ?_)
               ·
                skip
                refine goes_ Try.func32 (by kernel_rfl) rfl #[.agg #[.int .i64 x231000_2, .int .i64 x231001_2, .int .i64 x231002_2, .int .i64 x231003_2, .bool x231004_2], .int .i64 (Int.tmod (wrap64 ((rd_T54 y237 x12_2).f0)) 4), .int .i64 (wrap64 ((rd_T54 y237 x12_2).f1)), .int .i64 (wrap64 ((rd_T54 y237 x12_2).f2))] (by rfl) rfl rfl (by (try simp only [List.map_toArray, List.map_cons, List.map_nil]); first | done | rfl | (simp only [List.length_drop, List.length_take]; rfl)) ?_
                with_reducible refine (servo_Step.calls x231000_2 x231001_2 x231002_2 x231003_2 x231004_2 (Int.tmod (wrap64 ((rd_T54 y237 x12_2).f0)) 4) (wrap64 ((rd_T54 y237 x12_2).f1)) (wrap64 ((rd_T54 y237 x12_2).f2)) t261 t262 t263 t264 t265 t266 _ A55.out).mono ?_
                rintro e w60 ⟨rfl, hb⟩
                have HS5_ := (hb.cell (World.block_lt_of_cell? _ _ (hHeld.2.2.2.2.2.1))).trans (hHeld.2.2.2.2.2.1)
                have HS6_ := (hb.cell (World.block_lt_of_cell? _ _ (hHeld.2.2.2.2.2.2.1))).trans (hHeld.2.2.2.2.2.2.1)
                have HS7_ := (hb.cell (World.block_lt_of_cell? _ _ (hHeld.2.2.2.2.2.2.2.1))).trans (hHeld.2.2.2.2.2.2.2.1)
                have HS8_ := (hb.cell (World.block_lt_of_cell? _ _ (hHeld.2.2.2.2.2.2.2.2.1))).trans (hHeld.2.2.2.2.2.2.2.2.1)
                have HS9_ := (hb.cell (World.block_lt_of_cell? _ _ (hHeld.2.2.2.2.2.2.2.2.2.1))).trans (hHeld.2.2.2.2.2.2.2.2.2.1)
                have HS10_ := (hb.cell (World.block_lt_of_cell? _ _ (hHeld.2.2.2.2.2.2.2.2.2.2))).trans (hHeld.2.2.2.2.2.2.2.2.2.2)
                refine ⟨_, rfl, ?_⟩
                have n0_ := Aside0.mk (Kd.R_below (by (with_reducible repeat (first | apply Kd.R_alloc | apply Kd.R_drewN | apply Kd.R_drew)); exact HO_11.out) hb)
                have n1_ := Aside0.mk (blk_below (g := gb230) (o := .cells #[.int .i64 x231000_2, .int .i64 x231001_2, .int .i64 x231002_2, .int .i64 x231003_2, .bool x231004_2] 49 (0, 0)) (by (with_reducible repeat (first | refine blk_drewN ?_ _ | refine blk_drew ?_ | refine blk_alloc ?_ _)); exact BK230.out) hb)
                have n2_ := Aside0.mk (below_step (by repeat (first | (with_reducible first | exact HB.out | apply below_alloc | apply pw_below_drewN | apply below_drew1 | refine below_set ?_ GE230.out) | exact HB.out)) hb)
                clear HO_11
                clear BK230
                clear HB
                have HO_11 := n0_
                have BK230 := n1_
                have HB := n2_
                clear n0_ n1_ n2_
                (try clear hb)
                (try clear hb2)
                (try clear hk)
                (try clear hi)
                refine hK.out _ _ ⟨(blk_cell BK230.out 0).trans rfl, (blk_cell BK230.out 1).trans rfl, (blk_cell BK230.out 2).trans rfl, (blk_cell BK230.out 3).trans rfl, (blk_cell BK230.out 4).trans rfl, HS5_, HS6_, HS7_, HS8_, HS9_, HS10_⟩ (fun hHeld => ?_)
                clear hK K
                refine norm_ (a' := ?_) ?_ ?_
                rotate_left
                ·
                 show Act.put _ (some 71) _ = _
                 simp only [Act.put, List.setIfInBounds_toArray, List.set_cons_zero, List.set_cons_succ, i64_w, i32_w]
                 rfl
                refine pure_ (i := 15) (N := some 56) (v := ?_) (a' := ?_) #[true, true, true, true, true, true, true, true, true, true, true, true, true, true, true, true, false, false, false, false, false] rfl rfl (any_of HT_.out (by kernel_rfl)) (fun _ _ _ h => h) (Or.inl ⟨by rfl, ?_⟩) ?_ ?_
                rotate_left
                ·
                 intro w'
                 go_simp
                 with_reducible rfl
                rotate_left
                ·
                 simp only [Act.put, List.setIfInBounds_toArray, List.set_cons_zero, List.set_cons_succ, i64_w, i32_w]
                 rfl
                refine pure_ (i := 16) (N := some 72) (v := ?_) (a' := ?_) #[true, true, true, true, true, true, true, true, true, true, true, true, true, true, true, true, true, false, false, false, false] rfl rfl (any_of HT_.out (by kernel_rfl)) (fun _ _ _ h => h) (Or.inl ⟨by rfl, ?_⟩) ?_ ?_
                rotate_left
                ·
                 intro w'
                 go_simp
                 with_reducible rfl
                rotate_left
                ·
                 simp only [Act.put, List.setIfInBounds_toArray, List.set_cons_zero, List.set_cons_succ, i64_w, i32_w]
                 rfl
                refine pure_ (i := 17) (N := some 73) (v := ?_) (a' := ?_) #[true, true, true, true, true, true, true, true, true, true, true, true, true, true, true, true, true, true, false, false, false] rfl rfl (any_of HT_.out (by kernel_rfl)) (fun _ _ _ h => h) (Or.inl ⟨by rfl, ?_⟩) ?_ ?_
                rotate_left
                ·
                 intro w'
                 go_simp
                 with_reducible rfl
                rotate_left
                ·
                 simp only [Act.put, List.setIfInBounds_toArray, List.set_cons_zero, List.set_cons_succ, i64_w, i32_w]
                 rfl
                refine one_ (i := 18) (N := some 14) #[true, true, true, true, true, true, true, true, true, true, true, true, true, true, true, true, true, true, true, false, false] rfl rfl (one_of HT_.out (by kernel_rfl)) (by decide) (fun K hK => ?_)
                refine box_step ?hg (N := 14) ?hd (cs := #[.int .i64 0, .int .i64 0, .int .i64 0, .int .i64 0, .bool false]) (t := 49) ?hr ?_; (case hd => rfl); (case hg => rfl); (case hr => first | (go_simp; done) | (go_simp; rfl))
                intro gb267 hg w61 hbox hb
                have HS5_ := (hb.cell (World.block_lt_of_cell? _ _ (hHeld.2.2.2.2.2.1))).trans (hHeld.2.2.2.2.2.1)
                have HS6_ := (hb.cell (World.block_lt_of_cell? _ _ (hHeld.2.2.2.2.2.2.1))).trans (hHeld.2.2.2.2.2.2.1)
                have HS7_ := (hb.cell (World.block_lt_of_cell? _ _ (hHeld.2.2.2.2.2.2.2.1))).trans (hHeld.2.2.2.2.2.2.2.1)
                have HS8_ := (hb.cell (World.block_lt_of_cell? _ _ (hHeld.2.2.2.2.2.2.2.2.1))).trans (hHeld.2.2.2.2.2.2.2.2.1)
                have HS9_ := (hb.cell (World.block_lt_of_cell? _ _ (hHeld.2.2.2.2.2.2.2.2.2.1))).trans (hHeld.2.2.2.2.2.2.2.2.2.1)
                have HS10_ := (hb.cell (World.block_lt_of_cell? _ _ (hHeld.2.2.2.2.2.2.2.2.2.2))).trans (hHeld.2.2.2.2.2.2.2.2.2.2)
                have n0_ := Aside0.mk (Kd.R_below (by (with_reducible repeat (first | apply Kd.R_alloc | apply Kd.R_drewN | apply Kd.R_drew)); exact HO_11.out) hb)
                have n1_ := Aside0.mk (blk_below (g := gb230) (o := .cells #[.int .i64 x231000_2, .int .i64 x231001_2, .int .i64 x231002_2, .int .i64 x231003_2, .bool x231004_2] 49 (0, 0)) (by (with_reducible repeat (first | refine blk_drewN ?_ _ | refine blk_drew ?_ | refine blk_alloc ?_ _)); exact BK230.out) hb)
                have n2_ := Aside0.mk (below_step (by repeat (first | (with_reducible first | exact HB.out | apply below_alloc | apply pw_below_drewN | apply below_drew1 | refine below_set ?_ GE230.out) | exact HB.out)) hb)
                have n3_ := Aside0.mk (hbox)
                have n4_ := Aside0.mk ((by rw [hg]; exact (below_size (by repeat (first | (with_reducible first | exact HB.out | apply below_alloc | apply pw_below_drewN | apply below_drew1 | refine below_set ?_ GE230.out) | exact HB.out))) : w.heap.size ≤ gb267))
                have n5_ := Aside0.mk ((by rw [hg]; exact (below_size (by repeat (first | (with_reducible first | exact HB.out | apply below_alloc | apply pw_below_drewN | apply below_drew1 | refine below_set ?_ GE230.out) | exact HB.out))) : w.heap.size ≤ gb267))
                have n6_ := Aside0.mk ((by rw [hg]; exact Nat.ne_of_lt (blk_lt (g := gb230) (o := .cells #[.int .i64 x231000_2, .int .i64 x231001_2, .int .i64 x231002_2, .int .i64 x231003_2, .bool x231004_2] 49 (0, 0)) (by (with_reducible repeat (first | refine blk_drewN ?_ _ | refine blk_drew ?_ | refine blk_alloc ?_ _)); exact BK230.out)) : gb230 ≠ gb267))
                have n7_ := Aside0.mk ((by rw [hg]; exact Nat.ne_of_gt (blk_lt (g := gb230) (o := .cells #[.int .i64 x231000_2, .int .i64 x231001_2, .int .i64 x231002_2, .int .i64 x231003_2, .bool x231004_2] 49 (0, 0)) (by (with_reducible repeat (first | refine blk_drewN ?_ _ | refine blk_drew ?_ | refine blk_alloc ?_ _)); exact BK230.out)) : gb267 ≠ gb230))
                clear HO_11
                clear BK230
                clear HB
                have HO_11 := n0_
                have BK230 := n1_
                have HB := n2_
                have BK267 := n3_
                have GW267 := n4_
                have GE267 := n5_
                have NB230_267 := n6_
                have NB267_230 := n7_
                clear n0_ n1_ n2_ n3_ n4_ n5_ n6_ n7_
                clear hb hbox hg
                refine hK.out _ _ ⟨(blk_cell BK230.out 0).trans rfl, (blk_cell BK230.out 1).trans rfl, (blk_cell BK230.out 2).trans rfl, (blk_cell BK230.out 3).trans rfl, (blk_cell BK230.out 4).trans rfl, HS5_, HS6_, HS7_, HS8_, HS9_, HS10_⟩ (fun hHeld => ?_)
                clear hK K
                refine norm_ (a' := ?_) ?_ ?_
                rotate_left
                ·
                 show Act.put _ (some 14) _ = _
                 simp only [Act.put, List.setIfInBounds_toArray, List.set_cons_zero, List.set_cons_succ, i64_w, i32_w]
                 rfl
                exact norm_ (by simp only [putAll, Act.put, List.setIfInBounds_toArray, List.set_cons_zero, List.set_cons_succ]) (hCont (gb267) _ ⟨hHeld, (by (with_reducible repeat (first | apply Kd.R_alloc | apply Kd.R_drewN | apply Kd.R_drew)); exact HO_11.out), (by (with_reducible repeat (first | refine blk_drewN ?_ _ | refine blk_drew ?_ | refine blk_alloc ?_ _)); exact BK230.out), (by (with_reducible repeat (first | refine blk_drewN ?_ _ | refine blk_drew ?_ | refine blk_alloc ?_ _)); exact BK267.out), GW267.out, GE267.out, NB230_267.out, NB267_230.out, (by repeat (first | (with_reducible first | exact HB.out | apply below_alloc | apply pw_below_drewN | apply below_drew1 | refine below_set ?_ GE230.out | refine below_set ?_ GE267.out) | exact HB.out))⟩)
               ·
                skip
                refine box_step ?hg (N := 14) ?hd (cs := #[.int .i64 0, .int .i64 0, .int .i64 0, .int .i64 0, .bool false]) (t := 49) ?hr ?_; (case hd => rfl); (case hg => rfl); (case hr => first | (go_simp; done) | (go_simp; rfl))
                intro gb267 hg w60 hbox hb
                have HS5_ := (hb.cell (World.block_lt_of_cell? _ _ (hHeld.2.2.2.2.2.1))).trans (hHeld.2.2.2.2.2.1)
                have HS6_ := (hb.cell (World.block_lt_of_cell? _ _ (hHeld.2.2.2.2.2.2.1))).trans (hHeld.2.2.2.2.2.2.1)
                have HS7_ := (hb.cell (World.block_lt_of_cell? _ _ (hHeld.2.2.2.2.2.2.2.1))).trans (hHeld.2.2.2.2.2.2.2.1)
                have HS8_ := (hb.cell (World.block_lt_of_cell? _ _ (hHeld.2.2.2.2.2.2.2.2.1))).trans (hHeld.2.2.2.2.2.2.2.2.1)
                have HS9_ := (hb.cell (World.block_lt_of_cell? _ _ (hHeld.2.2.2.2.2.2.2.2.2.1))).trans (hHeld.2.2.2.2.2.2.2.2.2.1)
                have HS10_ := (hb.cell (World.block_lt_of_cell? _ _ (hHeld.2.2.2.2.2.2.2.2.2.2))).trans (hHeld.2.2.2.2.2.2.2.2.2.2)
                have n0_ := Aside0.mk (Kd.R_below (by (with_reducible repeat (first | apply Kd.R_alloc | apply Kd.R_drewN | apply Kd.R_drew)); exact HO_11.out) hb)
                have n1_ := Aside0.mk (blk_below (g := gb230) (o := .cells #[.int .i64 x231000_2, .int .i64 x231001_2, .int .i64 x231002_2, .int .i64 x231003_2, .bool x231004_2] 49 (0, 0)) (by (with_reducible repeat (first | refine blk_drewN ?_ _ | refine blk_drew ?_ | refine blk_alloc ?_ _)); exact BK230.out) hb)
                have n2_ := Aside0.mk (below_step (by repeat (first | (with_reducible first | exact HB.out | apply below_alloc | apply pw_below_drewN | apply below_drew1 | refine below_set ?_ GE230.out) | exact HB.out)) hb)
                have n3_ := Aside0.mk (hbox)
                have n4_ := Aside0.mk ((by rw [hg]; exact (below_size (by repeat (first | (with_reducible first | exact HB.out | apply below_alloc | apply pw_below_drewN | apply below_drew1 | refine below_set ?_ GE230.out) | exact HB.out))) : w.heap.size ≤ gb267))
                have n5_ := Aside0.mk ((by rw [hg]; exact (below_size (by repeat (first | (with_reducible first | exact HB.out | apply below_alloc | apply pw_below_drewN | apply below_drew1 | refine below_set ?_ GE230.out) | exact HB.out))) : w.heap.size ≤ gb267))
                have n6_ := Aside0.mk ((by rw [hg]; exact Nat.ne_of_lt (blk_lt (g := gb230) (o := .cells #[.int .i64 x231000_2, .int .i64 x231001_2, .int .i64 x231002_2, .int .i64 x231003_2, .bool x231004_2] 49 (0, 0)) (by (with_reducible repeat (first | refine blk_drewN ?_ _ | refine blk_drew ?_ | refine blk_alloc ?_ _)); exact BK230.out)) : gb230 ≠ gb267))
                have n7_ := Aside0.mk ((by rw [hg]; exact Nat.ne_of_gt (blk_lt (g := gb230) (o := .cells #[.int .i64 x231000_2, .int .i64 x231001_2, .int .i64 x231002_2, .int .i64 x231003_2, .bool x231004_2] 49 (0, 0)) (by (with_reducible repeat (first | refine blk_drewN ?_ _ | refine blk_drew ?_ | refine blk_alloc ?_ _)); exact BK230.out)) : gb267 ≠ gb230))
                clear HO_11
                clear BK230
                clear HB
                have HO_11 := n0_
                have BK230 := n1_
                have HB := n2_
                have BK267 := n3_
                have GW267 := n4_
                have GE267 := n5_
                have NB230_267 := n6_
                have NB267_230 := n7_
                clear n0_ n1_ n2_ n3_ n4_ n5_ n6_ n7_
                clear hb hbox hg
                refine hK.out _ _ ⟨(blk_cell BK230.out 0).trans rfl, (blk_cell BK230.out 1).trans rfl, (blk_cell BK230.out 2).trans rfl, (blk_cell BK230.out 3).trans rfl, (blk_cell BK230.out 4).trans rfl, HS5_, HS6_, HS7_, HS8_, HS9_, HS10_⟩ (fun hHeld => ?_)
                clear hK K
                refine norm_ (a' := ?_) ?_ ?_
                rotate_left
                ·
                 show Act.put _ (some 14) _ = _
                 simp only [Act.put, List.setIfInBounds_toArray, List.set_cons_zero, List.set_cons_succ, i64_w, i32_w]
                 rfl
                refine one_ (i := 14) (N := some 71) #[true, true, true, true, true, true, true, true, true, true, true, true, true, true, true, false, false, false, true, false, false] rfl rfl (one_of HT_.out (by kernel_rfl)) (by decide) (fun K hK => ?_)
                refine goes_ Try.func32 (by kernel_rfl) rfl #[.agg #[.int .i64 x231000_2, .int .i64 x231001_2, .int .i64 x231002_2, .int .i64 x231003_2, .bool x231004_2], .int .i64 (Int.tmod (wrap64 ((rd_T54 y237 x12_2).f0)) 4), .int .i64 (wrap64 ((rd_T54 y237 x12_2).f1)), .int .i64 (wrap64 ((rd_T54 y237 x12_2).f2))] (by rfl) rfl rfl (by (try simp only [List.map_toArray, List.map_cons, List.map_nil]); first | done | rfl | (simp only [List.length_drop, List.length_take]; rfl)) ?_
                with_reducible refine (servo_Step.calls x231000_2 x231001_2 x231002_2 x231003_2 x231004_2 (Int.tmod (wrap64 ((rd_T54 y237 x12_2).f0)) 4) (wrap64 ((rd_T54 y237 x12_2).f1)) (wrap64 ((rd_T54 y237 x12_2).f2)) t261 t262 t263 t264 t265 t266 _ A55.out).mono ?_
                rintro e w61 ⟨rfl, hb⟩
                have HS5_ := (hb.cell (World.block_lt_of_cell? _ _ (hHeld.2.2.2.2.2.1))).trans (hHeld.2.2.2.2.2.1)
                have HS6_ := (hb.cell (World.block_lt_of_cell? _ _ (hHeld.2.2.2.2.2.2.1))).trans (hHeld.2.2.2.2.2.2.1)
                have HS7_ := (hb.cell (World.block_lt_of_cell? _ _ (hHeld.2.2.2.2.2.2.2.1))).trans (hHeld.2.2.2.2.2.2.2.1)
                have HS8_ := (hb.cell (World.block_lt_of_cell? _ _ (hHeld.2.2.2.2.2.2.2.2.1))).trans (hHeld.2.2.2.2.2.2.2.2.1)
                have HS9_ := (hb.cell (World.block_lt_of_cell? _ _ (hHeld.2.2.2.2.2.2.2.2.2.1))).trans (hHeld.2.2.2.2.2.2.2.2.2.1)
                have HS10_ := (hb.cell (World.block_lt_of_cell? _ _ (hHeld.2.2.2.2.2.2.2.2.2.2))).trans (hHeld.2.2.2.2.2.2.2.2.2.2)
                refine ⟨_, rfl, ?_⟩
                have n0_ := Aside0.mk (Kd.R_below (by (with_reducible repeat (first | apply Kd.R_alloc | apply Kd.R_drewN | apply Kd.R_drew)); exact HO_11.out) hb)
                have n1_ := Aside0.mk (blk_below (g := gb230) (o := .cells #[.int .i64 x231000_2, .int .i64 x231001_2, .int .i64 x231002_2, .int .i64 x231003_2, .bool x231004_2] 49 (0, 0)) (by (with_reducible repeat (first | refine blk_drewN ?_ _ | refine blk_drew ?_ | refine blk_alloc ?_ _)); exact BK230.out) hb)
                have n2_ := Aside0.mk (blk_below (g := gb267) (o := .cells #[.int .i64 0, .int .i64 0, .int .i64 0, .int .i64 0, .bool false] 49 (0, 0)) (by (with_reducible repeat (first | refine blk_drewN ?_ _ | refine blk_drew ?_ | refine blk_alloc ?_ _)); exact BK267.out) hb)
                have n3_ := Aside0.mk (below_step (by repeat (first | (with_reducible first | exact HB.out | apply below_alloc | apply pw_below_drewN | apply below_drew1 | refine below_set ?_ GE230.out | refine below_set ?_ GE267.out) | exact HB.out)) hb)
                clear HO_11
                clear BK230
                clear BK267
                clear HB
                have HO_11 := n0_
                have BK230 := n1_
                have BK267 := n2_
                have HB := n3_
                clear n0_ n1_ n2_ n3_
                (try clear hb)
                (try clear hb2)
                (try clear hk)
                (try clear hi)
                refine hK.out _ _ ⟨(blk_cell BK230.out 0).trans rfl, (blk_cell BK230.out 1).trans rfl, (blk_cell BK230.out 2).trans rfl, (blk_cell BK230.out 3).trans rfl, (blk_cell BK230.out 4).trans rfl, HS5_, HS6_, HS7_, HS8_, HS9_, HS10_⟩ (fun hHeld => ?_)
                clear hK K
                refine norm_ (a' := ?_) ?_ ?_
                rotate_left
                ·
                 show Act.put _ (some 71) _ = _
                 simp only [Act.put, List.setIfInBounds_toArray, List.set_cons_zero, List.set_cons_succ, i64_w, i32_w]
                 rfl
                refine pure_ (i := 15) (N := some 56) (v := ?_) (a' := ?_) #[true, true, true, true, true, true, true, true, true, true, true, true, true, true, true, true, false, false, true, false, false] rfl rfl (any_of HT_.out (by kernel_rfl)) (fun _ _ _ h => h) (Or.inl ⟨by rfl, ?_⟩) ?_ ?_
                rotate_left
                ·
                 intro w'
                 go_simp
                 with_reducible rfl
                rotate_left
                ·
                 simp only [Act.put, List.setIfInBounds_toArray, List.set_cons_zero, List.set_cons_succ, i64_w, i32_w]
                 rfl
                refine pure_ (i := 16) (N := some 72) (v := ?_) (a' := ?_) #[true, true, true, true, true, true, true, true, true, true, true, true, true, true, true, true, true, false, true, false, false] rfl rfl (any_of HT_.out (by kernel_rfl)) (fun _ _ _ h => h) (Or.inl ⟨by rfl, ?_⟩) ?_ ?_
                rotate_left
                ·
                 intro w'
                 go_simp
                 with_reducible rfl
                rotate_left
                ·
                 simp only [Act.put, List.setIfInBounds_toArray, List.set_cons_zero, List.set_cons_succ, i64_w, i32_w]
                 rfl
                refine pure_ (i := 17) (N := some 73) (v := ?_) (a' := ?_) #[true, true, true, true, true, true, true, true, true, true, true, true, true, true, true, true, true, true, true, false, false] rfl rfl (any_of HT_.out (by kernel_rfl)) (fun _ _ _ h => h) (Or.inl ⟨by rfl, ?_⟩) ?_ ?_
                rotate_left
                ·
                 intro w'
                 go_simp
                 with_reducible rfl
                rotate_left
                ·
                 simp only [Act.put, List.setIfInBounds_toArray, List.set_cons_zero, List.set_cons_succ, i64_w, i32_w]
                 rfl
                exact norm_ (by simp only [putAll, Act.put, List.setIfInBounds_toArray, List.set_cons_zero, List.set_cons_succ]) (hCont (gb267) _ ⟨hHeld, (by (with_reducible repeat (first | apply Kd.R_alloc | apply Kd.R_drewN | apply Kd.R_drew)); exact HO_11.out), (by (with_reducible repeat (first | refine blk_drewN ?_ _ | refine blk_drew ?_ | refine blk_alloc ?_ _)); exact BK230.out), (by (with_reducible repeat (first | refine blk_drewN ?_ _ | refine blk_drew ?_ | refine blk_alloc ?_ _)); exact BK267.out), GW267.out, GE267.out, NB230_267.out, NB267_230.out, (by repeat (first | (with_reducible first | exact HB.out | apply below_alloc | apply pw_below_drewN | apply below_drew1 | refine below_set ?_ GE230.out | refine below_set ?_ GE267.out) | exact HB.out))⟩)
              rintro gb267 w62 ⟨hS_, h0_, h1_, h2_, h3_, h4_, h5_, h6_, h7_⟩
              have n0_ : Aside0 (Kd.R k54 54 w62 w.heap.size (fun _ => True) (.slice (some ad240) y237.length co58) y237) := ⟨h0_⟩
              have n1_ : Aside0 (w62.heap[gb230]? = some (.cells #[.int .i64 x231000_2, .int .i64 x231001_2, .int .i64 x231002_2, .int .i64 x231003_2, .bool x231004_2] 49 (0, 0))) := ⟨h1_⟩
              have n2_ : Aside0 (w62.heap[gb267]? = some (.cells #[.int .i64 0, .int .i64 0, .int .i64 0, .int .i64 0, .bool false] 49 (0, 0))) := ⟨h2_⟩
              have n3_ : Aside0 (w.heap.size ≤ gb267) := ⟨h3_⟩
              have n4_ : Aside0 (w.heap.size ≤ gb267) := ⟨h4_⟩
              have n5_ : Aside0 (gb230 ≠ gb267) := ⟨h5_⟩
              have n6_ : Aside0 (gb267 ≠ gb230) := ⟨h6_⟩
              have n7_ : Aside0 (Below w.heap.size w w62) := ⟨h7_⟩
              clear HO_11
              clear BK230
              clear HB
              clear h0_ h1_ h2_ h3_ h4_ h5_ h6_ h7_
              have HO_11 := n0_
              have BK230 := n1_
              have BK267 := n2_
              have GW267 := n3_
              have GE267 := n4_
              have NB230_267 := n5_
              have NB267_230 := n6_
              have HB := n7_
              clear n0_ n1_ n2_ n3_ n4_ n5_ n6_ n7_
              have hHeld : w62.cell? ⟨gb230, 0, none⟩ = some (.int .i64 x231000_2) ∧ w62.cell? ⟨gb230, 1, none⟩ = some (.int .i64 x231001_2) ∧ w62.cell? ⟨gb230, 2, none⟩ = some (.int .i64 x231002_2) ∧ w62.cell? ⟨gb230, 3, none⟩ = some (.int .i64 x231003_2) ∧ w62.cell? ⟨gb230, 4, none⟩ = some (.bool x231004_2) ∧ w62.cell? (ad240.add ((x12_2).toNat * 3)) = some (.int .u8 ((rd_T54 y237 x12_2).f0)) ∧ w62.cell? ⟨(ad240.add ((x12_2).toNat * 3)).block, (ad240.add ((x12_2).toNat * 3)).off + 1, none⟩ = some (.int .i16 ((rd_T54 y237 x12_2).f1)) ∧ w62.cell? ⟨(ad240.add ((x12_2).toNat * 3)).block, (ad240.add ((x12_2).toNat * 3)).off + 2, none⟩ = some (.int .i16 ((rd_T54 y237 x12_2).f2)) ∧ w62.cell? (ad240.add ((x12_2).toNat * 3)) = some (.int .u8 ((rd_T54 y237 x12_2).f0)) ∧ w62.cell? ⟨(ad240.add ((x12_2).toNat * 3)).block, (ad240.add ((x12_2).toNat * 3)).off + 1, none⟩ = some (.int .i16 ((rd_T54 y237 x12_2).f1)) ∧ w62.cell? ⟨(ad240.add ((x12_2).toNat * 3)).block, (ad240.add ((x12_2).toNat * 3)).off + 2, none⟩ = some (.int .i16 ((rd_T54 y237 x12_2).f2)) := hS_
              refine norm_ (a' := ?_) ?_ ?_
              rotate_left
              ·
               simp only [putAll, Act.put, List.setIfInBounds_toArray, List.set_cons_zero, List.set_cons_succ]
               rfl
              refine one_ (i := 19) (N := none) #[true, true, true, true, true, true, true, true, true, true, true, true, true, true, true, true, true, true, true, true, false] rfl rfl (one_of HT_.out (by kernel_rfl)) (by decide) (fun K hK => ?_)
              have hs63 : w62.cell? ⟨gb267, 0, none⟩ = some (.int .i64 0) := (blk_cell BK267.out 0).trans rfl
              have hfs63 := blk_frozen BK267.out 0
              have hns63_0 := NB230_267.out
              have hms63_0 := NB267_230.out
              have hs64 : w62.cell? ⟨gb267, 1, none⟩ = some (.int .i64 0) := (blk_cell BK267.out 1).trans rfl
              have hfs64 := blk_frozen BK267.out 1
              have hns64_0 := NB230_267.out
              have hms64_0 := NB267_230.out
              have hs65 : w62.cell? ⟨gb267, 2, none⟩ = some (.int .i64 0) := (blk_cell BK267.out 2).trans rfl
              have hfs65 := blk_frozen BK267.out 2
              have hns65_0 := NB230_267.out
              have hms65_0 := NB267_230.out
              have hs66 : w62.cell? ⟨gb267, 3, none⟩ = some (.int .i64 0) := (blk_cell BK267.out 3).trans rfl
              have hfs66 := blk_frozen BK267.out 3
              have hns66_0 := NB230_267.out
              have hms66_0 := NB267_230.out
              have hs67 : w62.cell? ⟨gb267, 4, none⟩ = some (.bool false) := (blk_cell BK267.out 4).trans rfl
              have hfs67 := blk_frozen BK267.out 4
              have hns67_0 := NB230_267.out
              have hms67_0 := NB267_230.out
              refine skip_ (w1 := ?_) (by rfl) rfl ?_ ?_
              rotate_left
              ·
               go_simp
               rfl
              refine hK.out _ _ ⟨((cell_far5 (g := gb267) NB230_267.out).trans (hHeld.1)), ((cell_far5 (g := gb267) NB230_267.out).trans (hHeld.2.1)), ((cell_far5 (g := gb267) NB230_267.out).trans (hHeld.2.2.1)), ((cell_far5 (g := gb267) NB230_267.out).trans (hHeld.2.2.2.1)), ((cell_far5 (g := gb267) NB230_267.out).trans (hHeld.2.2.2.2.1)), ((cell_far5 (g := gb267) (by first | exact Kd.own_blk (Kd.R_ne HO_11.out BK267.out (by decide)) | (rw [add_block]; exact Kd.own_blk (Kd.R_ne HO_11.out BK267.out (by decide))) | (show (Addr.add _ _).block ≠ _; rw [add_block]; exact Kd.own_blk (Kd.R_ne HO_11.out BK267.out (by decide))) | (dsimp only; exact Kd.own_blk (Kd.R_ne HO_11.out BK267.out (by decide))))).trans (hHeld.2.2.2.2.2.1)), ((cell_far5 (g := gb267) (by first | exact Kd.own_blk (Kd.R_ne HO_11.out BK267.out (by decide)) | (rw [add_block]; exact Kd.own_blk (Kd.R_ne HO_11.out BK267.out (by decide))) | (show (Addr.add _ _).block ≠ _; rw [add_block]; exact Kd.own_blk (Kd.R_ne HO_11.out BK267.out (by decide))) | (dsimp only; exact Kd.own_blk (Kd.R_ne HO_11.out BK267.out (by decide))))).trans (hHeld.2.2.2.2.2.2.1)), ((cell_far5 (g := gb267) (by first | exact Kd.own_blk (Kd.R_ne HO_11.out BK267.out (by decide)) | (rw [add_block]; exact Kd.own_blk (Kd.R_ne HO_11.out BK267.out (by decide))) | (show (Addr.add _ _).block ≠ _; rw [add_block]; exact Kd.own_blk (Kd.R_ne HO_11.out BK267.out (by decide))) | (dsimp only; exact Kd.own_blk (Kd.R_ne HO_11.out BK267.out (by decide))))).trans (hHeld.2.2.2.2.2.2.2.1)), ((cell_far5 (g := gb267) (by first | exact Kd.own_blk (Kd.R_ne HO_11.out BK267.out (by decide)) | (rw [add_block]; exact Kd.own_blk (Kd.R_ne HO_11.out BK267.out (by decide))) | (show (Addr.add _ _).block ≠ _; rw [add_block]; exact Kd.own_blk (Kd.R_ne HO_11.out BK267.out (by decide))) | (dsimp only; exact Kd.own_blk (Kd.R_ne HO_11.out BK267.out (by decide))))).trans (hHeld.2.2.2.2.2.2.2.2.1)), ((cell_far5 (g := gb267) (by first | exact Kd.own_blk (Kd.R_ne HO_11.out BK267.out (by decide)) | (rw [add_block]; exact Kd.own_blk (Kd.R_ne HO_11.out BK267.out (by decide))) | (show (Addr.add _ _).block ≠ _; rw [add_block]; exact Kd.own_blk (Kd.R_ne HO_11.out BK267.out (by decide))) | (dsimp only; exact Kd.own_blk (Kd.R_ne HO_11.out BK267.out (by decide))))).trans (hHeld.2.2.2.2.2.2.2.2.2.1)), ((cell_far5 (g := gb267) (by first | exact Kd.own_blk (Kd.R_ne HO_11.out BK267.out (by decide)) | (rw [add_block]; exact Kd.own_blk (Kd.R_ne HO_11.out BK267.out (by decide))) | (show (Addr.add _ _).block ≠ _; rw [add_block]; exact Kd.own_blk (Kd.R_ne HO_11.out BK267.out (by decide))) | (dsimp only; exact Kd.own_blk (Kd.R_ne HO_11.out BK267.out (by decide))))).trans (hHeld.2.2.2.2.2.2.2.2.2.2))⟩ (fun hHeld => ?_)
              clear hK K
              refine pure_ (i := 20) (N := some 15) (v := ?_) (a' := ?_) #[true, true, true, true, true, true, true, true, true, true, true, true, true, true, true, true, true, true, true, true, true] rfl rfl (any_of HT_.out (by kernel_rfl)) (fun _ _ _ h => h) (Or.inl ⟨by rfl, ?_⟩) ?_ ?_
              rotate_left
              ·
               intro w'
               go_simp
               with_reducible rfl
              rotate_left
              ·
               simp only [Act.put, List.setIfInBounds_toArray, List.set_cons_zero, List.set_cons_succ, i64_w, i32_w]
               rfl
              refine done_ (done_of HT_.out (by kernel_rfl)) ?_
              have hnb68 := NB267_230.out
              have hnc68 := NB230_267.out
              have hcz69_0 : w62.cell? ⟨gb267, 0, none⟩ = some (.int .i64 0) := (blk_cell BK267.out 0).trans rfl
              have hcz69_1 : w62.cell? ⟨gb267, 1, none⟩ = some (.int .i64 0) := (blk_cell BK267.out 1).trans rfl
              have hcz69_2 : w62.cell? ⟨gb267, 2, none⟩ = some (.int .i64 0) := (blk_cell BK267.out 2).trans rfl
              have hcz69_3 : w62.cell? ⟨gb267, 3, none⟩ = some (.int .i64 0) := (blk_cell BK267.out 3).trans rfl
              have hcz69_4 : w62.cell? ⟨gb267, 4, none⟩ = some (.bool false) := (blk_cell BK267.out 4).trans rfl
              have hfz69_0 := blk_frozen BK267.out 0
              have hfz69_1 := blk_frozen BK267.out 1
              have hfz69_2 := blk_frozen BK267.out 2
              have hfz69_3 := blk_frozen BK267.out 3
              have hfz69_4 := blk_frozen BK267.out 4
              have hcz70_0 : w62.cell? ⟨gb230, 0, none⟩ = some (.int .i64 x231000_2) := (blk_cell BK230.out 0).trans rfl
              have hcz70_1 : w62.cell? ⟨gb230, 1, none⟩ = some (.int .i64 x231001_2) := (blk_cell BK230.out 1).trans rfl
              have hcz70_2 : w62.cell? ⟨gb230, 2, none⟩ = some (.int .i64 x231002_2) := (blk_cell BK230.out 2).trans rfl
              have hcz70_3 : w62.cell? ⟨gb230, 3, none⟩ = some (.int .i64 x231003_2) := (blk_cell BK230.out 3).trans rfl
              have hcz70_4 : w62.cell? ⟨gb230, 4, none⟩ = some (.bool x231004_2) := (blk_cell BK230.out 4).trans rfl
              have hfz70_0 := blk_frozen BK230.out 0
              have hfz70_1 := blk_frozen BK230.out 1
              have hfz70_2 := blk_frozen BK230.out 2
              have hfz70_3 := blk_frozen BK230.out 3
              have hfz70_4 := blk_frozen BK230.out 4
              try go_wp2
              go_roundg k2
              case measure => have := HJ4.out; have := HK2.out; omega
              case rel => exact ⟨(wrap64 (x9_2 + 1)), (true), (wrap64 (x12_2 + 1)), (t261), (t262), (t263), (t264), (t265), (by first | rfl | (simp; done) | (simp [*]; done)), (by first | rfl | (simp; done) | (simp [*]; done)), (by first | rfl | (simp; done) | (simp [*]; done)), H', ⟨by have := HJ4.out; have := HK2.out; omega⟩, ⟨by (with_reducible repeat (first | apply Kd.R_alloc | apply Kd.R_drewN | apply Kd.R_drew)); exact Kd.R_mono (Kd.R_far (p := ⟨gb230, 4, none⟩) (Kd.R_far (p := ⟨gb230, 3, none⟩) (Kd.R_far (p := ⟨gb230, 2, none⟩) (Kd.R_far (p := ⟨gb230, 1, none⟩) (Kd.R_far (p := ⟨gb230, 0, none⟩) (Kd.R_far (p := ⟨gb267, 4, none⟩) (Kd.R_far (p := ⟨gb267, 3, none⟩) (Kd.R_far (p := ⟨gb267, 2, none⟩) (Kd.R_far (p := ⟨gb267, 1, none⟩) (Kd.R_far (p := ⟨gb267, 0, none⟩) (Kd.R_types (Kd.R_types HO_11.out BK267.out (by decide)) BK230.out (by decide)) (fun _ hk => hk.1.2) (.int .i64 t261)) (fun _ hk => hk.1.2) (.int .i64 t262)) (fun _ hk => hk.1.2) (.int .i64 t263)) (fun _ hk => hk.1.2) (.int .i64 t264)) (fun _ hk => hk.1.2) (.bool t265)) (fun _ hk => hk.2) (.int .i64 t261)) (fun _ hk => hk.2) (.int .i64 t262)) (fun _ hk => hk.2) (.int .i64 t263)) (fun _ hk => hk.2) (.int .i64 t264)) (fun _ hk => hk.2) (.bool t265)) (fun _ hk => trivial)⟩, ⟨by (with_reducible repeat (first | refine blk_drewN ?_ _ | refine blk_drew ?_ | refine blk_alloc ?_ _)); refine blk_put (cs := #[.int .i64 t261, .int .i64 t262, .int .i64 t263, .int .i64 t264, .bool x231004_2]) ?_ 4 _ rfl; (with_reducible repeat (first | refine blk_drewN ?_ _ | refine blk_drew ?_ | refine blk_alloc ?_ _)); refine blk_put (cs := #[.int .i64 t261, .int .i64 t262, .int .i64 t263, .int .i64 x231003_2, .bool x231004_2]) ?_ 3 _ rfl; (with_reducible repeat (first | refine blk_drewN ?_ _ | refine blk_drew ?_ | refine blk_alloc ?_ _)); refine blk_put (cs := #[.int .i64 t261, .int .i64 t262, .int .i64 x231002_2, .int .i64 x231003_2, .bool x231004_2]) ?_ 2 _ rfl; (with_reducible repeat (first | refine blk_drewN ?_ _ | refine blk_drew ?_ | refine blk_alloc ?_ _)); refine blk_put (cs := #[.int .i64 t261, .int .i64 x231001_2, .int .i64 x231002_2, .int .i64 x231003_2, .bool x231004_2]) ?_ 1 _ rfl; (with_reducible repeat (first | refine blk_drewN ?_ _ | refine blk_drew ?_ | refine blk_alloc ?_ _)); refine blk_put (cs := #[.int .i64 x231000_2, .int .i64 x231001_2, .int .i64 x231002_2, .int .i64 x231003_2, .bool x231004_2]) ?_ 0 _ rfl; (with_reducible repeat (first | refine blk_drewN ?_ _ | refine blk_drew ?_ | refine blk_alloc ?_ _)); refine blk_far ?_ NB230_267.out _; (with_reducible repeat (first | refine blk_drewN ?_ _ | refine blk_drew ?_ | refine blk_alloc ?_ _)); refine blk_far ?_ NB230_267.out _; (with_reducible repeat (first | refine blk_drewN ?_ _ | refine blk_drew ?_ | refine blk_alloc ?_ _)); refine blk_far ?_ NB230_267.out _; (with_reducible repeat (first | refine blk_drewN ?_ _ | refine blk_drew ?_ | refine blk_alloc ?_ _)); refine blk_far ?_ NB230_267.out _; (with_reducible repeat (first | refine blk_drewN ?_ _ | refine blk_drew ?_ | refine blk_alloc ?_ _)); refine blk_far ?_ NB230_267.out _; (with_reducible repeat (first | refine blk_drewN ?_ _ | refine blk_drew ?_ | refine blk_alloc ?_ _)); exact BK230.out⟩, ⟨by repeat (first | (with_reducible first | exact HB.out | apply below_alloc | apply pw_below_drewN | apply below_drew1 | refine below_set ?_ GE230.out | refine below_set ?_ GE267.out) | exact HB.out)⟩⟩
             ·
              rw [if_neg c57] at H
              have c57b0 : (t266 == 0) = false := beq_eq_false_iff_ne.mpr c57
              have c57b1 : (t266 != 0) = true := bne_iff_ne.mpr c57
              exact absurd HT.out (by rw [← Option.some.inj H]; decide)
           ·
            replace c54 := Bool.eq_false_iff.mpr c54
            subst c54
            have H1 : ((servo_Step.f x231000_2 x231001_2 x231002_2 x231003_2 x231004_2 (Int.tmod (wrap64 ((rd_T54 y237 x12_2).f0)) 4) (wrap64 ((rd_T54 y237 x12_2).f1)) (wrap64 ((rd_T54 y237 x12_2).f2))).bind fun bt270 => (if (bt270.2.2.2.2.1 != (decide ((wrap64 (x9_2 + 1)) > 6))) = true then (some false) else (if (wrap64 (x9_2 + 1)) > 6 then (if bt270.2.2.2.2.2 = 0 then (ambidexterlaw25_ServoLost.l0 k2 true (wrap64 (x9_2 + 1)) (decide ((wrap64 (x9_2 + 1)) > 6)) y237 (wrap64 (x12_2 + 1)) bt270.1 bt270.2.1 bt270.2.2.1 bt270.2.2.2.1 bt270.2.2.2.2.1) else (some false)) else (ambidexterlaw25_ServoLost.l0 k2 true (wrap64 (x9_2 + 1)) (decide ((wrap64 (x9_2 + 1)) > 6)) y237 (wrap64 (x12_2 + 1)) bt270.1 bt270.2.1 bt270.2.2.1 bt270.2.2.2.1 bt270.2.2.2.2.1)))) = some r := by rw [if_neg (show ¬ (false = true) by decide)] at H; exact H
            clear H
            have H := H1
            clear H1
            replace H := Option.bind_eq_some_iff.mp H
            obtain ⟨⟨t270, t271, t272, t273, t274, t275⟩, A710, H⟩ := H
            replace H : (if (t274 != (decide ((wrap64 (x9_2 + 1)) > 6))) = true then (some false) else (if (wrap64 (x9_2 + 1)) > 6 then (if t275 = 0 then (ambidexterlaw25_ServoLost.l0 k2 true (wrap64 (x9_2 + 1)) (decide ((wrap64 (x9_2 + 1)) > 6)) y237 (wrap64 (x12_2 + 1)) t270 t271 t272 t273 t274) else (some false)) else (ambidexterlaw25_ServoLost.l0 k2 true (wrap64 (x9_2 + 1)) (decide ((wrap64 (x9_2 + 1)) > 6)) y237 (wrap64 (x12_2 + 1)) t270 t271 t272 t273 t274))) = some r := H
            have A71 := Aside0.mk A710
            clear A710
            by_cases c72 : (t274 != (decide ((wrap64 (x9_2 + 1)) > 6))) = true
            ·
             rw [if_pos c72] at H
             have c72b0 : (t274 != (decide ((wrap64 (x9_2 + 1)) > 6))) = true := c72
             (try (have c72b1 : decide (t274 = (decide ((wrap64 (x9_2 + 1)) > 6))) = false := by simpa using c72))
             (try (have c72b2 : (t274 == (decide ((wrap64 (x9_2 + 1)) > 6))) = false := by simpa using c72))
             (try (have c72b3 : ¬ (t274 = (decide ((wrap64 (x9_2 + 1)) > 6))) := by simpa using c72))
             clear c72
             exact absurd HT.out (by rw [← Option.some.inj H]; decide)
            ·
             rw [if_neg c72] at H
             have c72b0 : (t274 != (decide ((wrap64 (x9_2 + 1)) > 6))) = false := by simpa using c72
             (try (have c72b1 : decide (t274 = (decide ((wrap64 (x9_2 + 1)) > 6))) = true := by simpa using c72))
             (try (have c72b2 : (t274 == (decide ((wrap64 (x9_2 + 1)) > 6))) = true := by simpa using c72))
             clear c72
             by_cases c73 : (wrap64 (x9_2 + 1)) > 6
             ·
              rw [if_pos c73] at H
              have c73b0 : decide (6 < (wrap64 (x9_2 + 1))) = true := decide_eq_true c73
              have e74 : t274 = true := by (have h74 := c72b0; rw [decide_eq_true (by first | exact c73 | exact fun h_ => c73 h_)] at h74; simpa using h74)
              clear c72b0
              try clear c72b1
              try clear c72b2
              subst e74
              clear c73
              by_cases c74 : t275 = 0
              ·
               rw [if_pos c74] at H
               have c74b0 : (t275 == 0) = true := beq_iff_eq.mpr c74
               have c74b1 : (t275 != 0) = false := bne_eq_false_iff_eq.mpr c74
               clear c74
               have H' := Aside0.mk H
               clear H
               obtain ⟨Ao75, co75, eo75⟩ := Kd.R_slice HO_11.out
               subst eo75
               have p240 : 0 ≤ (x12_2 : Int) := of_decide_eq_true (by first | (with_reducible assumption) | assumption)
               have q240 : x12_2 < (y237.length : Int) := of_decide_eq_true (by first | (with_reducible assumption) | assumption)
               obtain ⟨ad240, e240, hx240_0, hx240_1, hx240_2⟩ := at_T54 (Kd.R_reads' HO_11.out).2.2 x12_2 p240 q240
               cases e240
               replace p240 := eq_true p240
               replace q240 := eq_true q240
               try go_wp2
               have n0_ := Aside0.mk (Kd.R_drew HO_11.out)
               have n1_ := Aside0.mk (blk_drew BK230.out)
               have n2_ := Aside0.mk (below_drew1 HB.out)
               clear HO_11
               clear BK230
               clear HB
               have HO_11 := n0_
               have BK230 := n1_
               have HB := n2_
               clear n0_ n1_ n2_
               have p268 : 0 ≤ (x12_2 : Int) := of_decide_eq_true (by first | (with_reducible assumption) | assumption)
               have q268 : x12_2 < (y237.length : Int) := of_decide_eq_true (by first | (with_reducible assumption) | assumption)
               obtain ⟨ad268, e268, hx268_0, hx268_1, hx268_2⟩ := at_T54 (Kd.R_reads' HO_11.out).2.2 x12_2 p268 q268
               obtain rfl : ad240 = ad268 := (by injection e268)
               replace p268 := eq_true p268
               replace q268 := eq_true q268
               have p269 : 0 ≤ (x12_2 : Int) := of_decide_eq_true (by first | (with_reducible assumption) | assumption)
               have q269 : x12_2 < (y237.length : Int) := of_decide_eq_true (by first | (with_reducible assumption) | assumption)
               obtain ⟨ad269, e269, hx269_0, hx269_1, hx269_2⟩ := at_T54 (Kd.R_reads' HO_11.out).2.2 x12_2 p269 q269
               obtain rfl : ad240 = ad269 := (by injection e269)
               replace p269 := eq_true p269
               replace q269 := eq_true q269
               refine start_ (n := 21) (S := fun w' => w'.cell? ⟨gb230, 0, none⟩ = some (.int .i64 x231000_2) ∧ w'.cell? ⟨gb230, 1, none⟩ = some (.int .i64 x231001_2) ∧ w'.cell? ⟨gb230, 2, none⟩ = some (.int .i64 x231002_2) ∧ w'.cell? ⟨gb230, 3, none⟩ = some (.int .i64 x231003_2) ∧ w'.cell? ⟨gb230, 4, none⟩ = some (.bool x231004_2) ∧ w'.cell? (ad240.add ((x12_2).toNat * 3)) = some (.int .u8 ((rd_T54 y237 x12_2).f0)) ∧ w'.cell? ⟨(ad240.add ((x12_2).toNat * 3)).block, (ad240.add ((x12_2).toNat * 3)).off + 1, none⟩ = some (.int .i16 ((rd_T54 y237 x12_2).f1)) ∧ w'.cell? ⟨(ad240.add ((x12_2).toNat * 3)).block, (ad240.add ((x12_2).toNat * 3)).off + 2, none⟩ = some (.int .i16 ((rd_T54 y237 x12_2).f2)) ∧ w'.cell? (ad240.add ((x12_2).toNat * 3)) = some (.int .u8 ((rd_T54 y237 x12_2).f0)) ∧ w'.cell? ⟨(ad240.add ((x12_2).toNat * 3)).block, (ad240.add ((x12_2).toNat * 3)).off + 1, none⟩ = some (.int .i16 ((rd_T54 y237 x12_2).f1)) ∧ w'.cell? ⟨(ad240.add ((x12_2).toNat * 3)).block, (ad240.add ((x12_2).toNat * 3)).off + 2, none⟩ = some (.int .i16 ((rd_T54 y237 x12_2).f2))) (ds := []) #[false, false, false, false, false, false, false, false, false, false, false, false, false, false, false, false, false, false, false, false, false] (by kernel_rfl) rfl rfl ⟨(blk_cell BK230.out 0).trans rfl, (blk_cell BK230.out 1).trans rfl, (blk_cell BK230.out 2).trans rfl, (blk_cell BK230.out 3).trans rfl, (blk_cell BK230.out 4).trans rfl, hx268_0, hx268_1, hx268_2, hx269_0, hx269_1, hx269_2⟩ (fun hHeld => ?_); refine with_tabW ambidexterlaw25_ServoLost.tab16 ambidexterlaw25_ServoLost.bits16 (fun HT_ HW_ => ?_)
               generalize wr.drew = w76 at HO_11 BK230 HB hx268_0 hx268_1 hx268_2 hx269_0 hx269_1 hx269_2 hHeld ⊢
               refine pure_ (i := 1) (N := some 58) (v := ?_) (a' := ?_) #[false, true, false, false, false, false, false, false, false, false, false, false, false, false, false, false, false, false, false, false, false] rfl rfl (any_of HT_.out (by kernel_rfl)) (fun _ _ _ h => h) (Or.inl ⟨by rfl, ?_⟩) ?_ ?_
               rotate_left
               ·
                intro w'
                go_simp
                with_reducible rfl
               rotate_left
               ·
                simp only [Act.put, List.setIfInBounds_toArray, List.set_cons_zero, List.set_cons_succ, i64_w, i32_w]
                rfl
               refine pure_ (i := 2) (N := some 59) (v := ?_) (a' := ?_) #[false, true, true, false, false, false, false, false, false, false, false, false, false, false, false, false, false, false, false, false, false] rfl rfl (any_of HT_.out (by kernel_rfl)) (fun _ _ _ h => h) (Or.inl ⟨by rfl, ?_⟩) ?_ ?_
               rotate_left
               ·
                intro w'
                go_simp
                with_reducible rfl
               rotate_left
               ·
                simp only [Act.put, List.setIfInBounds_toArray, List.set_cons_zero, List.set_cons_succ, i64_w, i32_w]
                rfl
               refine pure_ (i := 3) (N := some 60) (v := ?_) (a' := ?_) #[false, true, true, true, false, false, false, false, false, false, false, false, false, false, false, false, false, false, false, false, false] rfl rfl (any_of HT_.out (by kernel_rfl)) (fun _ _ _ h => h) (Or.inl ⟨by rfl, ?_⟩) ?_ ?_
               rotate_left
               ·
                intro w'
                go_simp
                with_reducible rfl
               rotate_left
               ·
                simp only [Act.put, List.setIfInBounds_toArray, List.set_cons_zero, List.set_cons_succ, i64_w, i32_w]
                rfl
               refine pure_ (i := 4) (N := some 61) (v := ?_) (a' := ?_) #[false, true, true, true, true, false, false, false, false, false, false, false, false, false, false, false, false, false, false, false, false] rfl rfl (any_of HT_.out (by kernel_rfl)) (fun _ _ _ h => h) (Or.inl ⟨by rfl, ?_⟩) ?_ ?_
               rotate_left
               ·
                intro w'
                go_simp
                with_reducible rfl
               rotate_left
               ·
                simp only [Act.put, List.setIfInBounds_toArray, List.set_cons_zero, List.set_cons_succ, i64_w, i32_w]
                rfl
               refine pure_ (i := 5) (N := some 62) (v := ?_) (a' := ?_) #[false, true, true, true, true, true, false, false, false, false, false, false, false, false, false, false, false, false, false, false, false] rfl rfl (any_of HT_.out (by kernel_rfl)) (fun _ _ _ h => h) (Or.inl ⟨by rfl, ?_⟩) ?_ ?_
               rotate_left
               ·
                intro w'
                go_simp
                with_reducible rfl
               rotate_left
               ·
                simp only [Act.put, List.setIfInBounds_toArray, List.set_cons_zero, List.set_cons_succ, i64_w, i32_w]
                rfl
               refine pure_ (i := 8) (N := some 65) (v := ?_) (a' := ?_) #[false, true, true, true, true, true, false, false, true, false, false, false, false, false, false, false, false, false, false, false, false] rfl rfl (any_of HT_.out (by kernel_rfl)) (fun _ _ _ h => h) (Or.inl ⟨by rfl, ?_⟩) ?_ ?_
               rotate_left
               ·
                intro w'
                go_simp
                with_reducible rfl
               rotate_left
               ·
                simp only [Act.put, List.setIfInBounds_toArray, List.set_cons_zero, List.set_cons_succ, i64_w, i32_w]
                rfl
               refine pure_ (i := 9) (N := some 66) (v := ?_) (a' := ?_) #[false, true, true, true, true, true, false, false, true, true, false, false, false, false, false, false, false, false, false, false, false] rfl rfl (any_of HT_.out (by kernel_rfl)) (fun _ _ _ h => h) (Or.inl ⟨by rfl, ?_⟩) ?_ ?_
               rotate_left
               ·
                intro w'
                go_simp
                with_reducible rfl
               rotate_left
               ·
                simp only [Act.put, List.setIfInBounds_toArray, List.set_cons_zero, List.set_cons_succ, i64_w, i32_w]
                rfl
               refine pure_ (i := 10) (N := some 67) (v := ?_) (a' := ?_) #[false, true, true, true, true, true, false, false, true, true, true, false, false, false, false, false, false, false, false, false, false] rfl rfl (any_of HT_.out (by kernel_rfl)) (fun _ _ _ h => h) (Or.inl ⟨by rfl, ?_⟩) ?_ ?_
               rotate_left
               ·
                intro w'
                go_simp
                with_reducible rfl
               rotate_left
               ·
                simp only [Act.put, List.setIfInBounds_toArray, List.set_cons_zero, List.set_cons_succ, i64_w, i32_w]
                rfl
               refine pure_ (i := 11) (N := some 68) (v := ?_) (a' := ?_) #[false, true, true, true, true, true, false, false, true, true, true, true, false, false, false, false, false, false, false, false, false] rfl rfl (any_of HT_.out (by kernel_rfl)) (fun _ _ _ h => h) (Or.inl ⟨by rfl, ?_⟩) ?_ ?_
               rotate_left
               ·
                intro w'
                go_simp
                with_reducible rfl
               rotate_left
               ·
                simp only [Act.put, List.setIfInBounds_toArray, List.set_cons_zero, List.set_cons_succ, i64_w, i32_w]
                rfl
               refine take_ (i := 0) (N := some 57) (v := ?_) (a' := ?_) #[true, true, true, true, true, true, false, false, true, true, true, true, false, false, false, false, false, false, false, false, false] rfl rfl (take_ofW HT_.out HW_.out (by kernel_rfl)) (fun _ _ _ h => h) (Or.inl ⟨by rfl, ?_⟩) hHeld ?_ ?_
               rotate_left
               ·
                rintro w' ⟨s0, s1, s2, s3, s4, s5, s6, s7, s8, s9, s10⟩
                go_simp
                with_reducible rfl
               rotate_left
               ·
                simp only [Act.put, List.setIfInBounds_toArray, List.set_cons_zero, List.set_cons_succ, i64_w, i32_w]
                rfl
               refine take_ (i := 6) (N := some 63) (v := ?_) (a' := ?_) #[true, true, true, true, true, true, true, false, true, true, true, true, false, false, false, false, false, false, false, false, false] rfl rfl (take_ofW HT_.out HW_.out (by kernel_rfl)) (fun _ _ _ h => h) (Or.inl ⟨by rfl, ?_⟩) hHeld ?_ ?_
               rotate_left
               ·
                rintro w' ⟨s0, s1, s2, s3, s4, s5, s6, s7, s8, s9, s10⟩
                go_simp
                with_reducible rfl
               rotate_left
               ·
                simp only [Act.put, List.setIfInBounds_toArray, List.set_cons_zero, List.set_cons_succ, i64_w, i32_w]
                rfl
               refine pure_ (i := 7) (N := some 64) (v := ?_) (a' := ?_) #[true, true, true, true, true, true, true, true, true, true, true, true, false, false, false, false, false, false, false, false, false] rfl rfl (any_of HT_.out (by kernel_rfl)) (fun _ _ _ h => h) (Or.inl ⟨by rfl, ?_⟩) ?_ ?_
               rotate_left
               ·
                intro w'
                go_simp
                with_reducible rfl
               rotate_left
               ·
                simp only [Act.put, List.setIfInBounds_toArray, List.set_cons_zero, List.set_cons_succ, i64_w, i32_w]
                rfl
               refine take_ (i := 12) (N := some 69) (v := ?_) (a' := ?_) #[true, true, true, true, true, true, true, true, true, true, true, true, true, false, false, false, false, false, false, false, false] rfl rfl (take_ofW HT_.out HW_.out (by kernel_rfl)) (fun _ _ _ h => h) (Or.inl ⟨by rfl, ?_⟩) hHeld ?_ ?_
               rotate_left
               ·
                rintro w' ⟨s0, s1, s2, s3, s4, s5, s6, s7, s8, s9, s10⟩
                go_simp
                with_reducible rfl
               rotate_left
               ·
                simp only [Act.put, List.setIfInBounds_toArray, List.set_cons_zero, List.set_cons_succ, i64_w, i32_w]
                rfl
               refine pure_ (i := 13) (N := some 70) (v := ?_) (a' := ?_) #[true, true, true, true, true, true, true, true, true, true, true, true, true, true, false, false, false, false, false, false, false] rfl rfl (any_of HT_.out (by kernel_rfl)) (fun _ _ _ h => h) (Or.inl ⟨by rfl, ?_⟩) ?_ ?_
               rotate_left
               ·
                intro w'
                go_simp
                with_reducible rfl
               rotate_left
               ·
                simp only [Act.put, List.setIfInBounds_toArray, List.set_cons_zero, List.set_cons_succ, i64_w, i32_w]
                rfl
               refine join_ (σ := Nat) 2 #[true, true, true, true, true, true, true, true, true, true, true, true, true, true, true, true, true, true, true, false, false] (fun s_ => [(71, .tuple #[.agg #[.int .i64 t270, .int .i64 t271, .int .i64 t272, .int .i64 t273, .bool true], .int .i64 t275]), (14, .pointer (some ⟨s_, 0, none⟩)), (56, .tuple #[.agg #[.int .i64 t270, .int .i64 t271, .int .i64 t272, .int .i64 t273, .bool true], .int .i64 t275]), (72, .agg #[.int .i64 t270, .int .i64 t271, .int .i64 t272, .int .i64 t273, .bool true]), (73, .int .i64 t275)]) (fun s_ w' => (w'.cell? ⟨gb230, 0, none⟩ = some (.int .i64 x231000_2) ∧ w'.cell? ⟨gb230, 1, none⟩ = some (.int .i64 x231001_2) ∧ w'.cell? ⟨gb230, 2, none⟩ = some (.int .i64 x231002_2) ∧ w'.cell? ⟨gb230, 3, none⟩ = some (.int .i64 x231003_2) ∧ w'.cell? ⟨gb230, 4, none⟩ = some (.bool x231004_2) ∧ w'.cell? (ad240.add ((x12_2).toNat * 3)) = some (.int .u8 ((rd_T54 y237 x12_2).f0)) ∧ w'.cell? ⟨(ad240.add ((x12_2).toNat * 3)).block, (ad240.add ((x12_2).toNat * 3)).off + 1, none⟩ = some (.int .i16 ((rd_T54 y237 x12_2).f1)) ∧ w'.cell? ⟨(ad240.add ((x12_2).toNat * 3)).block, (ad240.add ((x12_2).toNat * 3)).off + 2, none⟩ = some (.int .i16 ((rd_T54 y237 x12_2).f2)) ∧ w'.cell? (ad240.add ((x12_2).toNat * 3)) = some (.int .u8 ((rd_T54 y237 x12_2).f0)) ∧ w'.cell? ⟨(ad240.add ((x12_2).toNat * 3)).block, (ad240.add ((x12_2).toNat * 3)).off + 1, none⟩ = some (.int .i16 ((rd_T54 y237 x12_2).f1)) ∧ w'.cell? ⟨(ad240.add ((x12_2).toNat * 3)).block, (ad240.add ((x12_2).toNat * 3)).off + 2, none⟩ = some (.int .i16 ((rd_T54 y237 x12_2).f2))) ∧ (Kd.R k54 54 w' w.heap.size (fun _ => True) (.slice (some ad240) y237.length co75) y237) ∧ (w'.heap[gb230]? = some (.cells #[.int .i64 x231000_2, .int .i64 x231001_2, .int .i64 x231002_2, .int .i64 x231003_2, .bool x231004_2] 49 (0, 0))) ∧ (w'.heap[s_]? = some (.cells #[.int .i64 0, .int .i64 0, .int .i64 0, .int .i64 0, .bool false] 49 (0, 0))) ∧ (w.heap.size ≤ s_) ∧ (w.heap.size ≤ s_) ∧ (gb230 ≠ s_) ∧ (s_ ≠ gb230) ∧ (Below w.heap.size w w')) ?_ ?_
               rotate_left
               ·
                intro hCont
                refine two_ (i := 14) (j := 18) (Ni := some 71) (Nj := some 14) #[true, true, true, true, true, true, true, true, true, true, true, true, true, true, true, false, false, false, false, false, false] #[true, true, true, true, true, true, true, true, true, true, true, true, true, true, false, false, false, false, true, false, false] rfl rfl rfl rfl (two_of HT_.out (by kernel_rfl)) (by decide) (by decide) (fun K hK => ?_) (fun K hK => ?_)
                ·
                 skip
                 refine goes_ Try.func32 (by kernel_rfl) rfl #[.agg #[.int .i64 x231000_2, .int .i64 x231001_2, .int .i64 x231002_2, .int .i64 x231003_2, .bool x231004_2], .int .i64 (Int.tmod (wrap64 ((rd_T54 y237 x12_2).f0)) 4), .int .i64 (wrap64 ((rd_T54 y237 x12_2).f1)), .int .i64 (wrap64 ((rd_T54 y237 x12_2).f2))] (by rfl) rfl rfl (by (try simp only [List.map_toArray, List.map_cons, List.map_nil]); first | done | rfl | (simp only [List.length_drop, List.length_take]; rfl)) ?_
                 with_reducible refine (servo_Step.calls x231000_2 x231001_2 x231002_2 x231003_2 x231004_2 (Int.tmod (wrap64 ((rd_T54 y237 x12_2).f0)) 4) (wrap64 ((rd_T54 y237 x12_2).f1)) (wrap64 ((rd_T54 y237 x12_2).f2)) t270 t271 t272 t273 true t275 _ A71.out).mono ?_
                 rintro e w77 ⟨rfl, hb⟩
                 have HS5_ := (hb.cell (World.block_lt_of_cell? _ _ (hHeld.2.2.2.2.2.1))).trans (hHeld.2.2.2.2.2.1)
                 have HS6_ := (hb.cell (World.block_lt_of_cell? _ _ (hHeld.2.2.2.2.2.2.1))).trans (hHeld.2.2.2.2.2.2.1)
                 have HS7_ := (hb.cell (World.block_lt_of_cell? _ _ (hHeld.2.2.2.2.2.2.2.1))).trans (hHeld.2.2.2.2.2.2.2.1)
                 have HS8_ := (hb.cell (World.block_lt_of_cell? _ _ (hHeld.2.2.2.2.2.2.2.2.1))).trans (hHeld.2.2.2.2.2.2.2.2.1)
                 have HS9_ := (hb.cell (World.block_lt_of_cell? _ _ (hHeld.2.2.2.2.2.2.2.2.2.1))).trans (hHeld.2.2.2.2.2.2.2.2.2.1)
                 have HS10_ := (hb.cell (World.block_lt_of_cell? _ _ (hHeld.2.2.2.2.2.2.2.2.2.2))).trans (hHeld.2.2.2.2.2.2.2.2.2.2)
                 refine ⟨_, rfl, ?_⟩
                 have n0_ := Aside0.mk (Kd.R_below (by (with_reducible repeat (first | apply Kd.R_alloc | apply Kd.R_drewN | apply Kd.R_drew)); exact HO_11.out) hb)
                 have n1_ := Aside0.mk (blk_below (g := gb230) (o := .cells #[.int .i64 x231000_2, .int .i64 x231001_2, .int .i64 x231002_2, .int .i64 x231003_2, .bool x231004_2] 49 (0, 0)) (by (with_reducible repeat (first | refine blk_drewN ?_ _ | refine blk_drew ?_ | refine blk_alloc ?_ _)); exact BK230.out) hb)
                 have n2_ := Aside0.mk (below_step (by repeat (first | (with_reducible first | exact HB.out | apply below_alloc | apply pw_below_drewN | apply below_drew1 | refine below_set ?_ GE230.out) | exact HB.out)) hb)
                 clear HO_11
                 clear BK230
                 clear HB
                 have HO_11 := n0_
                 have BK230 := n1_
                 have HB := n2_
                 clear n0_ n1_ n2_
                 (try clear hb)
                 (try clear hb2)
                 (try clear hk)
                 (try clear hi)
                 refine hK.out _ _ ⟨(blk_cell BK230.out 0).trans rfl, (blk_cell BK230.out 1).trans rfl, (blk_cell BK230.out 2).trans rfl, (blk_cell BK230.out 3).trans rfl, (blk_cell BK230.out 4).trans rfl, HS5_, HS6_, HS7_, HS8_, HS9_, HS10_⟩ (fun hHeld => ?_)
                 clear hK K
                 refine norm_ (a' := ?_) ?_ ?_
                 rotate_left
                 ·
                  show Act.put _ (some 71) _ = _
                  simp only [Act.put, List.setIfInBounds_toArray, List.set_cons_zero, List.set_cons_succ, i64_w, i32_w]
                  rfl
                 refine pure_ (i := 15) (N := some 56) (v := ?_) (a' := ?_) #[true, true, true, true, true, true, true, true, true, true, true, true, true, true, true, true, false, false, false, false, false] rfl rfl (any_of HT_.out (by kernel_rfl)) (fun _ _ _ h => h) (Or.inl ⟨by rfl, ?_⟩) ?_ ?_
                 rotate_left
                 ·
                  intro w'
                  go_simp
                  with_reducible rfl
                 rotate_left
                 ·
                  simp only [Act.put, List.setIfInBounds_toArray, List.set_cons_zero, List.set_cons_succ, i64_w, i32_w]
                  rfl
                 refine pure_ (i := 16) (N := some 72) (v := ?_) (a' := ?_) #[true, true, true, true, true, true, true, true, true, true, true, true, true, true, true, true, true, false, false, false, false] rfl rfl (any_of HT_.out (by kernel_rfl)) (fun _ _ _ h => h) (Or.inl ⟨by rfl, ?_⟩) ?_ ?_
                 rotate_left
                 ·
                  intro w'
                  go_simp
                  with_reducible rfl
                 rotate_left
                 ·
                  simp only [Act.put, List.setIfInBounds_toArray, List.set_cons_zero, List.set_cons_succ, i64_w, i32_w]
                  rfl
                 refine pure_ (i := 17) (N := some 73) (v := ?_) (a' := ?_) #[true, true, true, true, true, true, true, true, true, true, true, true, true, true, true, true, true, true, false, false, false] rfl rfl (any_of HT_.out (by kernel_rfl)) (fun _ _ _ h => h) (Or.inl ⟨by rfl, ?_⟩) ?_ ?_
                 rotate_left
                 ·
                  intro w'
                  go_simp
                  with_reducible rfl
                 rotate_left
                 ·
                  simp only [Act.put, List.setIfInBounds_toArray, List.set_cons_zero, List.set_cons_succ, i64_w, i32_w]
                  rfl
                 refine one_ (i := 18) (N := some 14) #[true, true, true, true, true, true, true, true, true, true, true, true, true, true, true, true, true, true, true, false, false] rfl rfl (one_of HT_.out (by kernel_rfl)) (by decide) (fun K hK => ?_)
                 refine box_step ?hg (N := 14) ?hd (cs := #[.int .i64 0, .int .i64 0, .int .i64 0, .int .i64 0, .bool false]) (t := 49) ?hr ?_; (case hd => rfl); (case hg => rfl); (case hr => first | (go_simp; done) | (go_simp; rfl))
                 intro gb276 hg w78 hbox hb
                 have HS5_ := (hb.cell (World.block_lt_of_cell? _ _ (hHeld.2.2.2.2.2.1))).trans (hHeld.2.2.2.2.2.1)
                 have HS6_ := (hb.cell (World.block_lt_of_cell? _ _ (hHeld.2.2.2.2.2.2.1))).trans (hHeld.2.2.2.2.2.2.1)
                 have HS7_ := (hb.cell (World.block_lt_of_cell? _ _ (hHeld.2.2.2.2.2.2.2.1))).trans (hHeld.2.2.2.2.2.2.2.1)
                 have HS8_ := (hb.cell (World.block_lt_of_cell? _ _ (hHeld.2.2.2.2.2.2.2.2.1))).trans (hHeld.2.2.2.2.2.2.2.2.1)
                 have HS9_ := (hb.cell (World.block_lt_of_cell? _ _ (hHeld.2.2.2.2.2.2.2.2.2.1))).trans (hHeld.2.2.2.2.2.2.2.2.2.1)
                 have HS10_ := (hb.cell (World.block_lt_of_cell? _ _ (hHeld.2.2.2.2.2.2.2.2.2.2))).trans (hHeld.2.2.2.2.2.2.2.2.2.2)
                 have n0_ := Aside0.mk (Kd.R_below (by (with_reducible repeat (first | apply Kd.R_alloc | apply Kd.R_drewN | apply Kd.R_drew)); exact HO_11.out) hb)
                 have n1_ := Aside0.mk (blk_below (g := gb230) (o := .cells #[.int .i64 x231000_2, .int .i64 x231001_2, .int .i64 x231002_2, .int .i64 x231003_2, .bool x231004_2] 49 (0, 0)) (by (with_reducible repeat (first | refine blk_drewN ?_ _ | refine blk_drew ?_ | refine blk_alloc ?_ _)); exact BK230.out) hb)
                 have n2_ := Aside0.mk (below_step (by repeat (first | (with_reducible first | exact HB.out | apply below_alloc | apply pw_below_drewN | apply below_drew1 | refine below_set ?_ GE230.out) | exact HB.out)) hb)
                 have n3_ := Aside0.mk (hbox)
                 have n4_ := Aside0.mk ((by rw [hg]; exact (below_size (by repeat (first | (with_reducible first | exact HB.out | apply below_alloc | apply pw_below_drewN | apply below_drew1 | refine below_set ?_ GE230.out) | exact HB.out))) : w.heap.size ≤ gb276))
                 have n5_ := Aside0.mk ((by rw [hg]; exact (below_size (by repeat (first | (with_reducible first | exact HB.out | apply below_alloc | apply pw_below_drewN | apply below_drew1 | refine below_set ?_ GE230.out) | exact HB.out))) : w.heap.size ≤ gb276))
                 have n6_ := Aside0.mk ((by rw [hg]; exact Nat.ne_of_lt (blk_lt (g := gb230) (o := .cells #[.int .i64 x231000_2, .int .i64 x231001_2, .int .i64 x231002_2, .int .i64 x231003_2, .bool x231004_2] 49 (0, 0)) (by (with_reducible repeat (first | refine blk_drewN ?_ _ | refine blk_drew ?_ | refine blk_alloc ?_ _)); exact BK230.out)) : gb230 ≠ gb276))
                 have n7_ := Aside0.mk ((by rw [hg]; exact Nat.ne_of_gt (blk_lt (g := gb230) (o := .cells #[.int .i64 x231000_2, .int .i64 x231001_2, .int .i64 x231002_2, .int .i64 x231003_2, .bool x231004_2] 49 (0, 0)) (by (with_reducible repeat (first | refine blk_drewN ?_ _ | refine blk_drew ?_ | refine blk_alloc ?_ _)); exact BK230.out)) : gb276 ≠ gb230))
                 clear HO_11
                 clear BK230
                 clear HB
                 have HO_11 := n0_
                 have BK230 := n1_
                 have HB := n2_
                 have BK276 := n3_
                 have GW276 := n4_
                 have GE276 := n5_
                 have NB230_276 := n6_
                 have NB276_230 := n7_
                 clear n0_ n1_ n2_ n3_ n4_ n5_ n6_ n7_
                 clear hb hbox hg
                 refine hK.out _ _ ⟨(blk_cell BK230.out 0).trans rfl, (blk_cell BK230.out 1).trans rfl, (blk_cell BK230.out 2).trans rfl, (blk_cell BK230.out 3).trans rfl, (blk_cell BK230.out 4).trans rfl, HS5_, HS6_, HS7_, HS8_, HS9_, HS10_⟩ (fun hHeld => ?_)
                 clear hK K
                 refine norm_ (a' := ?_) ?_ ?_
                 rotate_left
                 ·
                  show Act.put _ (some 14) _ = _
                  simp only [Act.put, List.setIfInBounds_toArray, List.set_cons_zero, List.set_cons_succ, i64_w, i32_w]
                  rfl
                 exact norm_ (by simp only [putAll, Act.put, List.setIfInBounds_toArray, List.set_cons_zero, List.set_cons_succ]) (hCont (gb276) _ ⟨hHeld, (by (with_reducible repeat (first | apply Kd.R_alloc | apply Kd.R_drewN | apply Kd.R_drew)); exact HO_11.out), (by (with_reducible repeat (first | refine blk_drewN ?_ _ | refine blk_drew ?_ | refine blk_alloc ?_ _)); exact BK230.out), (by (with_reducible repeat (first | refine blk_drewN ?_ _ | refine blk_drew ?_ | refine blk_alloc ?_ _)); exact BK276.out), GW276.out, GE276.out, NB230_276.out, NB276_230.out, (by repeat (first | (with_reducible first | exact HB.out | apply below_alloc | apply pw_below_drewN | apply below_drew1 | refine below_set ?_ GE230.out | refine below_set ?_ GE276.out) | exact HB.out))⟩)
                ·
                 skip
                 refine box_step ?hg (N := 14) ?hd (cs := #[.int .i64 0, .int .i64 0, .int .i64 0, .int .i64 0, .bool false]) (t := 49) ?hr ?_; (case hd => rfl); (case hg => rfl); (case hr => first | (go_simp; done) | (go_simp; rfl))
                 intro gb276 hg w77 hbox hb
                 have HS5_ := (hb.cell (World.block_lt_of_cell? _ _ (hHeld.2.2.2.2.2.1))).trans (hHeld.2.2.2.2.2.1)
                 have HS6_ := (hb.cell (World.block_lt_of_cell? _ _ (hHeld.2.2.2.2.2.2.1))).trans (hHeld.2.2.2.2.2.2.1)
                 have HS7_ := (hb.cell (World.block_lt_of_cell? _ _ (hHeld.2.2.2.2.2.2.2.1))).trans (hHeld.2.2.2.2.2.2.2.1)
                 have HS8_ := (hb.cell (World.block_lt_of_cell? _ _ (hHeld.2.2.2.2.2.2.2.2.1))).trans (hHeld.2.2.2.2.2.2.2.2.1)
                 have HS9_ := (hb.cell (World.block_lt_of_cell? _ _ (hHeld.2.2.2.2.2.2.2.2.2.1))).trans (hHeld.2.2.2.2.2.2.2.2.2.1)
                 have HS10_ := (hb.cell (World.block_lt_of_cell? _ _ (hHeld.2.2.2.2.2.2.2.2.2.2))).trans (hHeld.2.2.2.2.2.2.2.2.2.2)
                 have n0_ := Aside0.mk (Kd.R_below (by (with_reducible repeat (first | apply Kd.R_alloc | apply Kd.R_drewN | apply Kd.R_drew)); exact HO_11.out) hb)
                 have n1_ := Aside0.mk (blk_below (g := gb230) (o := .cells #[.int .i64 x231000_2, .int .i64 x231001_2, .int .i64 x231002_2, .int .i64 x231003_2, .bool x231004_2] 49 (0, 0)) (by (with_reducible repeat (first | refine blk_drewN ?_ _ | refine blk_drew ?_ | refine blk_alloc ?_ _)); exact BK230.out) hb)
                 have n2_ := Aside0.mk (below_step (by repeat (first | (with_reducible first | exact HB.out | apply below_alloc | apply pw_below_drewN | apply below_drew1 | refine below_set ?_ GE230.out) | exact HB.out)) hb)
                 have n3_ := Aside0.mk (hbox)
                 have n4_ := Aside0.mk ((by rw [hg]; exact (below_size (by repeat (first | (with_reducible first | exact HB.out | apply below_alloc | apply pw_below_drewN | apply below_drew1 | refine below_set ?_ GE230.out) | exact HB.out))) : w.heap.size ≤ gb276))
                 have n5_ := Aside0.mk ((by rw [hg]; exact (below_size (by repeat (first | (with_reducible first | exact HB.out | apply below_alloc | apply pw_below_drewN | apply below_drew1 | refine below_set ?_ GE230.out) | exact HB.out))) : w.heap.size ≤ gb276))
                 have n6_ := Aside0.mk ((by rw [hg]; exact Nat.ne_of_lt (blk_lt (g := gb230) (o := .cells #[.int .i64 x231000_2, .int .i64 x231001_2, .int .i64 x231002_2, .int .i64 x231003_2, .bool x231004_2] 49 (0, 0)) (by (with_reducible repeat (first | refine blk_drewN ?_ _ | refine blk_drew ?_ | refine blk_alloc ?_ _)); exact BK230.out)) : gb230 ≠ gb276))
                 have n7_ := Aside0.mk ((by rw [hg]; exact Nat.ne_of_gt (blk_lt (g := gb230) (o := .cells #[.int .i64 x231000_2, .int .i64 x231001_2, .int .i64 x231002_2, .int .i64 x231003_2, .bool x231004_2] 49 (0, 0)) (by (with_reducible repeat (first | refine blk_drewN ?_ _ | refine blk_drew ?_ | refine blk_alloc ?_ _)); exact BK230.out)) : gb276 ≠ gb230))
                 clear HO_11
                 clear BK230
                 clear HB
                 have HO_11 := n0_
                 have BK230 := n1_
                 have HB := n2_
                 have BK276 := n3_
                 have GW276 := n4_
                 have GE276 := n5_
                 have NB230_276 := n6_
                 have NB276_230 := n7_
                 clear n0_ n1_ n2_ n3_ n4_ n5_ n6_ n7_
                 clear hb hbox hg
                 refine hK.out _ _ ⟨(blk_cell BK230.out 0).trans rfl, (blk_cell BK230.out 1).trans rfl, (blk_cell BK230.out 2).trans rfl, (blk_cell BK230.out 3).trans rfl, (blk_cell BK230.out 4).trans rfl, HS5_, HS6_, HS7_, HS8_, HS9_, HS10_⟩ (fun hHeld => ?_)
                 clear hK K
                 refine norm_ (a' := ?_) ?_ ?_
                 rotate_left
                 ·
                  show Act.put _ (some 14) _ = _
                  simp only [Act.put, List.setIfInBounds_toArray, List.set_cons_zero, List.set_cons_succ, i64_w, i32_w]
                  rfl
                 refine one_ (i := 14) (N := some 71) #[true, true, true, true, true, true, true, true, true, true, true, true, true, true, true, false, false, false, true, false, false] rfl rfl (one_of HT_.out (by kernel_rfl)) (by decide) (fun K hK => ?_)
                 refine goes_ Try.func32 (by kernel_rfl) rfl #[.agg #[.int .i64 x231000_2, .int .i64 x231001_2, .int .i64 x231002_2, .int .i64 x231003_2, .bool x231004_2], .int .i64 (Int.tmod (wrap64 ((rd_T54 y237 x12_2).f0)) 4), .int .i64 (wrap64 ((rd_T54 y237 x12_2).f1)), .int .i64 (wrap64 ((rd_T54 y237 x12_2).f2))] (by rfl) rfl rfl (by (try simp only [List.map_toArray, List.map_cons, List.map_nil]); first | done | rfl | (simp only [List.length_drop, List.length_take]; rfl)) ?_
                 with_reducible refine (servo_Step.calls x231000_2 x231001_2 x231002_2 x231003_2 x231004_2 (Int.tmod (wrap64 ((rd_T54 y237 x12_2).f0)) 4) (wrap64 ((rd_T54 y237 x12_2).f1)) (wrap64 ((rd_T54 y237 x12_2).f2)) t270 t271 t272 t273 true t275 _ A71.out).mono ?_
                 rintro e w78 ⟨rfl, hb⟩
                 have HS5_ := (hb.cell (World.block_lt_of_cell? _ _ (hHeld.2.2.2.2.2.1))).trans (hHeld.2.2.2.2.2.1)
                 have HS6_ := (hb.cell (World.block_lt_of_cell? _ _ (hHeld.2.2.2.2.2.2.1))).trans (hHeld.2.2.2.2.2.2.1)
                 have HS7_ := (hb.cell (World.block_lt_of_cell? _ _ (hHeld.2.2.2.2.2.2.2.1))).trans (hHeld.2.2.2.2.2.2.2.1)
                 have HS8_ := (hb.cell (World.block_lt_of_cell? _ _ (hHeld.2.2.2.2.2.2.2.2.1))).trans (hHeld.2.2.2.2.2.2.2.2.1)
                 have HS9_ := (hb.cell (World.block_lt_of_cell? _ _ (hHeld.2.2.2.2.2.2.2.2.2.1))).trans (hHeld.2.2.2.2.2.2.2.2.2.1)
                 have HS10_ := (hb.cell (World.block_lt_of_cell? _ _ (hHeld.2.2.2.2.2.2.2.2.2.2))).trans (hHeld.2.2.2.2.2.2.2.2.2.2)
                 refine ⟨_, rfl, ?_⟩
                 have n0_ := Aside0.mk (Kd.R_below (by (with_reducible repeat (first | apply Kd.R_alloc | apply Kd.R_drewN | apply Kd.R_drew)); exact HO_11.out) hb)
                 have n1_ := Aside0.mk (blk_below (g := gb230) (o := .cells #[.int .i64 x231000_2, .int .i64 x231001_2, .int .i64 x231002_2, .int .i64 x231003_2, .bool x231004_2] 49 (0, 0)) (by (with_reducible repeat (first | refine blk_drewN ?_ _ | refine blk_drew ?_ | refine blk_alloc ?_ _)); exact BK230.out) hb)
                 have n2_ := Aside0.mk (blk_below (g := gb276) (o := .cells #[.int .i64 0, .int .i64 0, .int .i64 0, .int .i64 0, .bool false] 49 (0, 0)) (by (with_reducible repeat (first | refine blk_drewN ?_ _ | refine blk_drew ?_ | refine blk_alloc ?_ _)); exact BK276.out) hb)
                 have n3_ := Aside0.mk (below_step (by repeat (first | (with_reducible first | exact HB.out | apply below_alloc | apply pw_below_drewN | apply below_drew1 | refine below_set ?_ GE230.out | refine below_set ?_ GE276.out) | exact HB.out)) hb)
                 clear HO_11
                 clear BK230
                 clear BK276
                 clear HB
                 have HO_11 := n0_
                 have BK230 := n1_
                 have BK276 := n2_
                 have HB := n3_
                 clear n0_ n1_ n2_ n3_
                 (try clear hb)
                 (try clear hb2)
                 (try clear hk)
                 (try clear hi)
                 refine hK.out _ _ ⟨(blk_cell BK230.out 0).trans rfl, (blk_cell BK230.out 1).trans rfl, (blk_cell BK230.out 2).trans rfl, (blk_cell BK230.out 3).trans rfl, (blk_cell BK230.out 4).trans rfl, HS5_, HS6_, HS7_, HS8_, HS9_, HS10_⟩ (fun hHeld => ?_)
                 clear hK K
                 refine norm_ (a' := ?_) ?_ ?_
                 rotate_left
                 ·
                  show Act.put _ (some 71) _ = _
                  simp only [Act.put, List.setIfInBounds_toArray, List.set_cons_zero, List.set_cons_succ, i64_w, i32_w]
                  rfl
                 refine pure_ (i := 15) (N := some 56) (v := ?_) (a' := ?_) #[true, true, true, true, true, true, true, true, true, true, true, true, true, true, true, true, false, false, true, false, false] rfl rfl (any_of HT_.out (by kernel_rfl)) (fun _ _ _ h => h) (Or.inl ⟨by rfl, ?_⟩) ?_ ?_
                 rotate_left
                 ·
                  intro w'
                  go_simp
                  with_reducible rfl
                 rotate_left
                 ·
                  simp only [Act.put, List.setIfInBounds_toArray, List.set_cons_zero, List.set_cons_succ, i64_w, i32_w]
                  rfl
                 refine pure_ (i := 16) (N := some 72) (v := ?_) (a' := ?_) #[true, true, true, true, true, true, true, true, true, true, true, true, true, true, true, true, true, false, true, false, false] rfl rfl (any_of HT_.out (by kernel_rfl)) (fun _ _ _ h => h) (Or.inl ⟨by rfl, ?_⟩) ?_ ?_
                 rotate_left
                 ·
                  intro w'
                  go_simp
                  with_reducible rfl
                 rotate_left
                 ·
                  simp only [Act.put, List.setIfInBounds_toArray, List.set_cons_zero, List.set_cons_succ, i64_w, i32_w]
                  rfl
                 refine pure_ (i := 17) (N := some 73) (v := ?_) (a' := ?_) #[true, true, true, true, true, true, true, true, true, true, true, true, true, true, true, true, true, true, true, false, false] rfl rfl (any_of HT_.out (by kernel_rfl)) (fun _ _ _ h => h) (Or.inl ⟨by rfl, ?_⟩) ?_ ?_
                 rotate_left
                 ·
                  intro w'
                  go_simp
                  with_reducible rfl
                 rotate_left
                 ·
                  simp only [Act.put, List.setIfInBounds_toArray, List.set_cons_zero, List.set_cons_succ, i64_w, i32_w]
                  rfl
                 exact norm_ (by simp only [putAll, Act.put, List.setIfInBounds_toArray, List.set_cons_zero, List.set_cons_succ]) (hCont (gb276) _ ⟨hHeld, (by (with_reducible repeat (first | apply Kd.R_alloc | apply Kd.R_drewN | apply Kd.R_drew)); exact HO_11.out), (by (with_reducible repeat (first | refine blk_drewN ?_ _ | refine blk_drew ?_ | refine blk_alloc ?_ _)); exact BK230.out), (by (with_reducible repeat (first | refine blk_drewN ?_ _ | refine blk_drew ?_ | refine blk_alloc ?_ _)); exact BK276.out), GW276.out, GE276.out, NB230_276.out, NB276_230.out, (by repeat (first | (with_reducible first | exact HB.out | apply below_alloc | apply pw_below_drewN | apply below_drew1 | refine below_set ?_ GE230.out | refine below_set ?_ GE276.out) | exact HB.out))⟩)
               rintro gb276 w79 ⟨hS_, h0_, h1_, h2_, h3_, h4_, h5_, h6_, h7_⟩
               have n0_ : Aside0 (Kd.R k54 54 w79 w.heap.size (fun _ => True) (.slice (some ad240) y237.length co75) y237) := ⟨h0_⟩
               have n1_ : Aside0 (w79.heap[gb230]? = some (.cells #[.int .i64 x231000_2, .int .i64 x231001_2, .int .i64 x231002_2, .int .i64 x231003_2, .bool x231004_2] 49 (0, 0))) := ⟨h1_⟩
               have n2_ : Aside0 (w79.heap[gb276]? = some (.cells #[.int .i64 0, .int .i64 0, .int .i64 0, .int .i64 0, .bool false] 49 (0, 0))) := ⟨h2_⟩
               have n3_ : Aside0 (w.heap.size ≤ gb276) := ⟨h3_⟩
               have n4_ : Aside0 (w.heap.size ≤ gb276) := ⟨h4_⟩
               have n5_ : Aside0 (gb230 ≠ gb276) := ⟨h5_⟩
               have n6_ : Aside0 (gb276 ≠ gb230) := ⟨h6_⟩
               have n7_ : Aside0 (Below w.heap.size w w79) := ⟨h7_⟩
               clear HO_11
               clear BK230
               clear HB
               clear h0_ h1_ h2_ h3_ h4_ h5_ h6_ h7_
               have HO_11 := n0_
               have BK230 := n1_
               have BK276 := n2_
               have GW276 := n3_
               have GE276 := n4_
               have NB230_276 := n5_
               have NB276_230 := n6_
               have HB := n7_
               clear n0_ n1_ n2_ n3_ n4_ n5_ n6_ n7_
               have hHeld : w79.cell? ⟨gb230, 0, none⟩ = some (.int .i64 x231000_2) ∧ w79.cell? ⟨gb230, 1, none⟩ = some (.int .i64 x231001_2) ∧ w79.cell? ⟨gb230, 2, none⟩ = some (.int .i64 x231002_2) ∧ w79.cell? ⟨gb230, 3, none⟩ = some (.int .i64 x231003_2) ∧ w79.cell? ⟨gb230, 4, none⟩ = some (.bool x231004_2) ∧ w79.cell? (ad240.add ((x12_2).toNat * 3)) = some (.int .u8 ((rd_T54 y237 x12_2).f0)) ∧ w79.cell? ⟨(ad240.add ((x12_2).toNat * 3)).block, (ad240.add ((x12_2).toNat * 3)).off + 1, none⟩ = some (.int .i16 ((rd_T54 y237 x12_2).f1)) ∧ w79.cell? ⟨(ad240.add ((x12_2).toNat * 3)).block, (ad240.add ((x12_2).toNat * 3)).off + 2, none⟩ = some (.int .i16 ((rd_T54 y237 x12_2).f2)) ∧ w79.cell? (ad240.add ((x12_2).toNat * 3)) = some (.int .u8 ((rd_T54 y237 x12_2).f0)) ∧ w79.cell? ⟨(ad240.add ((x12_2).toNat * 3)).block, (ad240.add ((x12_2).toNat * 3)).off + 1, none⟩ = some (.int .i16 ((rd_T54 y237 x12_2).f1)) ∧ w79.cell? ⟨(ad240.add ((x12_2).toNat * 3)).block, (ad240.add ((x12_2).toNat * 3)).off + 2, none⟩ = some (.int .i16 ((rd_T54 y237 x12_2).f2)) := hS_
               refine norm_ (a' := ?_) ?_ ?_
               rotate_left
               ·
                simp only [putAll, Act.put, List.setIfInBounds_toArray, List.set_cons_zero, List.set_cons_succ]
                rfl
               refine one_ (i := 19) (N := none) #[true, true, true, true, true, true, true, true, true, true, true, true, true, true, true, true, true, true, true, true, false] rfl rfl (one_of HT_.out (by kernel_rfl)) (by decide) (fun K hK => ?_)
               have hs80 : w79.cell? ⟨gb276, 0, none⟩ = some (.int .i64 0) := (blk_cell BK276.out 0).trans rfl
               have hfs80 := blk_frozen BK276.out 0
               have hns80_0 := NB230_276.out
               have hms80_0 := NB276_230.out
               have hs81 : w79.cell? ⟨gb276, 1, none⟩ = some (.int .i64 0) := (blk_cell BK276.out 1).trans rfl
               have hfs81 := blk_frozen BK276.out 1
               have hns81_0 := NB230_276.out
               have hms81_0 := NB276_230.out
               have hs82 : w79.cell? ⟨gb276, 2, none⟩ = some (.int .i64 0) := (blk_cell BK276.out 2).trans rfl
               have hfs82 := blk_frozen BK276.out 2
               have hns82_0 := NB230_276.out
               have hms82_0 := NB276_230.out
               have hs83 : w79.cell? ⟨gb276, 3, none⟩ = some (.int .i64 0) := (blk_cell BK276.out 3).trans rfl
               have hfs83 := blk_frozen BK276.out 3
               have hns83_0 := NB230_276.out
               have hms83_0 := NB276_230.out
               have hs84 : w79.cell? ⟨gb276, 4, none⟩ = some (.bool false) := (blk_cell BK276.out 4).trans rfl
               have hfs84 := blk_frozen BK276.out 4
               have hns84_0 := NB230_276.out
               have hms84_0 := NB276_230.out
               refine skip_ (w1 := ?_) (by rfl) rfl ?_ ?_
               rotate_left
               ·
                go_simp
                rfl
               refine hK.out _ _ ⟨((cell_far5 (g := gb276) NB230_276.out).trans (hHeld.1)), ((cell_far5 (g := gb276) NB230_276.out).trans (hHeld.2.1)), ((cell_far5 (g := gb276) NB230_276.out).trans (hHeld.2.2.1)), ((cell_far5 (g := gb276) NB230_276.out).trans (hHeld.2.2.2.1)), ((cell_far5 (g := gb276) NB230_276.out).trans (hHeld.2.2.2.2.1)), ((cell_far5 (g := gb276) (by first | exact Kd.own_blk (Kd.R_ne HO_11.out BK276.out (by decide)) | (rw [add_block]; exact Kd.own_blk (Kd.R_ne HO_11.out BK276.out (by decide))) | (show (Addr.add _ _).block ≠ _; rw [add_block]; exact Kd.own_blk (Kd.R_ne HO_11.out BK276.out (by decide))) | (dsimp only; exact Kd.own_blk (Kd.R_ne HO_11.out BK276.out (by decide))))).trans (hHeld.2.2.2.2.2.1)), ((cell_far5 (g := gb276) (by first | exact Kd.own_blk (Kd.R_ne HO_11.out BK276.out (by decide)) | (rw [add_block]; exact Kd.own_blk (Kd.R_ne HO_11.out BK276.out (by decide))) | (show (Addr.add _ _).block ≠ _; rw [add_block]; exact Kd.own_blk (Kd.R_ne HO_11.out BK276.out (by decide))) | (dsimp only; exact Kd.own_blk (Kd.R_ne HO_11.out BK276.out (by decide))))).trans (hHeld.2.2.2.2.2.2.1)), ((cell_far5 (g := gb276) (by first | exact Kd.own_blk (Kd.R_ne HO_11.out BK276.out (by decide)) | (rw [add_block]; exact Kd.own_blk (Kd.R_ne HO_11.out BK276.out (by decide))) | (show (Addr.add _ _).block ≠ _; rw [add_block]; exact Kd.own_blk (Kd.R_ne HO_11.out BK276.out (by decide))) | (dsimp only; exact Kd.own_blk (Kd.R_ne HO_11.out BK276.out (by decide))))).trans (hHeld.2.2.2.2.2.2.2.1)), ((cell_far5 (g := gb276) (by first | exact Kd.own_blk (Kd.R_ne HO_11.out BK276.out (by decide)) | (rw [add_block]; exact Kd.own_blk (Kd.R_ne HO_11.out BK276.out (by decide))) | (show (Addr.add _ _).block ≠ _; rw [add_block]; exact Kd.own_blk (Kd.R_ne HO_11.out BK276.out (by decide))) | (dsimp only; exact Kd.own_blk (Kd.R_ne HO_11.out BK276.out (by decide))))).trans (hHeld.2.2.2.2.2.2.2.2.1)), ((cell_far5 (g := gb276) (by first | exact Kd.own_blk (Kd.R_ne HO_11.out BK276.out (by decide)) | (rw [add_block]; exact Kd.own_blk (Kd.R_ne HO_11.out BK276.out (by decide))) | (show (Addr.add _ _).block ≠ _; rw [add_block]; exact Kd.own_blk (Kd.R_ne HO_11.out BK276.out (by decide))) | (dsimp only; exact Kd.own_blk (Kd.R_ne HO_11.out BK276.out (by decide))))).trans (hHeld.2.2.2.2.2.2.2.2.2.1)), ((cell_far5 (g := gb276) (by first | exact Kd.own_blk (Kd.R_ne HO_11.out BK276.out (by decide)) | (rw [add_block]; exact Kd.own_blk (Kd.R_ne HO_11.out BK276.out (by decide))) | (show (Addr.add _ _).block ≠ _; rw [add_block]; exact Kd.own_blk (Kd.R_ne HO_11.out BK276.out (by decide))) | (dsimp only; exact Kd.own_blk (Kd.R_ne HO_11.out BK276.out (by decide))))).trans (hHeld.2.2.2.2.2.2.2.2.2.2))⟩ (fun hHeld => ?_)
               clear hK K
               refine pure_ (i := 20) (N := some 15) (v := ?_) (a' := ?_) #[true, true, true, true, true, true, true, true, true, true, true, true, true, true, true, true, true, true, true, true, true] rfl rfl (any_of HT_.out (by kernel_rfl)) (fun _ _ _ h => h) (Or.inl ⟨by rfl, ?_⟩) ?_ ?_
               rotate_left
               ·
                intro w'
                go_simp
                with_reducible rfl
               rotate_left
               ·
                simp only [Act.put, List.setIfInBounds_toArray, List.set_cons_zero, List.set_cons_succ, i64_w, i32_w]
                rfl
               refine done_ (done_of HT_.out (by kernel_rfl)) ?_
               have hnb85 := NB276_230.out
               have hnc85 := NB230_276.out
               have hcz86_0 : w79.cell? ⟨gb276, 0, none⟩ = some (.int .i64 0) := (blk_cell BK276.out 0).trans rfl
               have hcz86_1 : w79.cell? ⟨gb276, 1, none⟩ = some (.int .i64 0) := (blk_cell BK276.out 1).trans rfl
               have hcz86_2 : w79.cell? ⟨gb276, 2, none⟩ = some (.int .i64 0) := (blk_cell BK276.out 2).trans rfl
               have hcz86_3 : w79.cell? ⟨gb276, 3, none⟩ = some (.int .i64 0) := (blk_cell BK276.out 3).trans rfl
               have hcz86_4 : w79.cell? ⟨gb276, 4, none⟩ = some (.bool false) := (blk_cell BK276.out 4).trans rfl
               have hfz86_0 := blk_frozen BK276.out 0
               have hfz86_1 := blk_frozen BK276.out 1
               have hfz86_2 := blk_frozen BK276.out 2
               have hfz86_3 := blk_frozen BK276.out 3
               have hfz86_4 := blk_frozen BK276.out 4
               have hcz87_0 : w79.cell? ⟨gb230, 0, none⟩ = some (.int .i64 x231000_2) := (blk_cell BK230.out 0).trans rfl
               have hcz87_1 : w79.cell? ⟨gb230, 1, none⟩ = some (.int .i64 x231001_2) := (blk_cell BK230.out 1).trans rfl
               have hcz87_2 : w79.cell? ⟨gb230, 2, none⟩ = some (.int .i64 x231002_2) := (blk_cell BK230.out 2).trans rfl
               have hcz87_3 : w79.cell? ⟨gb230, 3, none⟩ = some (.int .i64 x231003_2) := (blk_cell BK230.out 3).trans rfl
               have hcz87_4 : w79.cell? ⟨gb230, 4, none⟩ = some (.bool x231004_2) := (blk_cell BK230.out 4).trans rfl
               have hfz87_0 := blk_frozen BK230.out 0
               have hfz87_1 := blk_frozen BK230.out 1
               have hfz87_2 := blk_frozen BK230.out 2
               have hfz87_3 := blk_frozen BK230.out 3
               have hfz87_4 := blk_frozen BK230.out 4
               try go_wp2
               go_roundg k2
               case measure => have := HJ4.out; have := HK2.out; omega
               case rel => exact ⟨(wrap64 (x9_2 + 1)), (decide ((wrap64 (x9_2 + 1)) > 6)), (wrap64 (x12_2 + 1)), (t270), (t271), (t272), (t273), (true), (by first | rfl | (simp; done) | (simp [*]; done)), (by first | rfl | (simp; done) | (simp [*]; done)), (by first | rfl | (simp; done) | (simp [*]; done)), H', ⟨by have := HJ4.out; have := HK2.out; omega⟩, ⟨by (with_reducible repeat (first | apply Kd.R_alloc | apply Kd.R_drewN | apply Kd.R_drew)); exact Kd.R_mono (Kd.R_far (p := ⟨gb230, 4, none⟩) (Kd.R_far (p := ⟨gb230, 3, none⟩) (Kd.R_far (p := ⟨gb230, 2, none⟩) (Kd.R_far (p := ⟨gb230, 1, none⟩) (Kd.R_far (p := ⟨gb230, 0, none⟩) (Kd.R_far (p := ⟨gb276, 4, none⟩) (Kd.R_far (p := ⟨gb276, 3, none⟩) (Kd.R_far (p := ⟨gb276, 2, none⟩) (Kd.R_far (p := ⟨gb276, 1, none⟩) (Kd.R_far (p := ⟨gb276, 0, none⟩) (Kd.R_types (Kd.R_types HO_11.out BK276.out (by decide)) BK230.out (by decide)) (fun _ hk => hk.1.2) (.int .i64 t270)) (fun _ hk => hk.1.2) (.int .i64 t271)) (fun _ hk => hk.1.2) (.int .i64 t272)) (fun _ hk => hk.1.2) (.int .i64 t273)) (fun _ hk => hk.1.2) (.bool true)) (fun _ hk => hk.2) (.int .i64 t270)) (fun _ hk => hk.2) (.int .i64 t271)) (fun _ hk => hk.2) (.int .i64 t272)) (fun _ hk => hk.2) (.int .i64 t273)) (fun _ hk => hk.2) (.bool true)) (fun _ hk => trivial)⟩, ⟨by (with_reducible repeat (first | refine blk_drewN ?_ _ | refine blk_drew ?_ | refine blk_alloc ?_ _)); refine blk_put (cs := #[.int .i64 t270, .int .i64 t271, .int .i64 t272, .int .i64 t273, .bool x231004_2]) ?_ 4 _ rfl; (with_reducible repeat (first | refine blk_drewN ?_ _ | refine blk_drew ?_ | refine blk_alloc ?_ _)); refine blk_put (cs := #[.int .i64 t270, .int .i64 t271, .int .i64 t272, .int .i64 x231003_2, .bool x231004_2]) ?_ 3 _ rfl; (with_reducible repeat (first | refine blk_drewN ?_ _ | refine blk_drew ?_ | refine blk_alloc ?_ _)); refine blk_put (cs := #[.int .i64 t270, .int .i64 t271, .int .i64 x231002_2, .int .i64 x231003_2, .bool x231004_2]) ?_ 2 _ rfl; (with_reducible repeat (first | refine blk_drewN ?_ _ | refine blk_drew ?_ | refine blk_alloc ?_ _)); refine blk_put (cs := #[.int .i64 t270, .int .i64 x231001_2, .int .i64 x231002_2, .int .i64 x231003_2, .bool x231004_2]) ?_ 1 _ rfl; (with_reducible repeat (first | refine blk_drewN ?_ _ | refine blk_drew ?_ | refine blk_alloc ?_ _)); refine blk_put (cs := #[.int .i64 x231000_2, .int .i64 x231001_2, .int .i64 x231002_2, .int .i64 x231003_2, .bool x231004_2]) ?_ 0 _ rfl; (with_reducible repeat (first | refine blk_drewN ?_ _ | refine blk_drew ?_ | refine blk_alloc ?_ _)); refine blk_far ?_ NB230_276.out _; (with_reducible repeat (first | refine blk_drewN ?_ _ | refine blk_drew ?_ | refine blk_alloc ?_ _)); refine blk_far ?_ NB230_276.out _; (with_reducible repeat (first | refine blk_drewN ?_ _ | refine blk_drew ?_ | refine blk_alloc ?_ _)); refine blk_far ?_ NB230_276.out _; (with_reducible repeat (first | refine blk_drewN ?_ _ | refine blk_drew ?_ | refine blk_alloc ?_ _)); refine blk_far ?_ NB230_276.out _; (with_reducible repeat (first | refine blk_drewN ?_ _ | refine blk_drew ?_ | refine blk_alloc ?_ _)); refine blk_far ?_ NB230_276.out _; (with_reducible repeat (first | refine blk_drewN ?_ _ | refine blk_drew ?_ | refine blk_alloc ?_ _)); exact BK230.out⟩, ⟨by repeat (first | (with_reducible first | exact HB.out | apply below_alloc | apply pw_below_drewN | apply below_drew1 | refine below_set ?_ GE230.out | refine below_set ?_ GE276.out) | exact HB.out)⟩⟩
              ·
               rw [if_neg c74] at H
               have c74b0 : (t275 == 0) = false := beq_eq_false_iff_ne.mpr c74
               have c74b1 : (t275 != 0) = true := bne_iff_ne.mpr c74
               exact absurd HT.out (by rw [← Option.some.inj H]; decide)
             ·
              rw [if_neg c73] at H
              have c73b0 : decide (6 < (wrap64 (x9_2 + 1))) = false := decide_eq_false c73
              have e74 : t274 = false := by (have h74 := c72b0; rw [decide_eq_false (by first | exact c73 | exact fun h_ => c73 h_)] at h74; simpa using h74)
              clear c72b0
              try clear c72b1
              try clear c72b2
              subst e74
              clear c73
              have H' := Aside0.mk H
              clear H
              obtain ⟨Ao88, co88, eo88⟩ := Kd.R_slice HO_11.out
              subst eo88
              have p240 : 0 ≤ (x12_2 : Int) := of_decide_eq_true (by first | (with_reducible assumption) | assumption)
              have q240 : x12_2 < (y237.length : Int) := of_decide_eq_true (by first | (with_reducible assumption) | assumption)
              obtain ⟨ad240, e240, hx240_0, hx240_1, hx240_2⟩ := at_T54 (Kd.R_reads' HO_11.out).2.2 x12_2 p240 q240
              cases e240
              replace p240 := eq_true p240
              replace q240 := eq_true q240
              try go_wp2
              have n0_ := Aside0.mk (Kd.R_drew HO_11.out)
              have n1_ := Aside0.mk (blk_drew BK230.out)
              have n2_ := Aside0.mk (below_drew1 HB.out)
              clear HO_11
              clear BK230
              clear HB
              have HO_11 := n0_
              have BK230 := n1_
              have HB := n2_
              clear n0_ n1_ n2_
              have p268 : 0 ≤ (x12_2 : Int) := of_decide_eq_true (by first | (with_reducible assumption) | assumption)
              have q268 : x12_2 < (y237.length : Int) := of_decide_eq_true (by first | (with_reducible assumption) | assumption)
              obtain ⟨ad268, e268, hx268_0, hx268_1, hx268_2⟩ := at_T54 (Kd.R_reads' HO_11.out).2.2 x12_2 p268 q268
              obtain rfl : ad240 = ad268 := (by injection e268)
              replace p268 := eq_true p268
              replace q268 := eq_true q268
              have p269 : 0 ≤ (x12_2 : Int) := of_decide_eq_true (by first | (with_reducible assumption) | assumption)
              have q269 : x12_2 < (y237.length : Int) := of_decide_eq_true (by first | (with_reducible assumption) | assumption)
              obtain ⟨ad269, e269, hx269_0, hx269_1, hx269_2⟩ := at_T54 (Kd.R_reads' HO_11.out).2.2 x12_2 p269 q269
              obtain rfl : ad240 = ad269 := (by injection e269)
              replace p269 := eq_true p269
              replace q269 := eq_true q269
              refine start_ (n := 21) (S := fun w' => w'.cell? ⟨gb230, 0, none⟩ = some (.int .i64 x231000_2) ∧ w'.cell? ⟨gb230, 1, none⟩ = some (.int .i64 x231001_2) ∧ w'.cell? ⟨gb230, 2, none⟩ = some (.int .i64 x231002_2) ∧ w'.cell? ⟨gb230, 3, none⟩ = some (.int .i64 x231003_2) ∧ w'.cell? ⟨gb230, 4, none⟩ = some (.bool x231004_2) ∧ w'.cell? (ad240.add ((x12_2).toNat * 3)) = some (.int .u8 ((rd_T54 y237 x12_2).f0)) ∧ w'.cell? ⟨(ad240.add ((x12_2).toNat * 3)).block, (ad240.add ((x12_2).toNat * 3)).off + 1, none⟩ = some (.int .i16 ((rd_T54 y237 x12_2).f1)) ∧ w'.cell? ⟨(ad240.add ((x12_2).toNat * 3)).block, (ad240.add ((x12_2).toNat * 3)).off + 2, none⟩ = some (.int .i16 ((rd_T54 y237 x12_2).f2)) ∧ w'.cell? (ad240.add ((x12_2).toNat * 3)) = some (.int .u8 ((rd_T54 y237 x12_2).f0)) ∧ w'.cell? ⟨(ad240.add ((x12_2).toNat * 3)).block, (ad240.add ((x12_2).toNat * 3)).off + 1, none⟩ = some (.int .i16 ((rd_T54 y237 x12_2).f1)) ∧ w'.cell? ⟨(ad240.add ((x12_2).toNat * 3)).block, (ad240.add ((x12_2).toNat * 3)).off + 2, none⟩ = some (.int .i16 ((rd_T54 y237 x12_2).f2))) (ds := []) #[false, false, false, false, false, false, false, false, false, false, false, false, false, false, false, false, false, false, false, false, false] (by kernel_rfl) rfl rfl ⟨(blk_cell BK230.out 0).trans rfl, (blk_cell BK230.out 1).trans rfl, (blk_cell BK230.out 2).trans rfl, (blk_cell BK230.out 3).trans rfl, (blk_cell BK230.out 4).trans rfl, hx268_0, hx268_1, hx268_2, hx269_0, hx269_1, hx269_2⟩ (fun hHeld => ?_); refine with_tabW ambidexterlaw25_ServoLost.tab16 ambidexterlaw25_ServoLost.bits16 (fun HT_ HW_ => ?_)
              generalize wr.drew = w89 at HO_11 BK230 HB hx268_0 hx268_1 hx268_2 hx269_0 hx269_1 hx269_2 hHeld ⊢
              refine pure_ (i := 1) (N := some 58) (v := ?_) (a' := ?_) #[false, true, false, false, false, false, false, false, false, false, false, false, false, false, false, false, false, false, false, false, false] rfl rfl (any_of HT_.out (by kernel_rfl)) (fun _ _ _ h => h) (Or.inl ⟨by rfl, ?_⟩) ?_ ?_
              rotate_left
              ·
               intro w'
               go_simp
               with_reducible rfl
              rotate_left
              ·
               simp only [Act.put, List.setIfInBounds_toArray, List.set_cons_zero, List.set_cons_succ, i64_w, i32_w]
               rfl
              refine pure_ (i := 2) (N := some 59) (v := ?_) (a' := ?_) #[false, true, true, false, false, false, false, false, false, false, false, false, false, false, false, false, false, false, false, false, false] rfl rfl (any_of HT_.out (by kernel_rfl)) (fun _ _ _ h => h) (Or.inl ⟨by rfl, ?_⟩) ?_ ?_
              rotate_left
              ·
               intro w'
               go_simp
               with_reducible rfl
              rotate_left
              ·
               simp only [Act.put, List.setIfInBounds_toArray, List.set_cons_zero, List.set_cons_succ, i64_w, i32_w]
               rfl
              refine pure_ (i := 3) (N := some 60) (v := ?_) (a' := ?_) #[false, true, true, true, false, false, false, false, false, false, false, false, false, false, false, false, false, false, false, false, false] rfl rfl (any_of HT_.out (by kernel_rfl)) (fun _ _ _ h => h) (Or.inl ⟨by rfl, ?_⟩) ?_ ?_
              rotate_left
              ·
               intro w'
               go_simp
               with_reducible rfl
              rotate_left
              ·
               simp only [Act.put, List.setIfInBounds_toArray, List.set_cons_zero, List.set_cons_succ, i64_w, i32_w]
               rfl
              refine pure_ (i := 4) (N := some 61) (v := ?_) (a' := ?_) #[false, true, true, true, true, false, false, false, false, false, false, false, false, false, false, false, false, false, false, false, false] rfl rfl (any_of HT_.out (by kernel_rfl)) (fun _ _ _ h => h) (Or.inl ⟨by rfl, ?_⟩) ?_ ?_
              rotate_left
              ·
               intro w'
               go_simp
               with_reducible rfl
              rotate_left
              ·
               simp only [Act.put, List.setIfInBounds_toArray, List.set_cons_zero, List.set_cons_succ, i64_w, i32_w]
               rfl
              refine pure_ (i := 5) (N := some 62) (v := ?_) (a' := ?_) #[false, true, true, true, true, true, false, false, false, false, false, false, false, false, false, false, false, false, false, false, false] rfl rfl (any_of HT_.out (by kernel_rfl)) (fun _ _ _ h => h) (Or.inl ⟨by rfl, ?_⟩) ?_ ?_
              rotate_left
              ·
               intro w'
               go_simp
               with_reducible rfl
              rotate_left
              ·
               simp only [Act.put, List.setIfInBounds_toArray, List.set_cons_zero, List.set_cons_succ, i64_w, i32_w]
               rfl
              refine pure_ (i := 8) (N := some 65) (v := ?_) (a' := ?_) #[false, true, true, true, true, true, false, false, true, false, false, false, false, false, false, false, false, false, false, false, false] rfl rfl (any_of HT_.out (by kernel_rfl)) (fun _ _ _ h => h) (Or.inl ⟨by rfl, ?_⟩) ?_ ?_
              rotate_left
              ·
               intro w'
               go_simp
               with_reducible rfl
              rotate_left
              ·
               simp only [Act.put, List.setIfInBounds_toArray, List.set_cons_zero, List.set_cons_succ, i64_w, i32_w]
               rfl
              refine pure_ (i := 9) (N := some 66) (v := ?_) (a' := ?_) #[false, true, true, true, true, true, false, false, true, true, false, false, false, false, false, false, false, false, false, false, false] rfl rfl (any_of HT_.out (by kernel_rfl)) (fun _ _ _ h => h) (Or.inl ⟨by rfl, ?_⟩) ?_ ?_
              rotate_left
              ·
               intro w'
               go_simp
               with_reducible rfl
              rotate_left
              ·
               simp only [Act.put, List.setIfInBounds_toArray, List.set_cons_zero, List.set_cons_succ, i64_w, i32_w]
               rfl
              refine pure_ (i := 10) (N := some 67) (v := ?_) (a' := ?_) #[false, true, true, true, true, true, false, false, true, true, true, false, false, false, false, false, false, false, false, false, false] rfl rfl (any_of HT_.out (by kernel_rfl)) (fun _ _ _ h => h) (Or.inl ⟨by rfl, ?_⟩) ?_ ?_
              rotate_left
              ·
               intro w'
               go_simp
               with_reducible rfl
              rotate_left
              ·
               simp only [Act.put, List.setIfInBounds_toArray, List.set_cons_zero, List.set_cons_succ, i64_w, i32_w]
               rfl
              refine pure_ (i := 11) (N := some 68) (v := ?_) (a' := ?_) #[false, true, true, true, true, true, false, false, true, true, true, true, false, false, false, false, false, false, false, false, false] rfl rfl (any_of HT_.out (by kernel_rfl)) (fun _ _ _ h => h) (Or.inl ⟨by rfl, ?_⟩) ?_ ?_
              rotate_left
              ·
               intro w'
               go_simp
               with_reducible rfl
              rotate_left
              ·
               simp only [Act.put, List.setIfInBounds_toArray, List.set_cons_zero, List.set_cons_succ, i64_w, i32_w]
               rfl
              refine take_ (i := 0) (N := some 57) (v := ?_) (a' := ?_) #[true, true, true, true, true, true, false, false, true, true, true, true, false, false, false, false, false, false, false, false, false] rfl rfl (take_ofW HT_.out HW_.out (by kernel_rfl)) (fun _ _ _ h => h) (Or.inl ⟨by rfl, ?_⟩) hHeld ?_ ?_
              rotate_left
              ·
               rintro w' ⟨s0, s1, s2, s3, s4, s5, s6, s7, s8, s9, s10⟩
               go_simp
               with_reducible rfl
              rotate_left
              ·
               simp only [Act.put, List.setIfInBounds_toArray, List.set_cons_zero, List.set_cons_succ, i64_w, i32_w]
               rfl
              refine take_ (i := 6) (N := some 63) (v := ?_) (a' := ?_) #[true, true, true, true, true, true, true, false, true, true, true, true, false, false, false, false, false, false, false, false, false] rfl rfl (take_ofW HT_.out HW_.out (by kernel_rfl)) (fun _ _ _ h => h) (Or.inl ⟨by rfl, ?_⟩) hHeld ?_ ?_
              rotate_left
              ·
               rintro w' ⟨s0, s1, s2, s3, s4, s5, s6, s7, s8, s9, s10⟩
               go_simp
               with_reducible rfl
              rotate_left
              ·
               simp only [Act.put, List.setIfInBounds_toArray, List.set_cons_zero, List.set_cons_succ, i64_w, i32_w]
               rfl
              refine pure_ (i := 7) (N := some 64) (v := ?_) (a' := ?_) #[true, true, true, true, true, true, true, true, true, true, true, true, false, false, false, false, false, false, false, false, false] rfl rfl (any_of HT_.out (by kernel_rfl)) (fun _ _ _ h => h) (Or.inl ⟨by rfl, ?_⟩) ?_ ?_
              rotate_left
              ·
               intro w'
               go_simp
               with_reducible rfl
              rotate_left
              ·
               simp only [Act.put, List.setIfInBounds_toArray, List.set_cons_zero, List.set_cons_succ, i64_w, i32_w]
               rfl
              refine take_ (i := 12) (N := some 69) (v := ?_) (a' := ?_) #[true, true, true, true, true, true, true, true, true, true, true, true, true, false, false, false, false, false, false, false, false] rfl rfl (take_ofW HT_.out HW_.out (by kernel_rfl)) (fun _ _ _ h => h) (Or.inl ⟨by rfl, ?_⟩) hHeld ?_ ?_
              rotate_left
              ·
               rintro w' ⟨s0, s1, s2, s3, s4, s5, s6, s7, s8, s9, s10⟩
               go_simp
               with_reducible rfl
              rotate_left
              ·
               simp only [Act.put, List.setIfInBounds_toArray, List.set_cons_zero, List.set_cons_succ, i64_w, i32_w]
               rfl
              refine pure_ (i := 13) (N := some 70) (v := ?_) (a' := ?_) #[true, true, true, true, true, true, true, true, true, true, true, true, true, true, false, false, false, false, false, false, false] rfl rfl (any_of HT_.out (by kernel_rfl)) (fun _ _ _ h => h) (Or.inl ⟨by rfl, ?_⟩) ?_ ?_
              rotate_left
              ·
               intro w'
               go_simp
               with_reducible rfl
              rotate_left
              ·
               simp only [Act.put, List.setIfInBounds_toArray, List.set_cons_zero, List.set_cons_succ, i64_w, i32_w]
               rfl
              refine join_ (σ := Nat) 2 #[true, true, true, true, true, true, true, true, true, true, true, true, true, true, true, true, true, true, true, false, false] (fun s_ => [(71, .tuple #[.agg #[.int .i64 t270, .int .i64 t271, .int .i64 t272, .int .i64 t273, .bool false], .int .i64 t275]), (14, .pointer (some ⟨s_, 0, none⟩)), (56, .tuple #[.agg #[.int .i64 t270, .int .i64 t271, .int .i64 t272, .int .i64 t273, .bool false], .int .i64 t275]), (72, .agg #[.int .i64 t270, .int .i64 t271, .int .i64 t272, .int .i64 t273, .bool false]), (73, .int .i64 t275)]) (fun s_ w' => (w'.cell? ⟨gb230, 0, none⟩ = some (.int .i64 x231000_2) ∧ w'.cell? ⟨gb230, 1, none⟩ = some (.int .i64 x231001_2) ∧ w'.cell? ⟨gb230, 2, none⟩ = some (.int .i64 x231002_2) ∧ w'.cell? ⟨gb230, 3, none⟩ = some (.int .i64 x231003_2) ∧ w'.cell? ⟨gb230, 4, none⟩ = some (.bool x231004_2) ∧ w'.cell? (ad240.add ((x12_2).toNat * 3)) = some (.int .u8 ((rd_T54 y237 x12_2).f0)) ∧ w'.cell? ⟨(ad240.add ((x12_2).toNat * 3)).block, (ad240.add ((x12_2).toNat * 3)).off + 1, none⟩ = some (.int .i16 ((rd_T54 y237 x12_2).f1)) ∧ w'.cell? ⟨(ad240.add ((x12_2).toNat * 3)).block, (ad240.add ((x12_2).toNat * 3)).off + 2, none⟩ = some (.int .i16 ((rd_T54 y237 x12_2).f2)) ∧ w'.cell? (ad240.add ((x12_2).toNat * 3)) = some (.int .u8 ((rd_T54 y237 x12_2).f0)) ∧ w'.cell? ⟨(ad240.add ((x12_2).toNat * 3)).block, (ad240.add ((x12_2).toNat * 3)).off + 1, none⟩ = some (.int .i16 ((rd_T54 y237 x12_2).f1)) ∧ w'.cell? ⟨(ad240.add ((x12_2).toNat * 3)).block, (ad240.add ((x12_2).toNat * 3)).off + 2, none⟩ = some (.int .i16 ((rd_T54 y237 x12_2).f2))) ∧ (Kd.R k54 54 w' w.heap.size (fun _ => True) (.slice (some ad240) y237.length co88) y237) ∧ (w'.heap[gb230]? = some (.cells #[.int .i64 x231000_2, .int .i64 x231001_2, .int .i64 x231002_2, .int .i64 x231003_2, .bool x231004_2] 49 (0, 0))) ∧ (w'.heap[s_]? = some (.cells #[.int .i64 0, .int .i64 0, .int .i64 0, .int .i64 0, .bool false] 49 (0, 0))) ∧ (w.heap.size ≤ s_) ∧ (w.heap.size ≤ s_) ∧ (gb230 ≠ s_) ∧ (s_ ≠ gb230) ∧ (Below w.heap.size w w')) ?_ ?_
              rotate_left
              ·
               intro hCont
               refine two_ (i := 14) (j := 18) (Ni := some 71) (Nj := some 14) #[true, true, true, true, true, true, true, true, true, true, true, true, true, true, true, false, false, false, false, false, false] #[true, true, true, true, true, true, true, true, true, true, true, true, true, true, false, false, false, false, true, false, false] rfl rfl rfl rfl (two_of HT_.out (by kernel_rfl)) (by decide) (by decide) (fun K hK => ?_) (fun K hK => ?_)
               ·
                skip
                refine goes_ Try.func32 (by kernel_rfl) rfl #[.agg #[.int .i64 x231000_2, .int .i64 x231001_2, .int .i64 x231002_2, .int .i64 x231003_2, .bool x231004_2], .int .i64 (Int.tmod (wrap64 ((rd_T54 y237 x12_2).f0)) 4), .int .i64 (wrap64 ((rd_T54 y237 x12_2).f1)), .int .i64 (wrap64 ((rd_T54 y237 x12_2).f2))] (by rfl) rfl rfl (by (try simp only [List.map_toArray, List.map_cons, List.map_nil]); first | done | rfl | (simp only [List.length_drop, List.length_take]; rfl)) ?_
                with_reducible refine (servo_Step.calls x231000_2 x231001_2 x231002_2 x231003_2 x231004_2 (Int.tmod (wrap64 ((rd_T54 y237 x12_2).f0)) 4) (wrap64 ((rd_T54 y237 x12_2).f1)) (wrap64 ((rd_T54 y237 x12_2).f2)) t270 t271 t272 t273 false t275 _ A71.out).mono ?_
                rintro e w90 ⟨rfl, hb⟩
                have HS5_ := (hb.cell (World.block_lt_of_cell? _ _ (hHeld.2.2.2.2.2.1))).trans (hHeld.2.2.2.2.2.1)
                have HS6_ := (hb.cell (World.block_lt_of_cell? _ _ (hHeld.2.2.2.2.2.2.1))).trans (hHeld.2.2.2.2.2.2.1)
                have HS7_ := (hb.cell (World.block_lt_of_cell? _ _ (hHeld.2.2.2.2.2.2.2.1))).trans (hHeld.2.2.2.2.2.2.2.1)
                have HS8_ := (hb.cell (World.block_lt_of_cell? _ _ (hHeld.2.2.2.2.2.2.2.2.1))).trans (hHeld.2.2.2.2.2.2.2.2.1)
                have HS9_ := (hb.cell (World.block_lt_of_cell? _ _ (hHeld.2.2.2.2.2.2.2.2.2.1))).trans (hHeld.2.2.2.2.2.2.2.2.2.1)
                have HS10_ := (hb.cell (World.block_lt_of_cell? _ _ (hHeld.2.2.2.2.2.2.2.2.2.2))).trans (hHeld.2.2.2.2.2.2.2.2.2.2)
                refine ⟨_, rfl, ?_⟩
                have n0_ := Aside0.mk (Kd.R_below (by (with_reducible repeat (first | apply Kd.R_alloc | apply Kd.R_drewN | apply Kd.R_drew)); exact HO_11.out) hb)
                have n1_ := Aside0.mk (blk_below (g := gb230) (o := .cells #[.int .i64 x231000_2, .int .i64 x231001_2, .int .i64 x231002_2, .int .i64 x231003_2, .bool x231004_2] 49 (0, 0)) (by (with_reducible repeat (first | refine blk_drewN ?_ _ | refine blk_drew ?_ | refine blk_alloc ?_ _)); exact BK230.out) hb)
                have n2_ := Aside0.mk (below_step (by repeat (first | (with_reducible first | exact HB.out | apply below_alloc | apply pw_below_drewN | apply below_drew1 | refine below_set ?_ GE230.out) | exact HB.out)) hb)
                clear HO_11
                clear BK230
                clear HB
                have HO_11 := n0_
                have BK230 := n1_
                have HB := n2_
                clear n0_ n1_ n2_
                (try clear hb)
                (try clear hb2)
                (try clear hk)
                (try clear hi)
                refine hK.out _ _ ⟨(blk_cell BK230.out 0).trans rfl, (blk_cell BK230.out 1).trans rfl, (blk_cell BK230.out 2).trans rfl, (blk_cell BK230.out 3).trans rfl, (blk_cell BK230.out 4).trans rfl, HS5_, HS6_, HS7_, HS8_, HS9_, HS10_⟩ (fun hHeld => ?_)
                clear hK K
                refine norm_ (a' := ?_) ?_ ?_
                rotate_left
                ·
                 show Act.put _ (some 71) _ = _
                 simp only [Act.put, List.setIfInBounds_toArray, List.set_cons_zero, List.set_cons_succ, i64_w, i32_w]
                 rfl
                refine pure_ (i := 15) (N := some 56) (v := ?_) (a' := ?_) #[true, true, true, true, true, true, true, true, true, true, true, true, true, true, true, true, false, false, false, false, false] rfl rfl (any_of HT_.out (by kernel_rfl)) (fun _ _ _ h => h) (Or.inl ⟨by rfl, ?_⟩) ?_ ?_
                rotate_left
                ·
                 intro w'
                 go_simp
                 with_reducible rfl
                rotate_left
                ·
                 simp only [Act.put, List.setIfInBounds_toArray, List.set_cons_zero, List.set_cons_succ, i64_w, i32_w]
                 rfl
                refine pure_ (i := 16) (N := some 72) (v := ?_) (a' := ?_) #[true, true, true, true, true, true, true, true, true, true, true, true, true, true, true, true, true, false, false, false, false] rfl rfl (any_of HT_.out (by kernel_rfl)) (fun _ _ _ h => h) (Or.inl ⟨by rfl, ?_⟩) ?_ ?_
                rotate_left
                ·
                 intro w'
                 go_simp
                 with_reducible rfl
                rotate_left
                ·
                 simp only [Act.put, List.setIfInBounds_toArray, List.set_cons_zero, List.set_cons_succ, i64_w, i32_w]
                 rfl
                refine pure_ (i := 17) (N := some 73) (v := ?_) (a' := ?_) #[true, true, true, true, true, true, true, true, true, true, true, true, true, true, true, true, true, true, false, false, false] rfl rfl (any_of HT_.out (by kernel_rfl)) (fun _ _ _ h => h) (Or.inl ⟨by rfl, ?_⟩) ?_ ?_
                rotate_left
                ·
                 intro w'
                 go_simp
                 with_reducible rfl
                rotate_left
                ·
                 simp only [Act.put, List.setIfInBounds_toArray, List.set_cons_zero, List.set_cons_succ, i64_w, i32_w]
                 rfl
                refine one_ (i := 18) (N := some 14) #[true, true, true, true, true, true, true, true, true, true, true, true, true, true, true, true, true, true, true, false, false] rfl rfl (one_of HT_.out (by kernel_rfl)) (by decide) (fun K hK => ?_)
                refine box_step ?hg (N := 14) ?hd (cs := #[.int .i64 0, .int .i64 0, .int .i64 0, .int .i64 0, .bool false]) (t := 49) ?hr ?_; (case hd => rfl); (case hg => rfl); (case hr => first | (go_simp; done) | (go_simp; rfl))
                intro gb276 hg w91 hbox hb
                have HS5_ := (hb.cell (World.block_lt_of_cell? _ _ (hHeld.2.2.2.2.2.1))).trans (hHeld.2.2.2.2.2.1)
                have HS6_ := (hb.cell (World.block_lt_of_cell? _ _ (hHeld.2.2.2.2.2.2.1))).trans (hHeld.2.2.2.2.2.2.1)
                have HS7_ := (hb.cell (World.block_lt_of_cell? _ _ (hHeld.2.2.2.2.2.2.2.1))).trans (hHeld.2.2.2.2.2.2.2.1)
                have HS8_ := (hb.cell (World.block_lt_of_cell? _ _ (hHeld.2.2.2.2.2.2.2.2.1))).trans (hHeld.2.2.2.2.2.2.2.2.1)
                have HS9_ := (hb.cell (World.block_lt_of_cell? _ _ (hHeld.2.2.2.2.2.2.2.2.2.1))).trans (hHeld.2.2.2.2.2.2.2.2.2.1)
                have HS10_ := (hb.cell (World.block_lt_of_cell? _ _ (hHeld.2.2.2.2.2.2.2.2.2.2))).trans (hHeld.2.2.2.2.2.2.2.2.2.2)
                have n0_ := Aside0.mk (Kd.R_below (by (with_reducible repeat (first | apply Kd.R_alloc | apply Kd.R_drewN | apply Kd.R_drew)); exact HO_11.out) hb)
                have n1_ := Aside0.mk (blk_below (g := gb230) (o := .cells #[.int .i64 x231000_2, .int .i64 x231001_2, .int .i64 x231002_2, .int .i64 x231003_2, .bool x231004_2] 49 (0, 0)) (by (with_reducible repeat (first | refine blk_drewN ?_ _ | refine blk_drew ?_ | refine blk_alloc ?_ _)); exact BK230.out) hb)
                have n2_ := Aside0.mk (below_step (by repeat (first | (with_reducible first | exact HB.out | apply below_alloc | apply pw_below_drewN | apply below_drew1 | refine below_set ?_ GE230.out) | exact HB.out)) hb)
                have n3_ := Aside0.mk (hbox)
                have n4_ := Aside0.mk ((by rw [hg]; exact (below_size (by repeat (first | (with_reducible first | exact HB.out | apply below_alloc | apply pw_below_drewN | apply below_drew1 | refine below_set ?_ GE230.out) | exact HB.out))) : w.heap.size ≤ gb276))
                have n5_ := Aside0.mk ((by rw [hg]; exact (below_size (by repeat (first | (with_reducible first | exact HB.out | apply below_alloc | apply pw_below_drewN | apply below_drew1 | refine below_set ?_ GE230.out) | exact HB.out))) : w.heap.size ≤ gb276))
                have n6_ := Aside0.mk ((by rw [hg]; exact Nat.ne_of_lt (blk_lt (g := gb230) (o := .cells #[.int .i64 x231000_2, .int .i64 x231001_2, .int .i64 x231002_2, .int .i64 x231003_2, .bool x231004_2] 49 (0, 0)) (by (with_reducible repeat (first | refine blk_drewN ?_ _ | refine blk_drew ?_ | refine blk_alloc ?_ _)); exact BK230.out)) : gb230 ≠ gb276))
                have n7_ := Aside0.mk ((by rw [hg]; exact Nat.ne_of_gt (blk_lt (g := gb230) (o := .cells #[.int .i64 x231000_2, .int .i64 x231001_2, .int .i64 x231002_2, .int .i64 x231003_2, .bool x231004_2] 49 (0, 0)) (by (with_reducible repeat (first | refine blk_drewN ?_ _ | refine blk_drew ?_ | refine blk_alloc ?_ _)); exact BK230.out)) : gb276 ≠ gb230))
                clear HO_11
                clear BK230
                clear HB
                have HO_11 := n0_
                have BK230 := n1_
                have HB := n2_
                have BK276 := n3_
                have GW276 := n4_
                have GE276 := n5_
                have NB230_276 := n6_
                have NB276_230 := n7_
                clear n0_ n1_ n2_ n3_ n4_ n5_ n6_ n7_
                clear hb hbox hg
                refine hK.out _ _ ⟨(blk_cell BK230.out 0).trans rfl, (blk_cell BK230.out 1).trans rfl, (blk_cell BK230.out 2).trans rfl, (blk_cell BK230.out 3).trans rfl, (blk_cell BK230.out 4).trans rfl, HS5_, HS6_, HS7_, HS8_, HS9_, HS10_⟩ (fun hHeld => ?_)
                clear hK K
                refine norm_ (a' := ?_) ?_ ?_
                rotate_left
                ·
                 show Act.put _ (some 14) _ = _
                 simp only [Act.put, List.setIfInBounds_toArray, List.set_cons_zero, List.set_cons_succ, i64_w, i32_w]
                 rfl
                exact norm_ (by simp only [putAll, Act.put, List.setIfInBounds_toArray, List.set_cons_zero, List.set_cons_succ]) (hCont (gb276) _ ⟨hHeld, (by (with_reducible repeat (first | apply Kd.R_alloc | apply Kd.R_drewN | apply Kd.R_drew)); exact HO_11.out), (by (with_reducible repeat (first | refine blk_drewN ?_ _ | refine blk_drew ?_ | refine blk_alloc ?_ _)); exact BK230.out), (by (with_reducible repeat (first | refine blk_drewN ?_ _ | refine blk_drew ?_ | refine blk_alloc ?_ _)); exact BK276.out), GW276.out, GE276.out, NB230_276.out, NB276_230.out, (by repeat (first | (with_reducible first | exact HB.out | apply below_alloc | apply pw_below_drewN | apply below_drew1 | refine below_set ?_ GE230.out | refine below_set ?_ GE276.out) | exact HB.out))⟩)
               ·
                skip
                refine box_step ?hg (N := 14) ?hd (cs := #[.int .i64 0, .int .i64 0, .int .i64 0, .int .i64 0, .bool false]) (t := 49) ?hr ?_; (case hd => rfl); (case hg => rfl); (case hr => first | (go_simp; done) | (go_simp; rfl))
                intro gb276 hg w90 hbox hb
                have HS5_ := (hb.cell (World.block_lt_of_cell? _ _ (hHeld.2.2.2.2.2.1))).trans (hHeld.2.2.2.2.2.1)
                have HS6_ := (hb.cell (World.block_lt_of_cell? _ _ (hHeld.2.2.2.2.2.2.1))).trans (hHeld.2.2.2.2.2.2.1)
                have HS7_ := (hb.cell (World.block_lt_of_cell? _ _ (hHeld.2.2.2.2.2.2.2.1))).trans (hHeld.2.2.2.2.2.2.2.1)
                have HS8_ := (hb.cell (World.block_lt_of_cell? _ _ (hHeld.2.2.2.2.2.2.2.2.1))).trans (hHeld.2.2.2.2.2.2.2.2.1)
                have HS9_ := (hb.cell (World.block_lt_of_cell? _ _ (hHeld.2.2.2.2.2.2.2.2.2.1))).trans (hHeld.2.2.2.2.2.2.2.2.2.1)
                have HS10_ := (hb.cell (World.block_lt_of_cell? _ _ (hHeld.2.2.2.2.2.2.2.2.2.2))).trans (hHeld.2.2.2.2.2.2.2.2.2.2)
                have n0_ := Aside0.mk (Kd.R_below (by (with_reducible repeat (first | apply Kd.R_alloc | apply Kd.R_drewN | apply Kd.R_drew)); exact HO_11.out) hb)
                have n1_ := Aside0.mk (blk_below (g := gb230) (o := .cells #[.int .i64 x231000_2, .int .i64 x231001_2, .int .i64 x231002_2, .int .i64 x231003_2, .bool x231004_2] 49 (0, 0)) (by (with_reducible repeat (first | refine blk_drewN ?_ _ | refine blk_drew ?_ | refine blk_alloc ?_ _)); exact BK230.out) hb)
                have n2_ := Aside0.mk (below_step (by repeat (first | (with_reducible first | exact HB.out | apply below_alloc | apply pw_below_drewN | apply below_drew1 | refine below_set ?_ GE230.out) | exact HB.out)) hb)
                have n3_ := Aside0.mk (hbox)
                have n4_ := Aside0.mk ((by rw [hg]; exact (below_size (by repeat (first | (with_reducible first | exact HB.out | apply below_alloc | apply pw_below_drewN | apply below_drew1 | refine below_set ?_ GE230.out) | exact HB.out))) : w.heap.size ≤ gb276))
                have n5_ := Aside0.mk ((by rw [hg]; exact (below_size (by repeat (first | (with_reducible first | exact HB.out | apply below_alloc | apply pw_below_drewN | apply below_drew1 | refine below_set ?_ GE230.out) | exact HB.out))) : w.heap.size ≤ gb276))
                have n6_ := Aside0.mk ((by rw [hg]; exact Nat.ne_of_lt (blk_lt (g := gb230) (o := .cells #[.int .i64 x231000_2, .int .i64 x231001_2, .int .i64 x231002_2, .int .i64 x231003_2, .bool x231004_2] 49 (0, 0)) (by (with_reducible repeat (first | refine blk_drewN ?_ _ | refine blk_drew ?_ | refine blk_alloc ?_ _)); exact BK230.out)) : gb230 ≠ gb276))
                have n7_ := Aside0.mk ((by rw [hg]; exact Nat.ne_of_gt (blk_lt (g := gb230) (o := .cells #[.int .i64 x231000_2, .int .i64 x231001_2, .int .i64 x231002_2, .int .i64 x231003_2, .bool x231004_2] 49 (0, 0)) (by (with_reducible repeat (first | refine blk_drewN ?_ _ | refine blk_drew ?_ | refine blk_alloc ?_ _)); exact BK230.out)) : gb276 ≠ gb230))
                clear HO_11
                clear BK230
                clear HB
                have HO_11 := n0_
                have BK230 := n1_
                have HB := n2_
                have BK276 := n3_
                have GW276 := n4_
                have GE276 := n5_
                have NB230_276 := n6_
                have NB276_230 := n7_
                clear n0_ n1_ n2_ n3_ n4_ n5_ n6_ n7_
                clear hb hbox hg
                refine hK.out _ _ ⟨(blk_cell BK230.out 0).trans rfl, (blk_cell BK230.out 1).trans rfl, (blk_cell BK230.out 2).trans rfl, (blk_cell BK230.out 3).trans rfl, (blk_cell BK230.out 4).trans rfl, HS5_, HS6_, HS7_, HS8_, HS9_, HS10_⟩ (fun hHeld => ?_)
                clear hK K
                refine norm_ (a' := ?_) ?_ ?_
                rotate_left
                ·
                 show Act.put _ (some 14) _ = _
                 simp only [Act.put, List.setIfInBounds_toArray, List.set_cons_zero, List.set_cons_succ, i64_w, i32_w]
                 rfl
                refine one_ (i := 14) (N := some 71) #[true, true, true, true, true, true, true, true, true, true, true, true, true, true, true, false, false, false, true, false, false] rfl rfl (one_of HT_.out (by kernel_rfl)) (by decide) (fun K hK => ?_)
                refine goes_ Try.func32 (by kernel_rfl) rfl #[.agg #[.int .i64 x231000_2, .int .i64 x231001_2, .int .i64 x231002_2, .int .i64 x231003_2, .bool x231004_2], .int .i64 (Int.tmod (wrap64 ((rd_T54 y237 x12_2).f0)) 4), .int .i64 (wrap64 ((rd_T54 y237 x12_2).f1)), .int .i64 (wrap64 ((rd_T54 y237 x12_2).f2))] (by rfl) rfl rfl (by (try simp only [List.map_toArray, List.map_cons, List.map_nil]); first | done | rfl | (simp only [List.length_drop, List.length_take]; rfl)) ?_
                with_reducible refine (servo_Step.calls x231000_2 x231001_2 x231002_2 x231003_2 x231004_2 (Int.tmod (wrap64 ((rd_T54 y237 x12_2).f0)) 4) (wrap64 ((rd_T54 y237 x12_2).f1)) (wrap64 ((rd_T54 y237 x12_2).f2)) t270 t271 t272 t273 false t275 _ A71.out).mono ?_
                rintro e w91 ⟨rfl, hb⟩
                have HS5_ := (hb.cell (World.block_lt_of_cell? _ _ (hHeld.2.2.2.2.2.1))).trans (hHeld.2.2.2.2.2.1)
                have HS6_ := (hb.cell (World.block_lt_of_cell? _ _ (hHeld.2.2.2.2.2.2.1))).trans (hHeld.2.2.2.2.2.2.1)
                have HS7_ := (hb.cell (World.block_lt_of_cell? _ _ (hHeld.2.2.2.2.2.2.2.1))).trans (hHeld.2.2.2.2.2.2.2.1)
                have HS8_ := (hb.cell (World.block_lt_of_cell? _ _ (hHeld.2.2.2.2.2.2.2.2.1))).trans (hHeld.2.2.2.2.2.2.2.2.1)
                have HS9_ := (hb.cell (World.block_lt_of_cell? _ _ (hHeld.2.2.2.2.2.2.2.2.2.1))).trans (hHeld.2.2.2.2.2.2.2.2.2.1)
                have HS10_ := (hb.cell (World.block_lt_of_cell? _ _ (hHeld.2.2.2.2.2.2.2.2.2.2))).trans (hHeld.2.2.2.2.2.2.2.2.2.2)
                refine ⟨_, rfl, ?_⟩
                have n0_ := Aside0.mk (Kd.R_below (by (with_reducible repeat (first | apply Kd.R_alloc | apply Kd.R_drewN | apply Kd.R_drew)); exact HO_11.out) hb)
                have n1_ := Aside0.mk (blk_below (g := gb230) (o := .cells #[.int .i64 x231000_2, .int .i64 x231001_2, .int .i64 x231002_2, .int .i64 x231003_2, .bool x231004_2] 49 (0, 0)) (by (with_reducible repeat (first | refine blk_drewN ?_ _ | refine blk_drew ?_ | refine blk_alloc ?_ _)); exact BK230.out) hb)
                have n2_ := Aside0.mk (blk_below (g := gb276) (o := .cells #[.int .i64 0, .int .i64 0, .int .i64 0, .int .i64 0, .bool false] 49 (0, 0)) (by (with_reducible repeat (first | refine blk_drewN ?_ _ | refine blk_drew ?_ | refine blk_alloc ?_ _)); exact BK276.out) hb)
                have n3_ := Aside0.mk (below_step (by repeat (first | (with_reducible first | exact HB.out | apply below_alloc | apply pw_below_drewN | apply below_drew1 | refine below_set ?_ GE230.out | refine below_set ?_ GE276.out) | exact HB.out)) hb)
                clear HO_11
                clear BK230
                clear BK276
                clear HB
                have HO_11 := n0_
                have BK230 := n1_
                have BK276 := n2_
                have HB := n3_
                clear n0_ n1_ n2_ n3_
                (try clear hb)
                (try clear hb2)
                (try clear hk)
                (try clear hi)
                refine hK.out _ _ ⟨(blk_cell BK230.out 0).trans rfl, (blk_cell BK230.out 1).trans rfl, (blk_cell BK230.out 2).trans rfl, (blk_cell BK230.out 3).trans rfl, (blk_cell BK230.out 4).trans rfl, HS5_, HS6_, HS7_, HS8_, HS9_, HS10_⟩ (fun hHeld => ?_)
                clear hK K
                refine norm_ (a' := ?_) ?_ ?_
                rotate_left
                ·
                 show Act.put _ (some 71) _ = _
                 simp only [Act.put, List.setIfInBounds_toArray, List.set_cons_zero, List.set_cons_succ, i64_w, i32_w]
                 rfl
                refine pure_ (i := 15) (N := some 56) (v := ?_) (a' := ?_) #[true, true, true, true, true, true, true, true, true, true, true, true, true, true, true, true, false, false, true, false, false] rfl rfl (any_of HT_.out (by kernel_rfl)) (fun _ _ _ h => h) (Or.inl ⟨by rfl, ?_⟩) ?_ ?_
                rotate_left
                ·
                 intro w'
                 go_simp
                 with_reducible rfl
                rotate_left
                ·
                 simp only [Act.put, List.setIfInBounds_toArray, List.set_cons_zero, List.set_cons_succ, i64_w, i32_w]
                 rfl
                refine pure_ (i := 16) (N := some 72) (v := ?_) (a' := ?_) #[true, true, true, true, true, true, true, true, true, true, true, true, true, true, true, true, true, false, true, false, false] rfl rfl (any_of HT_.out (by kernel_rfl)) (fun _ _ _ h => h) (Or.inl ⟨by rfl, ?_⟩) ?_ ?_
                rotate_left
                ·
                 intro w'
                 go_simp
                 with_reducible rfl
                rotate_left
                ·
                 simp only [Act.put, List.setIfInBounds_toArray, List.set_cons_zero, List.set_cons_succ, i64_w, i32_w]
                 rfl
                refine pure_ (i := 17) (N := some 73) (v := ?_) (a' := ?_) #[true, true, true, true, true, true, true, true, true, true, true, true, true, true, true, true, true, true, true, false, false] rfl rfl (any_of HT_.out (by kernel_rfl)) (fun _ _ _ h => h) (Or.inl ⟨by rfl, ?_⟩) ?_ ?_
                rotate_left
                ·
                 intro w'
                 go_simp
                 with_reducible rfl
                rotate_left
                ·
                 simp only [Act.put, List.setIfInBounds_toArray, List.set_cons_zero, List.set_cons_succ, i64_w, i32_w]
                 rfl
                exact norm_ (by simp only [putAll, Act.put, List.setIfInBounds_toArray, List.set_cons_zero, List.set_cons_succ]) (hCont (gb276) _ ⟨hHeld, (by (with_reducible repeat (first | apply Kd.R_alloc | apply Kd.R_drewN | apply Kd.R_drew)); exact HO_11.out), (by (with_reducible repeat (first | refine blk_drewN ?_ _ | refine blk_drew ?_ | refine blk_alloc ?_ _)); exact BK230.out), (by (with_reducible repeat (first | refine blk_drewN ?_ _ | refine blk_drew ?_ | refine blk_alloc ?_ _)); exact BK276.out), GW276.out, GE276.out, NB230_276.out, NB276_230.out, (by repeat (first | (with_reducible first | exact HB.out | apply below_alloc | apply pw_below_drewN | apply below_drew1 | refine below_set ?_ GE230.out | refine below_set ?_ GE276.out) | exact HB.out))⟩)
              rintro gb276 w92 ⟨hS_, h0_, h1_, h2_, h3_, h4_, h5_, h6_, h7_⟩
              have n0_ : Aside0 (Kd.R k54 54 w92 w.heap.size (fun _ => True) (.slice (some ad240) y237.length co88) y237) := ⟨h0_⟩
              have n1_ : Aside0 (w92.heap[gb230]? = some (.cells #[.int .i64 x231000_2, .int .i64 x231001_2, .int .i64 x231002_2, .int .i64 x231003_2, .bool x231004_2] 49 (0, 0))) := ⟨h1_⟩
              have n2_ : Aside0 (w92.heap[gb276]? = some (.cells #[.int .i64 0, .int .i64 0, .int .i64 0, .int .i64 0, .bool false] 49 (0, 0))) := ⟨h2_⟩
              have n3_ : Aside0 (w.heap.size ≤ gb276) := ⟨h3_⟩
              have n4_ : Aside0 (w.heap.size ≤ gb276) := ⟨h4_⟩
              have n5_ : Aside0 (gb230 ≠ gb276) := ⟨h5_⟩
              have n6_ : Aside0 (gb276 ≠ gb230) := ⟨h6_⟩
              have n7_ : Aside0 (Below w.heap.size w w92) := ⟨h7_⟩
              clear HO_11
              clear BK230
              clear HB
              clear h0_ h1_ h2_ h3_ h4_ h5_ h6_ h7_
              have HO_11 := n0_
              have BK230 := n1_
              have BK276 := n2_
              have GW276 := n3_
              have GE276 := n4_
              have NB230_276 := n5_
              have NB276_230 := n6_
              have HB := n7_
              clear n0_ n1_ n2_ n3_ n4_ n5_ n6_ n7_
              have hHeld : w92.cell? ⟨gb230, 0, none⟩ = some (.int .i64 x231000_2) ∧ w92.cell? ⟨gb230, 1, none⟩ = some (.int .i64 x231001_2) ∧ w92.cell? ⟨gb230, 2, none⟩ = some (.int .i64 x231002_2) ∧ w92.cell? ⟨gb230, 3, none⟩ = some (.int .i64 x231003_2) ∧ w92.cell? ⟨gb230, 4, none⟩ = some (.bool x231004_2) ∧ w92.cell? (ad240.add ((x12_2).toNat * 3)) = some (.int .u8 ((rd_T54 y237 x12_2).f0)) ∧ w92.cell? ⟨(ad240.add ((x12_2).toNat * 3)).block, (ad240.add ((x12_2).toNat * 3)).off + 1, none⟩ = some (.int .i16 ((rd_T54 y237 x12_2).f1)) ∧ w92.cell? ⟨(ad240.add ((x12_2).toNat * 3)).block, (ad240.add ((x12_2).toNat * 3)).off + 2, none⟩ = some (.int .i16 ((rd_T54 y237 x12_2).f2)) ∧ w92.cell? (ad240.add ((x12_2).toNat * 3)) = some (.int .u8 ((rd_T54 y237 x12_2).f0)) ∧ w92.cell? ⟨(ad240.add ((x12_2).toNat * 3)).block, (ad240.add ((x12_2).toNat * 3)).off + 1, none⟩ = some (.int .i16 ((rd_T54 y237 x12_2).f1)) ∧ w92.cell? ⟨(ad240.add ((x12_2).toNat * 3)).block, (ad240.add ((x12_2).toNat * 3)).off + 2, none⟩ = some (.int .i16 ((rd_T54 y237 x12_2).f2)) := hS_
              refine norm_ (a' := ?_) ?_ ?_
              rotate_left
              ·
               simp only [putAll, Act.put, List.setIfInBounds_toArray, List.set_cons_zero, List.set_cons_succ]
               rfl
              refine one_ (i := 19) (N := none) #[true, true, true, true, true, true, true, true, true, true, true, true, true, true, true, true, true, true, true, true, false] rfl rfl (one_of HT_.out (by kernel_rfl)) (by decide) (fun K hK => ?_)
              have hs93 : w92.cell? ⟨gb276, 0, none⟩ = some (.int .i64 0) := (blk_cell BK276.out 0).trans rfl
              have hfs93 := blk_frozen BK276.out 0
              have hns93_0 := NB230_276.out
              have hms93_0 := NB276_230.out
              have hs94 : w92.cell? ⟨gb276, 1, none⟩ = some (.int .i64 0) := (blk_cell BK276.out 1).trans rfl
              have hfs94 := blk_frozen BK276.out 1
              have hns94_0 := NB230_276.out
              have hms94_0 := NB276_230.out
              have hs95 : w92.cell? ⟨gb276, 2, none⟩ = some (.int .i64 0) := (blk_cell BK276.out 2).trans rfl
              have hfs95 := blk_frozen BK276.out 2
              have hns95_0 := NB230_276.out
              have hms95_0 := NB276_230.out
              have hs96 : w92.cell? ⟨gb276, 3, none⟩ = some (.int .i64 0) := (blk_cell BK276.out 3).trans rfl
              have hfs96 := blk_frozen BK276.out 3
              have hns96_0 := NB230_276.out
              have hms96_0 := NB276_230.out
              have hs97 : w92.cell? ⟨gb276, 4, none⟩ = some (.bool false) := (blk_cell BK276.out 4).trans rfl
              have hfs97 := blk_frozen BK276.out 4
              have hns97_0 := NB230_276.out
              have hms97_0 := NB276_230.out
              refine skip_ (w1 := ?_) (by rfl) rfl ?_ ?_
              rotate_left
              ·
               go_simp
               rfl
              refine hK.out _ _ ⟨((cell_far5 (g := gb276) NB230_276.out).trans (hHeld.1)), ((cell_far5 (g := gb276) NB230_276.out).trans (hHeld.2.1)), ((cell_far5 (g := gb276) NB230_276.out).trans (hHeld.2.2.1)), ((cell_far5 (g := gb276) NB230_276.out).trans (hHeld.2.2.2.1)), ((cell_far5 (g := gb276) NB230_276.out).trans (hHeld.2.2.2.2.1)), ((cell_far5 (g := gb276) (by first | exact Kd.own_blk (Kd.R_ne HO_11.out BK276.out (by decide)) | (rw [add_block]; exact Kd.own_blk (Kd.R_ne HO_11.out BK276.out (by decide))) | (show (Addr.add _ _).block ≠ _; rw [add_block]; exact Kd.own_blk (Kd.R_ne HO_11.out BK276.out (by decide))) | (dsimp only; exact Kd.own_blk (Kd.R_ne HO_11.out BK276.out (by decide))))).trans (hHeld.2.2.2.2.2.1)), ((cell_far5 (g := gb276) (by first | exact Kd.own_blk (Kd.R_ne HO_11.out BK276.out (by decide)) | (rw [add_block]; exact Kd.own_blk (Kd.R_ne HO_11.out BK276.out (by decide))) | (show (Addr.add _ _).block ≠ _; rw [add_block]; exact Kd.own_blk (Kd.R_ne HO_11.out BK276.out (by decide))) | (dsimp only; exact Kd.own_blk (Kd.R_ne HO_11.out BK276.out (by decide))))).trans (hHeld.2.2.2.2.2.2.1)), ((cell_far5 (g := gb276) (by first | exact Kd.own_blk (Kd.R_ne HO_11.out BK276.out (by decide)) | (rw [add_block]; exact Kd.own_blk (Kd.R_ne HO_11.out BK276.out (by decide))) | (show (Addr.add _ _).block ≠ _; rw [add_block]; exact Kd.own_blk (Kd.R_ne HO_11.out BK276.out (by decide))) | (dsimp only; exact Kd.own_blk (Kd.R_ne HO_11.out BK276.out (by decide))))).trans (hHeld.2.2.2.2.2.2.2.1)), ((cell_far5 (g := gb276) (by first | exact Kd.own_blk (Kd.R_ne HO_11.out BK276.out (by decide)) | (rw [add_block]; exact Kd.own_blk (Kd.R_ne HO_11.out BK276.out (by decide))) | (show (Addr.add _ _).block ≠ _; rw [add_block]; exact Kd.own_blk (Kd.R_ne HO_11.out BK276.out (by decide))) | (dsimp only; exact Kd.own_blk (Kd.R_ne HO_11.out BK276.out (by decide))))).trans (hHeld.2.2.2.2.2.2.2.2.1)), ((cell_far5 (g := gb276) (by first | exact Kd.own_blk (Kd.R_ne HO_11.out BK276.out (by decide)) | (rw [add_block]; exact Kd.own_blk (Kd.R_ne HO_11.out BK276.out (by decide))) | (show (Addr.add _ _).block ≠ _; rw [add_block]; exact Kd.own_blk (Kd.R_ne HO_11.out BK276.out (by decide))) | (dsimp only; exact Kd.own_blk (Kd.R_ne HO_11.out BK276.out (by decide))))).trans (hHeld.2.2.2.2.2.2.2.2.2.1)), ((cell_far5 (g := gb276) (by first | exact Kd.own_blk (Kd.R_ne HO_11.out BK276.out (by decide)) | (rw [add_block]; exact Kd.own_blk (Kd.R_ne HO_11.out BK276.out (by decide))) | (show (Addr.add _ _).block ≠ _; rw [add_block]; exact Kd.own_blk (Kd.R_ne HO_11.out BK276.out (by decide))) | (dsimp only; exact Kd.own_blk (Kd.R_ne HO_11.out BK276.out (by decide))))).trans (hHeld.2.2.2.2.2.2.2.2.2.2))⟩ (fun hHeld => ?_)
              clear hK K
              refine pure_ (i := 20) (N := some 15) (v := ?_) (a' := ?_) #[true, true, true, true, true, true, true, true, true, true, true, true, true, true, true, true, true, true, true, true, true] rfl rfl (any_of HT_.out (by kernel_rfl)) (fun _ _ _ h => h) (Or.inl ⟨by rfl, ?_⟩) ?_ ?_
              rotate_left
              ·
               intro w'
               go_simp
               with_reducible rfl
              rotate_left
              ·
               simp only [Act.put, List.setIfInBounds_toArray, List.set_cons_zero, List.set_cons_succ, i64_w, i32_w]
               rfl
              refine done_ (done_of HT_.out (by kernel_rfl)) ?_
              have hnb98 := NB276_230.out
              have hnc98 := NB230_276.out
              have hcz99_0 : w92.cell? ⟨gb276, 0, none⟩ = some (.int .i64 0) := (blk_cell BK276.out 0).trans rfl
              have hcz99_1 : w92.cell? ⟨gb276, 1, none⟩ = some (.int .i64 0) := (blk_cell BK276.out 1).trans rfl
              have hcz99_2 : w92.cell? ⟨gb276, 2, none⟩ = some (.int .i64 0) := (blk_cell BK276.out 2).trans rfl
              have hcz99_3 : w92.cell? ⟨gb276, 3, none⟩ = some (.int .i64 0) := (blk_cell BK276.out 3).trans rfl
              have hcz99_4 : w92.cell? ⟨gb276, 4, none⟩ = some (.bool false) := (blk_cell BK276.out 4).trans rfl
              have hfz99_0 := blk_frozen BK276.out 0
              have hfz99_1 := blk_frozen BK276.out 1
              have hfz99_2 := blk_frozen BK276.out 2
              have hfz99_3 := blk_frozen BK276.out 3
              have hfz99_4 := blk_frozen BK276.out 4
              have hcz100_0 : w92.cell? ⟨gb230, 0, none⟩ = some (.int .i64 x231000_2) := (blk_cell BK230.out 0).trans rfl
              have hcz100_1 : w92.cell? ⟨gb230, 1, none⟩ = some (.int .i64 x231001_2) := (blk_cell BK230.out 1).trans rfl
              have hcz100_2 : w92.cell? ⟨gb230, 2, none⟩ = some (.int .i64 x231002_2) := (blk_cell BK230.out 2).trans rfl
              have hcz100_3 : w92.cell? ⟨gb230, 3, none⟩ = some (.int .i64 x231003_2) := (blk_cell BK230.out 3).trans rfl
              have hcz100_4 : w92.cell? ⟨gb230, 4, none⟩ = some (.bool x231004_2) := (blk_cell BK230.out 4).trans rfl
              have hfz100_0 := blk_frozen BK230.out 0
              have hfz100_1 := blk_frozen BK230.out 1
              have hfz100_2 := blk_frozen BK230.out 2
              have hfz100_3 := blk_frozen BK230.out 3
              have hfz100_4 := blk_frozen BK230.out 4
              try go_wp2
              go_roundg k2
              case measure => have := HJ4.out; have := HK2.out; omega
              case rel => exact ⟨(wrap64 (x9_2 + 1)), (decide ((wrap64 (x9_2 + 1)) > 6)), (wrap64 (x12_2 + 1)), (t270), (t271), (t272), (t273), (false), (by first | rfl | (simp; done) | (simp [*]; done)), (by first | rfl | (simp; done) | (simp [*]; done)), (by first | rfl | (simp; done) | (simp [*]; done)), H', ⟨by have := HJ4.out; have := HK2.out; omega⟩, ⟨by (with_reducible repeat (first | apply Kd.R_alloc | apply Kd.R_drewN | apply Kd.R_drew)); exact Kd.R_mono (Kd.R_far (p := ⟨gb230, 4, none⟩) (Kd.R_far (p := ⟨gb230, 3, none⟩) (Kd.R_far (p := ⟨gb230, 2, none⟩) (Kd.R_far (p := ⟨gb230, 1, none⟩) (Kd.R_far (p := ⟨gb230, 0, none⟩) (Kd.R_far (p := ⟨gb276, 4, none⟩) (Kd.R_far (p := ⟨gb276, 3, none⟩) (Kd.R_far (p := ⟨gb276, 2, none⟩) (Kd.R_far (p := ⟨gb276, 1, none⟩) (Kd.R_far (p := ⟨gb276, 0, none⟩) (Kd.R_types (Kd.R_types HO_11.out BK276.out (by decide)) BK230.out (by decide)) (fun _ hk => hk.1.2) (.int .i64 t270)) (fun _ hk => hk.1.2) (.int .i64 t271)) (fun _ hk => hk.1.2) (.int .i64 t272)) (fun _ hk => hk.1.2) (.int .i64 t273)) (fun _ hk => hk.1.2) (.bool false)) (fun _ hk => hk.2) (.int .i64 t270)) (fun _ hk => hk.2) (.int .i64 t271)) (fun _ hk => hk.2) (.int .i64 t272)) (fun _ hk => hk.2) (.int .i64 t273)) (fun _ hk => hk.2) (.bool false)) (fun _ hk => trivial)⟩, ⟨by (with_reducible repeat (first | refine blk_drewN ?_ _ | refine blk_drew ?_ | refine blk_alloc ?_ _)); refine blk_put (cs := #[.int .i64 t270, .int .i64 t271, .int .i64 t272, .int .i64 t273, .bool x231004_2]) ?_ 4 _ rfl; (with_reducible repeat (first | refine blk_drewN ?_ _ | refine blk_drew ?_ | refine blk_alloc ?_ _)); refine blk_put (cs := #[.int .i64 t270, .int .i64 t271, .int .i64 t272, .int .i64 x231003_2, .bool x231004_2]) ?_ 3 _ rfl; (with_reducible repeat (first | refine blk_drewN ?_ _ | refine blk_drew ?_ | refine blk_alloc ?_ _)); refine blk_put (cs := #[.int .i64 t270, .int .i64 t271, .int .i64 x231002_2, .int .i64 x231003_2, .bool x231004_2]) ?_ 2 _ rfl; (with_reducible repeat (first | refine blk_drewN ?_ _ | refine blk_drew ?_ | refine blk_alloc ?_ _)); refine blk_put (cs := #[.int .i64 t270, .int .i64 x231001_2, .int .i64 x231002_2, .int .i64 x231003_2, .bool x231004_2]) ?_ 1 _ rfl; (with_reducible repeat (first | refine blk_drewN ?_ _ | refine blk_drew ?_ | refine blk_alloc ?_ _)); refine blk_put (cs := #[.int .i64 x231000_2, .int .i64 x231001_2, .int .i64 x231002_2, .int .i64 x231003_2, .bool x231004_2]) ?_ 0 _ rfl; (with_reducible repeat (first | refine blk_drewN ?_ _ | refine blk_drew ?_ | refine blk_alloc ?_ _)); refine blk_far ?_ NB230_276.out _; (with_reducible repeat (first | refine blk_drewN ?_ _ | refine blk_drew ?_ | refine blk_alloc ?_ _)); refine blk_far ?_ NB230_276.out _; (with_reducible repeat (first | refine blk_drewN ?_ _ | refine blk_drew ?_ | refine blk_alloc ?_ _)); refine blk_far ?_ NB230_276.out _; (with_reducible repeat (first | refine blk_drewN ?_ _ | refine blk_drew ?_ | refine blk_alloc ?_ _)); refine blk_far ?_ NB230_276.out _; (with_reducible repeat (first | refine blk_drewN ?_ _ | refine blk_drew ?_ | refine blk_alloc ?_ _)); refine blk_far ?_ NB230_276.out _; (with_reducible repeat (first | refine blk_drewN ?_ _ | refine blk_drew ?_ | refine blk_alloc ?_ _)); exact BK230.out⟩, ⟨by repeat (first | (with_reducible first | exact HB.out | apply below_alloc | apply pw_below_drewN | apply below_drew1 | refine below_set ?_ GE230.out | refine below_set ?_ GE276.out) | exact HB.out)⟩⟩
         ·
          rw [if_neg c20] at H
          exact absurd H (by simp)
        ·
         rw [if_neg c19] at H
         have c19b0 : decide (x12_2 < (y237.length : Int)) = false := decide_eq_false c19
         clear c19
         obtain rfl := Option.some.inj H
         obtain ⟨Ao101, co101, eo101⟩ := Kd.R_slice HO_11.out
         subst eo101
         go_wp2
         go_ret
         exact ⟨by first | rfl | (simp [errW_none, errW_some] <;> rfl) | (simp [*, errW_none, errW_some] <;> rfl), by repeat (first | (with_reducible first | exact HB.out | apply below_alloc | apply pw_below_drewN | apply below_drew1 | refine below_set ?_ GE230.out) | exact HB.out)⟩
     ·
      rw [if_neg c11] at H
      exact absurd H (by simp)
    ·
     rw [if_neg c10] at H
     exact absurd H (by simp)

end Go.Proofs.Ytehibiikdlgneaa.P
