-- Written by this session's own program, for this seat. Lean checks it.
import Derived.Test.YtehibiikdlgneaaP0
import Derived.Test.YtehibiikdlgneaaP1
import Derived.Test.YtehibiikdlgneaaP3
namespace Go.Proofs.Ytehibiikdlgneaa.P
open Go.RowKit Go.Proofs.YtehibiikdlgneaaW.PrintWords Go.Proofs.YtehibiikdlgneaaW.PrintLast Go.Proofs.YtehibiikdlgneaaW.PrintMore
attribute [local go_sem] max2_int min2_int max_two min_two max_three min_three max_four min_four   -- for this text's walks alone
set_option linter.unusedVariables false
set_option linter.unusedSimpArgs false

attribute [local go_sem high] eqA29
/-! ### ambidexterlaw21_Rested: function 28 -/
mutual
def ambidexterlaw21_Rested.l0 : Nat → List Int → List Int → Int → Option (List Int)
  | 0, _, _, _ => none
  | k + 1, x0, x3, x4 => if x4 < (x0.length : Int) then (if 0 ≤ x4 then (if x3.length < 17592186044416 then (ambidexterlaw21_Rested.l0 k x0 (x3 ++ [wrap64 (-(rd x0 x4))]) (wrap64 (x4 + 1))) else (none)) else (none)) else ((some (([] : List Int) : List Int)).bind fun y322 => (if y322.length + x0.length < 17592186044416 then ((some (y322 ++ x0 : List Int)).bind fun y325 => (if y325.length + x3.length < 17592186044416 then (ambidexterlaw21_Rested.l1 k (y325 ++ x3) ([] : List Int) 0) else (none))) else (none)))
def ambidexterlaw21_Rested.l1 : Nat → List Int → List Int → Int → Option (List Int)
  | 0, _, _, _ => none
  | k + 1, x5, x6, x7 => if x7 < (x5.length : Int) then (if 0 ≤ x7 then (if x6.length < 17592186044416 then (ambidexterlaw21_Rested.l1 k x5 (x6 ++ [wrap64 (-(rd x5 x7))]) (wrap64 (x7 + 1))) else (none)) else (none)) else ((some (([] : List Int) : List Int)).bind fun y335 => (if y335.length + x5.length < 17592186044416 then ((some (y335 ++ x5 : List Int)).bind fun y338 => (if y338.length + x6.length < 17592186044416 then (some (y338 ++ x6)) else (none))) else (none)))
end
def ambidexterlaw21_Rested.f (k : Nat) (l0 : List Int) : Option (List Int) := ambidexterlaw21_Rested.l0 k l0 ([] : List Int) 0
theorem ambidexterlaw21_Rested.mono_l : ∀ k, (∀ y0 y1 y2, LeO (ambidexterlaw21_Rested.l0 k y0 y1 y2) (ambidexterlaw21_Rested.l0 (k + 1) y0 y1 y2)) ∧ (∀ y0 y1 y2, LeO (ambidexterlaw21_Rested.l1 k y0 y1 y2) (ambidexterlaw21_Rested.l1 (k + 1) y0 y1 y2))
  | 0 => ⟨fun _ _ _ r h => by simp [ambidexterlaw21_Rested.l0] at h, fun _ _ _ r h => by simp [ambidexterlaw21_Rested.l1] at h⟩
  | k + 1 => by
    obtain ⟨ih0, ih1⟩ := ambidexterlaw21_Rested.mono_l k
    refine ⟨?_, ?_⟩
    · intro y0 y1 y2
      unfold ambidexterlaw21_Rested.l0
      repeat' first
      | (with_reducible exact ih0 _ _ _)
      | (with_reducible exact ih1 _ _ _)
      | (with_reducible exact LeO.refl _)
      | (with_reducible exact LeO.none _)
      | (with_reducible refine LeO.ite ?_ ?_)
      | (with_reducible refine LeO.bind ?_ (fun _ => ?_))
      | exact ih0 _ _ _
      | exact ih1 _ _ _
      | exact LeO.none _
      | refine LeO.ite ?_ ?_
      | refine LeO.bind ?_ (fun _ => ?_)
    · intro y0 y1 y2
      unfold ambidexterlaw21_Rested.l1
      repeat' first
      | (with_reducible exact ih0 _ _ _)
      | (with_reducible exact ih1 _ _ _)
      | (with_reducible exact LeO.refl _)
      | (with_reducible exact LeO.none _)
      | (with_reducible refine LeO.ite ?_ ?_)
      | (with_reducible refine LeO.bind ?_ (fun _ => ?_))
      | exact ih0 _ _ _
      | exact ih1 _ _ _
      | exact LeO.none _
      | refine LeO.ite ?_ ?_
      | refine LeO.bind ?_ (fun _ => ?_)
theorem ambidexterlaw21_Rested.mono : ∀ a0 k, LeO (ambidexterlaw21_Rested.f k a0) (ambidexterlaw21_Rested.f (k + 1) a0) := by
  intro a0 k
  obtain ⟨ih0, ih1⟩ := ambidexterlaw21_Rested.mono_l k
  unfold ambidexterlaw21_Rested.f
  repeat' first
      | (with_reducible exact ih0 _ _ _)
      | (with_reducible exact ih1 _ _ _)
      | (with_reducible exact LeO.refl _)
      | (with_reducible exact LeO.none _)
      | (with_reducible refine LeO.ite ?_ ?_)
      | (with_reducible refine LeO.bind ?_ (fun _ => ?_))
      | exact ih0 _ _ _
      | exact ih1 _ _ _
      | exact LeO.none _
      | refine LeO.ite ?_ ?_
      | refine LeO.bind ?_ (fun _ => ?_)
set_option maxHeartbeats 8000000 in
set_option maxRecDepth 100000 in
theorem ambidexterlaw21_Rested.calls (k : Nat) (A0 : Option Addr) (c0 : Nat) (l0 : List Int) (r : List Int) (w : World) (hr0 : Kd.C (Kd.int .i64) w A0 l0.length l0) (hc0 : l0.length ≤ c0) (h : ambidexterlaw21_Rested.f k l0 = some r) :
    Calls Try.prog 28 #[.slice A0 l0.length c0] w fun e w' => ∃ v0_ : Value, e = .returned (v0_) ∧ Kd.R (Kd.int .i64) 3 w' w.heap.size (fun _ => True) v0_ r ∧ Below w.heap.size w w' := by
  have HR0 := Aside0.mk hr0
  have HC0 := Aside0.mk hc0
  clear hr0 hc0
  have HB := Aside0.mk (Below.refl w.heap.size w)
  have H : (ambidexterlaw21_Rested.l0 k l0 ([] : List Int) 0) = some r := h
  clear h
  have H' := Aside0.mk H
  clear H
  go_enter Try.func28, Try.ntmps28
  go_wp2
  go_loopg [3, 4] k (fun kq v3 v4 w' => ∃ (x3_1 : List Int) (x4_1 : Int), v4 = .int .i64 x4_1 ∧ Aside0 (ambidexterlaw21_Rested.l0 kq l0 x3_1 x4_1 = some r) ∧ Aside0 (kq ≤ k) ∧ Aside0 (Kd.R (Kd.int .i64) 3 w' w.heap.size (fun _ => True) v3 x3_1) ∧ Aside0 (Below w.heap.size w w'))
  case atStart => exact ⟨(([] : List Int)), (0), (by first | rfl | (simp; done) | (simp [*]; done)), H', ⟨Nat.le_refl _⟩, ⟨by first | exact Kd.R_nil _ _ _ _ _ | exact Kd.N_nil _ _ _ _ _ | exact Kd.V_nil _ _ _ _ _ | exact Kd.Q_nil _ _ _ _ _ | exact Kd.S_nil _ _ _ _ _⟩, ⟨by repeat (first | (with_reducible first | exact HB.out | apply below_alloc | apply pw_below_drewN | apply below_drew1) | exact HB.out)⟩⟩
  case round =>
    clear H'
    obtain ⟨x3_1, x4_1, rfl, HA, HK1, HO_3, HB⟩ := hrel
    cases gk with
    | zero => exact absurd HA.out (by simp [ambidexterlaw21_Rested.l0])
    | succ k1 =>
      have H := HA.out
      clear HA
      simp only [ambidexterlaw21_Rested.l0] at H
      by_cases c2 : x4_1 < (l0.length : Int)
      · rw [if_pos c2] at H
        have c2b0 : decide (x4_1 < (l0.length : Int)) = true := decide_eq_true c2
        clear c2
        by_cases c3 : 0 ≤ x4_1
        · rw [if_pos c3] at H
          have c3b0 : decide (0 ≤ x4_1) = true := decide_eq_true c3
          clear c3
          by_cases c4 : x3_1.length < 17592186044416
          · rw [if_pos c4] at H
            have LMc4 := Aside0.mk c4
            clear c4
            obtain ⟨y319, hy319⟩ : ∃ y_ : List Int, y_ = (x3_1 ++ [wrap64 (-(rd l0 x4_1))]) := ⟨_, rfl⟩
            replace H : (ambidexterlaw21_Rested.l0 k1 l0 y319 (wrap64 (x4_1 + 1))) = some r := by first | (rw [hy319]; with_reducible exact H) | (have H2_ := (Option.bind_some _ _).symm.trans H; rw [hy319]; with_reducible exact H2_) | (have H2_ := (Option.bind_some _ _).symm.trans H; with_reducible exact H2_) | with_reducible exact H | (rw [hy319]; exact H) | exact H
            have Ny319 := Aside0.mk hy319
            clear hy319
            have H' := Aside0.mk H
            clear H
            have p318 : 0 ≤ (x4_1 : Int) := of_decide_eq_true (by first | (with_reducible assumption) | assumption)
            have q318 : x4_1 < (l0.length : Int) := of_decide_eq_true (by first | (with_reducible assumption) | assumption)
            obtain ⟨ad318, e318, hx318_0⟩ := Kd.at_int HR0.out x4_1 p318 q318
            cases e318
            replace hx318_0 := (HB.out.cell (World.block_lt_of_cell? w _ hx318_0)).trans hx318_0
            replace p318 := eq_true p318
            replace q318 := eq_true q318
            go_wp2_with (first | ((with_reducible refine gate_builtin (b := .append) (xs := #[.tmp 14, .tmp 20]) rfl ?_); at_builtin; refine Kd.R_append (Kd.int .i64) (w0 := w) w.heap.size rfl (.tmp 14) (.tmp 20) 25 3 (.int .i64 0) 8 rfl Try.underlying25 info3 rfl (by decide) (by omega) u3 x3_1 (wrap64 (-(rd l0 x4_1))) [.int .i64 (wrap64 (-(rd l0 x4_1)))] (fun _ => True) (fun _ => False) rfl rfl ?aP (fun _ hk => hk.elim) ?aF ?aO ?aB ?aS ?aL ?_; (case aP => exact rfl); (case aB => exact (by repeat (first | (with_reducible first | exact HB.out | apply below_alloc | apply pw_below_drewN | apply below_drew1) | exact HB.out))); (case aF => exact (fun _ _ => trivial)); (case aO => exact (by (with_reducible repeat (first | apply Kd.R_alloc | apply Kd.R_drewN | apply Kd.R_drew)); exact HO_3.out)); (case aS => exact (below_size (by repeat (first | (with_reducible first | exact HB.out | apply below_alloc | apply pw_below_drewN | apply below_drew1) | exact HB.out)))); (case aL => have := LMc4.out; omega); intro v320 w5 ho hb hg hat; rw [← Ny319.out] at ho; have n0_ := Aside0.mk (hb); have n1_ := Aside0.mk (ho); clear HB; clear HO_3; have HB := n0_; have HO321 := n1_; clear n0_ n1_; clear ho hb hg hat))
            go_roundg k1
            case measure => have := HK1.out; omega
            case rel => exact ⟨(y319), (wrap64 (x4_1 + 1)), (by first | rfl | (simp; done) | (simp [*]; done)), H', ⟨by have := HK1.out; omega⟩, ⟨by (with_reducible repeat (first | apply Kd.R_alloc | apply Kd.R_drewN | apply Kd.R_drew)); exact HO321.out⟩, ⟨by repeat (first | (with_reducible first | exact HB.out | apply below_alloc | apply pw_below_drewN | apply below_drew1) | exact HB.out)⟩⟩
          · rw [if_neg c4] at H
            exact absurd H (by simp)
        · rw [if_neg c3] at H
          exact absurd H (by simp)
      · rw [if_neg c2] at H
        have c2b0 : decide (x4_1 < (l0.length : Int)) = false := decide_eq_false c2
        clear c2
        obtain ⟨y322, hy322⟩ : ∃ y_ : List Int, y_ = (([] : List Int)) := ⟨_, rfl⟩
        replace H : (if y322.length + l0.length < 17592186044416 then ((some (y322 ++ l0 : List Int)).bind fun y325 => (if y325.length + x3_1.length < 17592186044416 then (ambidexterlaw21_Rested.l1 k1 (y325 ++ x3_1) ([] : List Int) 0) else (none))) else (none)) = some r := by first | (rw [hy322]; with_reducible exact H) | (have H2_ := (Option.bind_some _ _).symm.trans H; rw [hy322]; with_reducible exact H2_) | (have H2_ := (Option.bind_some _ _).symm.trans H; with_reducible exact H2_) | with_reducible exact H | (rw [hy322]; exact H) | exact H
        have Ny322 := Aside0.mk hy322
        clear hy322
        by_cases c6 : y322.length + l0.length < 17592186044416
        · rw [if_pos c6] at H
          have LMc6 := Aside0.mk c6
          clear c6
          obtain ⟨y325, hy325⟩ : ∃ y_ : List Int, y_ = (y322 ++ l0) := ⟨_, rfl⟩
          replace H : (if y325.length + x3_1.length < 17592186044416 then (ambidexterlaw21_Rested.l1 k1 (y325 ++ x3_1) ([] : List Int) 0) else (none)) = some r := by first | (rw [hy325]; with_reducible exact H) | (have H2_ := (Option.bind_some _ _).symm.trans H; rw [hy325]; with_reducible exact H2_) | (have H2_ := (Option.bind_some _ _).symm.trans H; with_reducible exact H2_) | with_reducible exact H | (rw [hy325]; exact H) | exact H
          have Ny325 := Aside0.mk hy325
          clear hy325
          by_cases c7 : y325.length + x3_1.length < 17592186044416
          · rw [if_pos c7] at H
            have LMc7 := Aside0.mk c7
            clear c7
            obtain ⟨y328, hy328⟩ : ∃ y_ : List Int, y_ = (y325 ++ x3_1) := ⟨_, rfl⟩
            replace H : (ambidexterlaw21_Rested.l1 k1 y328 ([] : List Int) 0) = some r := by first | (rw [hy328]; with_reducible exact H) | (have H2_ := (Option.bind_some _ _).symm.trans H; rw [hy328]; with_reducible exact H2_) | (have H2_ := (Option.bind_some _ _).symm.trans H; with_reducible exact H2_) | with_reducible exact H | (rw [hy328]; exact H) | exact H
            have Ny328 := Aside0.mk hy328
            clear hy328
            have H' := Aside0.mk H
            clear H
            go_wp2_with (first | ((with_reducible refine gate_dst (N := 22) rfl ?_); refine Kd.R_lit (Kd.int .i64) _ 3 ?hg (N := 22) ?hd (xs := ([] : List Int)) (inner := []) (ok := fun _ => True) (okp := fun _ => True) ?hr ?hp (fun _ hk => hk) trivial (Below.refl _ _) (Nat.le_refl _) (by simp) ?_; (case hd => rfl); (case hg => rfl); (case hr => first | (go_simp; done) | (go_simp; rfl)); (case hp => exact (Reps.none _ _)); intro v323 w8 ho9 hb hg_ hnew_; clear hg_ hnew_; (first | rw [← Ny322.out] at ho9 | (simp only [Int.reduceToNat] at ho9; rw [← Ny322.out] at ho9)); have n0_ := Aside0.mk (Kd.R_elder' (by (with_reducible repeat (first | apply Kd.R_alloc | apply Kd.R_drewN | apply Kd.R_drew)); exact HO_3.out) (Kd.R_base ho9) hb); have n1_ := Aside0.mk (Kd.R_lower (Kd.R_new' ho9 (Kd.R_lt (by (with_reducible repeat (first | apply Kd.R_alloc | apply Kd.R_drewN | apply Kd.R_drew)); exact HO_3.out))) (below_size (by repeat (first | (with_reducible first | exact HB.out | apply below_alloc | apply pw_below_drewN | apply below_drew1) | exact HB.out)))); have n2_ := Aside0.mk (below_step (by repeat (first | (with_reducible first | exact HB.out | apply below_alloc | apply pw_below_drewN | apply below_drew1) | exact HB.out)) hb); clear HO_3; clear HB; have HO_3 := n0_; have HO324 := n1_; have HB := n2_; clear n0_ n1_ n2_; clear hb ho9) | ((with_reducible refine gate_builtin (b := .append) (xs := #[.tmp 22, .tmp 23]) rfl ?_); at_builtin; refine Kd.R_append_rows (Kd.int .i64) (w0 := w) w.heap.size rfl (.tmp 22) (.tmp 23) 25 3 (.int .i64 0) 8 rfl Try.underlying25 info3 rfl (by decide) (by omega) v323 y322 l0 _ _ _ (fun k_ => some k_ ≠ (u3 : Value).ownBlock) (fun _ => False) rfl rfl ?aO ?aR (fun _ _ h => h) (fun _ h => h.elim) ?aF ?aB ?aS ?aL ?_; (case aR => repeat (first | exact (Kd.C_below HR0.out HB.out) | (with_reducible refine Kd.C_alloc ?_ _) | (with_reducible refine Kd.C_drewN ?_ _) | (with_reducible refine Kd.C_drew ?_))); (case aB => exact (by repeat (first | (with_reducible first | exact HB.out | apply below_alloc | apply pw_below_drewN | apply below_drew1) | exact HB.out))); (case aF => exact (fun k_ hk => Kd.fresh' (Kd.R_lt (by (with_reducible repeat (first | apply Kd.R_alloc | apply Kd.R_drewN | apply Kd.R_drew)); exact HO_3.out)) k_ hk)); (case aO => exact (by (with_reducible repeat (first | apply Kd.R_alloc | apply Kd.R_drewN | apply Kd.R_drew)); exact Kd.R_mono HO324.out (fun _ hk => hk.2))); (case aS => exact (below_size (by repeat (first | (with_reducible first | exact HB.out | apply below_alloc | apply pw_below_drewN | apply below_drew1) | exact HB.out)))); (case aL => have := LMc6.out; omega); intro v326 w10 ho hb hg hat; rw [← Ny325.out] at ho; have n0_ := Aside0.mk (Kd.R_after (ok := (fun _ => True)) (by (with_reducible repeat (first | apply Kd.R_alloc | apply Kd.R_drewN | apply Kd.R_drew)); exact HO_3.out) hg hat); have n1_ := Aside0.mk (hb); have n2_ := Aside0.mk (ho); clear HO_3; clear HB; clear HO324; have HO_3 := n0_; have HB := n1_; have HO327 := n2_; clear n0_ n1_ n2_; clear ho hb hg hat; obtain ⟨Ao12, co12, eo12⟩ := Kd.R_slice HO_3.out; subst eo12) | ((with_reducible refine gate_builtin (b := .append) (xs := #[.tmp 24, .tmp 25]) rfl ?_); at_builtin; refine Kd.R_append_rows (Kd.int .i64) (w0 := w) w.heap.size rfl (.tmp 24) (.tmp 25) 25 3 (.int .i64 0) 8 rfl Try.underlying25 info3 rfl (by decide) (by omega) v326 y325 x3_1 _ _ _ (fun k_ => some k_ ≠ (.slice Ao12 x3_1.length co12 : Value).ownBlock) (fun _ => False) rfl rfl ?aO ?aR (fun _ _ h => h) (fun _ h => h.elim) ?aF ?aB ?aS ?aL ?_; (case aR => repeat (first | exact (Kd.R_reads' HO_3.out).2.2 | (with_reducible refine Kd.C_alloc ?_ _) | (with_reducible refine Kd.C_drewN ?_ _) | (with_reducible refine Kd.C_drew ?_))); (case aB => exact (by repeat (first | (with_reducible first | exact HB.out | apply below_alloc | apply pw_below_drewN | apply below_drew1) | exact HB.out))); (case aF => exact (fun k_ hk => Kd.fresh' (Kd.R_lt (by (with_reducible repeat (first | apply Kd.R_alloc | apply Kd.R_drewN | apply Kd.R_drew)); exact HO_3.out)) k_ hk)); (case aO => exact (by (with_reducible repeat (first | apply Kd.R_alloc | apply Kd.R_drewN | apply Kd.R_drew)); exact HO327.out)); (case aS => exact (below_size (by repeat (first | (with_reducible first | exact HB.out | apply below_alloc | apply pw_below_drewN | apply below_drew1) | exact HB.out)))); (case aL => have := LMc7.out; omega); intro v329 w11 ho hb hg hat; rw [← Ny328.out] at ho; have n0_ := Aside0.mk (Kd.R_after (ok := (fun _ => True)) (by (with_reducible repeat (first | apply Kd.R_alloc | apply Kd.R_drewN | apply Kd.R_drew)); exact HO_3.out) hg hat); have n1_ := Aside0.mk (hb); have n2_ := Aside0.mk (ho); clear HO_3; clear HB; clear HO327; have HO_3 := n0_; have HB := n1_; have HO330 := n2_; clear n0_ n1_ n2_; clear ho hb hg hat))
            go_loopg [6, 7] k1 (fun kq v6 v7 w' => ∃ (x6_2 : List Int) (x7_2 : Int), v7 = .int .i64 x7_2 ∧ Aside0 (ambidexterlaw21_Rested.l1 kq y328 x6_2 x7_2 = some r) ∧ Aside0 (kq ≤ k1) ∧ Aside0 (Kd.R (Kd.int .i64) 3 w' w.heap.size (fun k_ => some k_ ≠ (v6 : Value).ownBlock) v329 y328) ∧ Aside0 (Kd.R (Kd.int .i64) 3 w' w.heap.size (fun k_ => some k_ ≠ (v329 : Value).ownBlock) v6 x6_2) ∧ Aside0 (Below w.heap.size w w'))
            case atStart => exact ⟨(([] : List Int)), (0), (by first | rfl | (simp; done) | (simp [*]; done)), H', ⟨Nat.le_refl _⟩, ⟨by (with_reducible repeat (first | apply Kd.R_alloc | apply Kd.R_drewN | apply Kd.R_drew)); exact Kd.R_mono HO330.out (fun _ hk => (by simp [Value.ownBlock]))⟩, ⟨by first | exact Kd.R_nil _ _ _ _ _ | exact Kd.N_nil _ _ _ _ _ | exact Kd.V_nil _ _ _ _ _ | exact Kd.Q_nil _ _ _ _ _ | exact Kd.S_nil _ _ _ _ _⟩, ⟨by repeat (first | (with_reducible first | exact HB.out | apply below_alloc | apply pw_below_drewN | apply below_drew1) | exact HB.out)⟩⟩
            case round =>
              clear H'
              try clear c2
              try clear c2b0
              try clear p2
              try clear c3
              try clear c3b0
              try clear p3
              try clear q3
              try clear hx3
              try clear c4
              try clear c6
              try clear p6
              try clear c7
              try clear hx318_0
              try clear p318
              try clear q318
              obtain ⟨x6_2, x7_2, rfl, HA, HK2, HO_5, HO_6, HB⟩ := hrel
              cases gk with
              | zero => exact absurd HA.out (by simp [ambidexterlaw21_Rested.l1])
              | succ k2 =>
                have H := HA.out
                clear HA
                simp only [ambidexterlaw21_Rested.l1] at H
                by_cases c13 : x7_2 < (y328.length : Int)
                · rw [if_pos c13] at H
                  have c13b0 : decide (x7_2 < (y328.length : Int)) = true := decide_eq_true c13
                  clear c13
                  by_cases c14 : 0 ≤ x7_2
                  · rw [if_pos c14] at H
                    have c14b0 : decide (0 ≤ x7_2) = true := decide_eq_true c14
                    clear c14
                    by_cases c15 : x6_2.length < 17592186044416
                    · rw [if_pos c15] at H
                      have LMc15 := Aside0.mk c15
                      clear c15
                      obtain ⟨y332, hy332⟩ : ∃ y_ : List Int, y_ = (x6_2 ++ [wrap64 (-(rd y328 x7_2))]) := ⟨_, rfl⟩
                      replace H : (ambidexterlaw21_Rested.l1 k2 y328 y332 (wrap64 (x7_2 + 1))) = some r := by first | (rw [hy332]; with_reducible exact H) | (have H2_ := (Option.bind_some _ _).symm.trans H; rw [hy332]; with_reducible exact H2_) | (have H2_ := (Option.bind_some _ _).symm.trans H; with_reducible exact H2_) | with_reducible exact H | (rw [hy332]; exact H) | exact H
                      have Ny332 := Aside0.mk hy332
                      clear hy332
                      have H' := Aside0.mk H
                      clear H
                      obtain ⟨Ao16, co16, eo16⟩ := Kd.R_slice HO_5.out
                      subst eo16
                      have p331 : 0 ≤ (x7_2 : Int) := of_decide_eq_true (by first | (with_reducible assumption) | assumption)
                      have q331 : x7_2 < (y328.length : Int) := of_decide_eq_true (by first | (with_reducible assumption) | assumption)
                      obtain ⟨ad331, e331, hx331_0⟩ := Kd.at_int (Kd.R_reads' HO_5.out).2.2 x7_2 p331 q331
                      cases e331
                      replace p331 := eq_true p331
                      replace q331 := eq_true q331
                      go_wp2_with (first | ((with_reducible refine gate_builtin (b := .append) (xs := #[.tmp 33, .tmp 39]) rfl ?_); at_builtin; refine Kd.R_append (Kd.int .i64) (w0 := w) w.heap.size rfl (.tmp 33) (.tmp 39) 25 3 (.int .i64 0) 8 rfl Try.underlying25 info3 rfl (by decide) (by omega) u6 x6_2 (wrap64 (-(rd y328 x7_2))) [.int .i64 (wrap64 (-(rd y328 x7_2)))] (fun k_ => some k_ ≠ (.slice (some ad331) y328.length co16 : Value).ownBlock) (fun _ => False) rfl rfl ?aP (fun _ hk => hk.elim) ?aF ?aO ?aB ?aS ?aL ?_; (case aP => exact rfl); (case aB => exact (by repeat (first | (with_reducible first | exact HB.out | apply below_alloc | apply pw_below_drewN | apply below_drew1) | exact HB.out))); (case aF => exact (fun k_ hk => Kd.fresh' (Kd.R_lt (by (with_reducible repeat (first | apply Kd.R_alloc | apply Kd.R_drewN | apply Kd.R_drew)); exact HO_5.out)) k_ hk)); (case aO => exact (by (with_reducible repeat (first | apply Kd.R_alloc | apply Kd.R_drewN | apply Kd.R_drew)); exact HO_6.out)); (case aS => exact (below_size (by repeat (first | (with_reducible first | exact HB.out | apply below_alloc | apply pw_below_drewN | apply below_drew1) | exact HB.out)))); (case aL => have := LMc15.out; omega); intro v333 w17 ho hb hg hat; rw [← Ny332.out] at ho; have n0_ := Aside0.mk (Kd.R_after (ok := (fun _ => True)) (by (with_reducible repeat (first | apply Kd.R_alloc | apply Kd.R_drewN | apply Kd.R_drew)); exact Kd.R_mono HO_5.out (fun _ hk => ⟨trivial, hk⟩)) hg hat); have n1_ := Aside0.mk (hb); have n2_ := Aside0.mk (ho); clear HO_5; clear HB; clear HO_6; have HO_5 := n0_; have HB := n1_; have HO334 := n2_; clear n0_ n1_ n2_; clear ho hb hg hat))
                      go_roundg k2
                      case measure => have := HK1.out; have := HK2.out; omega
                      case rel => exact ⟨(y332), (wrap64 (x7_2 + 1)), (by first | rfl | (simp; done) | (simp [*]; done)), H', ⟨by have := HK1.out; have := HK2.out; omega⟩, ⟨by (with_reducible repeat (first | apply Kd.R_alloc | apply Kd.R_drewN | apply Kd.R_drew)); exact Kd.R_mono HO_5.out (fun _ hk => hk.2)⟩, ⟨by (with_reducible repeat (first | apply Kd.R_alloc | apply Kd.R_drewN | apply Kd.R_drew)); exact HO334.out⟩, ⟨by repeat (first | (with_reducible first | exact HB.out | apply below_alloc | apply pw_below_drewN | apply below_drew1) | exact HB.out)⟩⟩
                    · rw [if_neg c15] at H
                      exact absurd H (by simp)
                  · rw [if_neg c14] at H
                    exact absurd H (by simp)
                · rw [if_neg c13] at H
                  have c13b0 : decide (x7_2 < (y328.length : Int)) = false := decide_eq_false c13
                  clear c13
                  obtain ⟨y335, hy335⟩ : ∃ y_ : List Int, y_ = (([] : List Int)) := ⟨_, rfl⟩
                  replace H : (if y335.length + y328.length < 17592186044416 then ((some (y335 ++ y328 : List Int)).bind fun y338 => (if y338.length + x6_2.length < 17592186044416 then (some (y338 ++ x6_2)) else (none))) else (none)) = some r := by first | (rw [hy335]; with_reducible exact H) | (have H2_ := (Option.bind_some _ _).symm.trans H; rw [hy335]; with_reducible exact H2_) | (have H2_ := (Option.bind_some _ _).symm.trans H; with_reducible exact H2_) | with_reducible exact H | (rw [hy335]; exact H) | exact H
                  have Ny335 := Aside0.mk hy335
                  clear hy335
                  by_cases c18 : y335.length + y328.length < 17592186044416
                  · rw [if_pos c18] at H
                    have LMc18 := Aside0.mk c18
                    clear c18
                    obtain ⟨y338, hy338⟩ : ∃ y_ : List Int, y_ = (y335 ++ y328) := ⟨_, rfl⟩
                    replace H : (if y338.length + x6_2.length < 17592186044416 then (some (y338 ++ x6_2)) else (none)) = some r := by first | (rw [hy338]; with_reducible exact H) | (have H2_ := (Option.bind_some _ _).symm.trans H; rw [hy338]; with_reducible exact H2_) | (have H2_ := (Option.bind_some _ _).symm.trans H; with_reducible exact H2_) | with_reducible exact H | (rw [hy338]; exact H) | exact H
                    have Ny338 := Aside0.mk hy338
                    clear hy338
                    by_cases c19 : y338.length + x6_2.length < 17592186044416
                    · rw [if_pos c19] at H
                      have LMc19 := Aside0.mk c19
                      clear c19
                      obtain ⟨y341, hy341⟩ : ∃ y_ : List Int, y_ = (y338 ++ x6_2) := ⟨_, rfl⟩
                      replace H : (some y341) = some r := by first | (rw [hy341]; with_reducible exact H) | (have H2_ := (Option.bind_some _ _).symm.trans H; rw [hy341]; with_reducible exact H2_) | (have H2_ := (Option.bind_some _ _).symm.trans H; with_reducible exact H2_) | with_reducible exact H | (rw [hy341]; exact H) | exact H
                      have Ny341 := Aside0.mk hy341
                      clear hy341
                      obtain rfl := Option.some.inj H
                      obtain ⟨Ao20, co20, eo20⟩ := Kd.R_slice HO_5.out
                      subst eo20
                      go_wp2_with (first | ((with_reducible refine gate_dst (N := 41) rfl ?_); refine Kd.R_lit (Kd.int .i64) _ 3 ?hg (N := 41) ?hd (xs := ([] : List Int)) (inner := []) (ok := fun _ => True) (okp := fun _ => True) ?hr ?hp (fun _ hk => hk) trivial (Below.refl _ _) (Nat.le_refl _) (by simp) ?_; (case hd => rfl); (case hg => rfl); (case hr => first | (go_simp; done) | (go_simp; rfl)); (case hp => exact (Reps.none _ _)); intro v336 w21 ho22 hb hg_ hnew_; clear hg_ hnew_; (first | rw [← Ny335.out] at ho22 | (simp only [Int.reduceToNat] at ho22; rw [← Ny335.out] at ho22)); have n0_ := Aside0.mk (Kd.R_elder' (by (with_reducible repeat (first | apply Kd.R_alloc | apply Kd.R_drewN | apply Kd.R_drew)); exact HO_5.out) (Kd.R_base ho22) hb); have n1_ := Aside0.mk (Kd.R_elder' (by (with_reducible repeat (first | apply Kd.R_alloc | apply Kd.R_drewN | apply Kd.R_drew)); exact HO_6.out) (Kd.R_base ho22) hb); have n2_ := Aside0.mk (Kd.R_lower (Kd.R_new' (Kd.R_new' ho22 (Kd.R_lt (by (with_reducible repeat (first | apply Kd.R_alloc | apply Kd.R_drewN | apply Kd.R_drew)); exact HO_5.out))) (Kd.R_lt (by (with_reducible repeat (first | apply Kd.R_alloc | apply Kd.R_drewN | apply Kd.R_drew)); exact HO_6.out))) (below_size (by repeat (first | (with_reducible first | exact HB.out | apply below_alloc | apply pw_below_drewN | apply below_drew1) | exact HB.out)))); have n3_ := Aside0.mk (below_step (by repeat (first | (with_reducible first | exact HB.out | apply below_alloc | apply pw_below_drewN | apply below_drew1) | exact HB.out)) hb); clear HO_5; clear HO_6; clear HB; have HO_5 := n0_; have HO_6 := n1_; have HO337 := n2_; have HB := n3_; clear n0_ n1_ n2_ n3_; clear hb ho22) | ((with_reducible refine gate_builtin (b := .append) (xs := #[.tmp 41, .tmp 42]) rfl ?_); at_builtin; refine Kd.R_append_rows (Kd.int .i64) (w0 := w) w.heap.size rfl (.tmp 41) (.tmp 42) 25 3 (.int .i64 0) 8 rfl Try.underlying25 info3 rfl (by decide) (by omega) v336 y335 y328 _ _ _ (fun k_ => some k_ ≠ (.slice Ao20 y328.length co20 : Value).ownBlock ∧ some k_ ≠ (u6 : Value).ownBlock) (fun _ => False) rfl rfl ?aO ?aR (fun _ _ h => h) (fun _ h => h.elim) ?aF ?aB ?aS ?aL ?_; (case aR => repeat (first | exact (Kd.R_reads' HO_5.out).2.2 | (with_reducible refine Kd.C_alloc ?_ _) | (with_reducible refine Kd.C_drewN ?_ _) | (with_reducible refine Kd.C_drew ?_))); (case aB => exact (by repeat (first | (with_reducible first | exact HB.out | apply below_alloc | apply pw_below_drewN | apply below_drew1) | exact HB.out))); (case aF => exact (fun k_ hk => ⟨Kd.fresh' (Kd.R_lt (by (with_reducible repeat (first | apply Kd.R_alloc | apply Kd.R_drewN | apply Kd.R_drew)); exact HO_5.out)) k_ hk, Kd.fresh' (Kd.R_lt (by (with_reducible repeat (first | apply Kd.R_alloc | apply Kd.R_drewN | apply Kd.R_drew)); exact HO_6.out)) k_ hk⟩)); (case aO => exact (by (with_reducible repeat (first | apply Kd.R_alloc | apply Kd.R_drewN | apply Kd.R_drew)); exact Kd.R_mono HO337.out (fun _ hk => ⟨hk.1.2, hk.2⟩))); (case aS => exact (below_size (by repeat (first | (with_reducible first | exact HB.out | apply below_alloc | apply pw_below_drewN | apply below_drew1) | exact HB.out)))); (case aL => have := LMc18.out; omega); intro v339 w23 ho hb hg hat; rw [← Ny338.out] at ho; have n0_ := Aside0.mk (Kd.R_after (ok := (fun k_ => some k_ ≠ (u6 : Value).ownBlock)) (by (with_reducible repeat (first | apply Kd.R_alloc | apply Kd.R_drewN | apply Kd.R_drew)); exact HO_5.out) hg hat); have n1_ := Aside0.mk (Kd.R_after (ok := (fun k_ => some k_ ≠ (.slice Ao20 y328.length co20 : Value).ownBlock)) (by (with_reducible repeat (first | apply Kd.R_alloc | apply Kd.R_drewN | apply Kd.R_drew)); exact HO_6.out) hg hat); have n2_ := Aside0.mk (hb); have n3_ := Aside0.mk (ho); clear HO_5; clear HO_6; clear HB; clear HO337; have HO_5 := n0_; have HO_6 := n1_; have HB := n2_; have HO340 := n3_; clear n0_ n1_ n2_ n3_; clear ho hb hg hat; obtain ⟨Ao25, co25, eo25⟩ := Kd.R_slice HO_6.out; subst eo25) | ((with_reducible refine gate_builtin (b := .append) (xs := #[.tmp 43, .tmp 44]) rfl ?_); at_builtin; refine Kd.R_append_rows (Kd.int .i64) (w0 := w) w.heap.size rfl (.tmp 43) (.tmp 44) 25 3 (.int .i64 0) 8 rfl Try.underlying25 info3 rfl (by decide) (by omega) v339 y338 x6_2 _ _ _ (fun k_ => some k_ ≠ (.slice Ao20 y328.length co20 : Value).ownBlock ∧ some k_ ≠ (.slice Ao25 x6_2.length co25 : Value).ownBlock) (fun _ => False) rfl rfl ?aO ?aR (fun _ _ h => h) (fun _ h => h.elim) ?aF ?aB ?aS ?aL ?_; (case aR => repeat (first | exact (Kd.R_reads' HO_6.out).2.2 | (with_reducible refine Kd.C_alloc ?_ _) | (with_reducible refine Kd.C_drewN ?_ _) | (with_reducible refine Kd.C_drew ?_))); (case aB => exact (by repeat (first | (with_reducible first | exact HB.out | apply below_alloc | apply pw_below_drewN | apply below_drew1) | exact HB.out))); (case aF => exact (fun k_ hk => ⟨Kd.fresh' (Kd.R_lt (by (with_reducible repeat (first | apply Kd.R_alloc | apply Kd.R_drewN | apply Kd.R_drew)); exact HO_5.out)) k_ hk, Kd.fresh' (Kd.R_lt (by (with_reducible repeat (first | apply Kd.R_alloc | apply Kd.R_drewN | apply Kd.R_drew)); exact HO_6.out)) k_ hk⟩)); (case aO => exact (by (with_reducible repeat (first | apply Kd.R_alloc | apply Kd.R_drewN | apply Kd.R_drew)); exact HO340.out)); (case aS => exact (below_size (by repeat (first | (with_reducible first | exact HB.out | apply below_alloc | apply pw_below_drewN | apply below_drew1) | exact HB.out)))); (case aL => have := LMc19.out; omega); intro v342 w24 ho hb hg hat; rw [← Ny341.out] at ho; have n0_ := Aside0.mk (Kd.R_after (ok := (fun k_ => some k_ ≠ (.slice Ao25 x6_2.length co25 : Value).ownBlock)) (by (with_reducible repeat (first | apply Kd.R_alloc | apply Kd.R_drewN | apply Kd.R_drew)); exact HO_5.out) hg hat); have n1_ := Aside0.mk (Kd.R_after (ok := (fun k_ => some k_ ≠ (.slice Ao20 y328.length co20 : Value).ownBlock)) (by (with_reducible repeat (first | apply Kd.R_alloc | apply Kd.R_drewN | apply Kd.R_drew)); exact HO_6.out) hg hat); have n2_ := Aside0.mk (hb); have n3_ := Aside0.mk (ho); clear HO_5; clear HO_6; clear HB; clear HO340; have HO_5 := n0_; have HO_6 := n1_; have HB := n2_; have HO343 := n3_; clear n0_ n1_ n2_ n3_; clear ho hb hg hat))
                      go_ret
                      exact ⟨_, by first | rfl | (simp [errW_none, errW_some] <;> rfl) | (simp [*, errW_none, errW_some] <;> rfl), by (with_reducible repeat (first | apply Kd.R_alloc | apply Kd.R_drewN | apply Kd.R_drew)); exact Kd.R_mono HO343.out (fun _ hk => trivial), by repeat (first | (with_reducible first | exact HB.out | apply below_alloc | apply pw_below_drewN | apply below_drew1) | exact HB.out)⟩
                    · rw [if_neg c19] at H
                      exact absurd H (by simp)
                  · rw [if_neg c18] at H
                    exact absurd H (by simp)
          · rw [if_neg c7] at H
            exact absurd H (by simp)
        · rw [if_neg c6] at H
          exact absurd H (by simp)

/-! ### ambidexterlaw21_ProfileTimeReversal: function 8 -/
mutual
def ambidexterlaw21_ProfileTimeReversal.j0 : Nat → Int → List Int → Bool → Bool → Option (Bool)
  | 0, _, _, _, _ => none
  | k + 1, x0, x1, x5, x18 => if x18 = true then (some x5) else ((ambidexterlaw21_Rested.f k x1).bind fun t346 => (ambidexterlaw21_ProfileTimeReversal.l0 k x0 x5 t346 (([0] : List Int)) (wrap64 ((t346.length : Int) - 1))))
def ambidexterlaw21_ProfileTimeReversal.l0 : Nat → Int → Bool → List Int → List Int → Int → Option (Bool)
  | 0, _, _, _, _, _ => none
  | k + 1, x0, x5, x6, x7, x8 => if x8 ≥ 0 then (if 0 ≤ x8 then (if x8 < (x6.length : Int) then (if x7.length < 17592186044416 then (ambidexterlaw21_ProfileTimeReversal.l0 k x0 x5 x6 (x7 ++ [rd x6 x8]) (wrap64 (x8 - 1))) else (none)) else (none)) else (none)) else ((profile_Final.f 0 0 0 x6).bind fun bt356 => ((profile_Final.f 0 0 0 x7).bind fun bt360 => (if bt356.2.1 = 0 then (ambidexterlaw21_ProfileTimeReversal.j2 k x0 x5 x6 x7 (bt356.2.2 != 0) bt356.1 bt356.2.1 bt356.2.2 bt360.1 bt360.2.1 bt360.2.2) else (ambidexterlaw21_ProfileTimeReversal.j2 k x0 x5 x6 x7 true bt356.1 bt356.2.1 bt356.2.2 bt360.1 bt360.2.1 bt360.2.2))))
def ambidexterlaw21_ProfileTimeReversal.j2 : Nat → Int → Bool → List Int → List Int → Bool → Int → Int → Int → Int → Int → Int → Option (Bool)
  | 0, _, _, _, _, _, _, _, _, _, _, _ => none
  | k + 1, x0, x5, x6, x7, x50, x360000, x360001, x360002, x364000, x364001, x364002 => if x50 = true then (some false) else (if x5 = true then (if (x360000 == x364000 && (x360001 == x364001 && (x360002 == x364002))) = true then ((ambidexterlaw21_Lim.f x0).bind fun bt364 => ((profile_Within.f bt364.1 bt364.2.1 bt364.2.2 0 0 0 x6).bind fun t367 => ((ambidexterlaw21_Lim.f x0).bind fun bt368 => ((profile_Within.f bt368.1 bt368.2.1 bt368.2.2 0 0 0 x7).bind fun t371 => (some (t367 == t371)))))) else (some false)) else (some false))
end
def ambidexterlaw21_ProfileTimeReversal.f (k : Nat) (a0 : Int) (l1 : List Int) : Option (Bool) := (ambidexterlaw21_head.f k).bind fun t344 => ((ambidexterlaw21_Great.f k l1).bind fun t345 => (if t345 = true then (ambidexterlaw21_ProfileTimeReversal.j0 k a0 l1 t344 true) else (ambidexterlaw21_ProfileTimeReversal.j0 k a0 l1 t344 (decide ((l1.length : Int) > 60)))))
theorem ambidexterlaw21_ProfileTimeReversal.mono_l : ∀ k, (∀ y0 y1 y2 y3, LeO (ambidexterlaw21_ProfileTimeReversal.j0 k y0 y1 y2 y3) (ambidexterlaw21_ProfileTimeReversal.j0 (k + 1) y0 y1 y2 y3)) ∧ (∀ y0 y1 y2 y3 y4, LeO (ambidexterlaw21_ProfileTimeReversal.l0 k y0 y1 y2 y3 y4) (ambidexterlaw21_ProfileTimeReversal.l0 (k + 1) y0 y1 y2 y3 y4)) ∧ (∀ y0 y1 y2 y3 y4 y5 y6 y7 y8 y9 y10, LeO (ambidexterlaw21_ProfileTimeReversal.j2 k y0 y1 y2 y3 y4 y5 y6 y7 y8 y9 y10) (ambidexterlaw21_ProfileTimeReversal.j2 (k + 1) y0 y1 y2 y3 y4 y5 y6 y7 y8 y9 y10))
  | 0 => ⟨fun _ _ _ _ r h => by simp [ambidexterlaw21_ProfileTimeReversal.j0] at h, fun _ _ _ _ _ r h => by simp [ambidexterlaw21_ProfileTimeReversal.l0] at h, fun _ _ _ _ _ _ _ _ _ _ _ r h => by simp [ambidexterlaw21_ProfileTimeReversal.j2] at h⟩
  | k + 1 => by
    obtain ⟨ih0, ih1, ih2⟩ := ambidexterlaw21_ProfileTimeReversal.mono_l k
    refine ⟨?_, ?_, ?_⟩
    · intro y0 y1 y2 y3
      unfold ambidexterlaw21_ProfileTimeReversal.j0
      repeat' first
      | (with_reducible exact ih0 _ _ _ _)
      | (with_reducible exact ih1 _ _ _ _ _)
      | (with_reducible exact ih2 _ _ _ _ _ _ _ _ _ _ _)
      | (with_reducible exact ambidexterlaw21_Great.mono _ _)
      | (with_reducible exact ambidexterlaw21_Rested.mono _ _)
      | (with_reducible exact ambidexterlaw21_head.mono _)
      | (with_reducible exact LeO.refl _)
      | (with_reducible exact LeO.none _)
      | (with_reducible refine LeO.ite ?_ ?_)
      | (with_reducible refine LeO.bind ?_ (fun _ => ?_))
      | exact ih0 _ _ _ _
      | exact ih1 _ _ _ _ _
      | exact ih2 _ _ _ _ _ _ _ _ _ _ _
      | exact ambidexterlaw21_Great.mono _ _
      | exact ambidexterlaw21_Rested.mono _ _
      | exact ambidexterlaw21_head.mono _
      | exact LeO.none _
      | refine LeO.ite ?_ ?_
      | refine LeO.bind ?_ (fun _ => ?_)
    · intro y0 y1 y2 y3 y4
      unfold ambidexterlaw21_ProfileTimeReversal.l0
      repeat' first
      | (with_reducible exact ih0 _ _ _ _)
      | (with_reducible exact ih1 _ _ _ _ _)
      | (with_reducible exact ih2 _ _ _ _ _ _ _ _ _ _ _)
      | (with_reducible exact ambidexterlaw21_Great.mono _ _)
      | (with_reducible exact ambidexterlaw21_Rested.mono _ _)
      | (with_reducible exact ambidexterlaw21_head.mono _)
      | (with_reducible exact LeO.refl _)
      | (with_reducible exact LeO.none _)
      | (with_reducible refine LeO.ite ?_ ?_)
      | (with_reducible refine LeO.bind ?_ (fun _ => ?_))
      | exact ih0 _ _ _ _
      | exact ih1 _ _ _ _ _
      | exact ih2 _ _ _ _ _ _ _ _ _ _ _
      | exact ambidexterlaw21_Great.mono _ _
      | exact ambidexterlaw21_Rested.mono _ _
      | exact ambidexterlaw21_head.mono _
      | exact LeO.none _
      | refine LeO.ite ?_ ?_
      | refine LeO.bind ?_ (fun _ => ?_)
    · intro y0 y1 y2 y3 y4 y5 y6 y7 y8 y9 y10
      unfold ambidexterlaw21_ProfileTimeReversal.j2
      repeat' first
      | (with_reducible exact ih0 _ _ _ _)
      | (with_reducible exact ih1 _ _ _ _ _)
      | (with_reducible exact ih2 _ _ _ _ _ _ _ _ _ _ _)
      | (with_reducible exact ambidexterlaw21_Great.mono _ _)
      | (with_reducible exact ambidexterlaw21_Rested.mono _ _)
      | (with_reducible exact ambidexterlaw21_head.mono _)
      | (with_reducible exact LeO.refl _)
      | (with_reducible exact LeO.none _)
      | (with_reducible refine LeO.ite ?_ ?_)
      | (with_reducible refine LeO.bind ?_ (fun _ => ?_))
      | exact ih0 _ _ _ _
      | exact ih1 _ _ _ _ _
      | exact ih2 _ _ _ _ _ _ _ _ _ _ _
      | exact ambidexterlaw21_Great.mono _ _
      | exact ambidexterlaw21_Rested.mono _ _
      | exact ambidexterlaw21_head.mono _
      | exact LeO.none _
      | refine LeO.ite ?_ ?_
      | refine LeO.bind ?_ (fun _ => ?_)
theorem ambidexterlaw21_ProfileTimeReversal.mono : ∀ a0 a1 k, LeO (ambidexterlaw21_ProfileTimeReversal.f k a0 a1) (ambidexterlaw21_ProfileTimeReversal.f (k + 1) a0 a1) := by
  intro a0 a1 k
  obtain ⟨ih0, ih1, ih2⟩ := ambidexterlaw21_ProfileTimeReversal.mono_l k
  unfold ambidexterlaw21_ProfileTimeReversal.f
  repeat' first
      | (with_reducible exact ih0 _ _ _ _)
      | (with_reducible exact ih1 _ _ _ _ _)
      | (with_reducible exact ih2 _ _ _ _ _ _ _ _ _ _ _)
      | (with_reducible exact ambidexterlaw21_Great.mono _ _)
      | (with_reducible exact ambidexterlaw21_Rested.mono _ _)
      | (with_reducible exact ambidexterlaw21_head.mono _)
      | (with_reducible exact LeO.refl _)
      | (with_reducible exact LeO.none _)
      | (with_reducible refine LeO.ite ?_ ?_)
      | (with_reducible refine LeO.bind ?_ (fun _ => ?_))
      | exact ih0 _ _ _ _
      | exact ih1 _ _ _ _ _
      | exact ih2 _ _ _ _ _ _ _ _ _ _ _
      | exact ambidexterlaw21_Great.mono _ _
      | exact ambidexterlaw21_Rested.mono _ _
      | exact ambidexterlaw21_head.mono _
      | exact LeO.none _
      | refine LeO.ite ?_ ?_
      | refine LeO.bind ?_ (fun _ => ?_)
set_option maxHeartbeats 8000000 in
set_option maxRecDepth 100000 in
theorem ambidexterlaw21_ProfileTimeReversal.calls0 (k : Nat) (a0 : Int) (A1 : Option Addr) (c1 : Nat) (l1 : List Int) (r : Bool) (w : World) (hr1 : Kd.C (Kd.int .i64) w A1 l1.length l1) (hc1 : l1.length ≤ c1) (h : ambidexterlaw21_ProfileTimeReversal.f k a0 l1 = some r) (hT : r = true) :
    Calls Try.prog 8 #[.int .u8 a0, .slice A1 l1.length c1] w fun e w' => e = .returned (.bool r) ∧ Below w.heap.size w w' := by
  have hu29 := Try.underlying29
  have HR1 := Aside0.mk hr1
  have HC1 := Aside0.mk hc1
  clear hr1 hc1
  have HB := Aside0.mk (Below.refl w.heap.size w)
  have H : ((ambidexterlaw21_head.f k).bind fun t344 => ((ambidexterlaw21_Great.f k l1).bind fun t345 => (if t345 = true then (ambidexterlaw21_ProfileTimeReversal.j0 k a0 l1 t344 true) else (ambidexterlaw21_ProfileTimeReversal.j0 k a0 l1 t344 (decide ((l1.length : Int) > 60)))))) = some r := h
  clear h
  have HT := Aside0.mk hT
  clear hT
  replace H := Option.bind_eq_some_iff.mp H
  obtain ⟨t344, A30, H⟩ := H
  obtain rfl := ambidexterlaw21_head.is_true k A30
  replace H : ((ambidexterlaw21_Great.f k l1).bind fun t345 => (if t345 = true then (ambidexterlaw21_ProfileTimeReversal.j0 k a0 l1 true true) else (ambidexterlaw21_ProfileTimeReversal.j0 k a0 l1 true (decide ((l1.length : Int) > 60))))) = some r := H
  have A3 := Aside0.mk A30
  clear A30
  have HC4 := Aside0.mk H
  clear H
  go_enter Try.func8, Try.ntmps8
  go_upto_region 2 with (first | ((with_reducible refine gate_callee (f := 15) rfl ?_); refine goesL_ (some 11) rfl rfl Try.func15 (by kernel_rfl) rfl #[] rfl (by (try simp only [List.map_toArray, List.map_cons, List.map_nil]); first | done | rfl | (simp only [List.length_drop, List.length_take]; rfl)) ?_; (with_reducible refine (ambidexterlaw21_head.calls k  true _ A3.out).mono ?_); rintro e w5 ⟨rfl, hb⟩; refine ⟨_, rfl, ?_⟩; have n0_ := Aside0.mk (below_step (by repeat (first | (with_reducible first | exact HB.out | apply below_alloc | apply pw_below_drewN | apply below_drew1) | exact HB.out)) hb); clear HB; have HB := n0_; clear n0_; (try clear hb); (try clear hb2); (try clear hk); (try clear hi)))
  (try simp only [Act.put, List.setIfInBounds_toArray, List.set_cons_zero, List.set_cons_succ])
  go_cut [18] (fun v18 wc => ∃ (kq : Nat) (x18_3 : Bool), v18 = .bool x18_3 ∧ Aside0 (ambidexterlaw21_ProfileTimeReversal.j0 kq a0 l1 true x18_3 = some r) ∧ Aside0 (kq ≤ k) ∧ Aside0 (Below w.heap.size w wc))
  case first =>
    have H := HC4.out
    clear HC4
    replace H := Option.bind_eq_some_iff.mp H
    obtain ⟨t345, A60, H⟩ := H
    replace H : (if t345 = true then (ambidexterlaw21_ProfileTimeReversal.j0 k a0 l1 true true) else (ambidexterlaw21_ProfileTimeReversal.j0 k a0 l1 true (decide ((l1.length : Int) > 60)))) = some r := H
    have A6 := Aside0.mk A60
    clear A60
    by_cases c7 : t345 = true
    · subst c7
      have H1 : (ambidexterlaw21_ProfileTimeReversal.j0 k a0 l1 true true) = some r := by rw [if_pos rfl] at H; exact H
      clear H
      have H := H1
      clear H1
      have H' := Aside0.mk H
      clear H
      go_wp2_with (first | ((with_reducible refine gate_callee (f := 16) rfl ?_); refine goesL_ (some 13) rfl rfl Try.func16 (by kernel_rfl) rfl #[.slice A1 l1.length c1] rfl (by (try simp only [List.map_toArray, List.map_cons, List.map_nil]); first | done | rfl | (simp only [List.length_drop, List.length_take]; rfl)) ?_; (with_reducible refine (ambidexterlaw21_Great.calls k _ _ l1 true _ ?side1 ?side2 A6.out).mono ?_); (case side1 => repeat (first | exact (Kd.C_below HR1.out HB.out) | (with_reducible refine Kd.C_alloc ?_ _) | (with_reducible refine Kd.C_drewN ?_ _) | (with_reducible refine Kd.C_drew ?_))); (case side2 => exact HC1.out); rintro e w' ⟨rfl, ⟨nd, rfl⟩⟩; refine ⟨_, rfl, ?_⟩))
      go_meet
      case rel => exact ⟨_, (true), (by first | rfl | (simp; done) | (simp [*]; done)), H', ⟨by first | omega | exact Nat.le_refl _⟩, ⟨by repeat (first | (with_reducible first | exact HB.out | apply below_alloc | apply pw_below_drewN | apply below_drew1) | exact HB.out)⟩⟩
    · replace c7 := Bool.eq_false_iff.mpr c7
      subst c7
      have H1 : (ambidexterlaw21_ProfileTimeReversal.j0 k a0 l1 true (decide ((l1.length : Int) > 60))) = some r := by rw [if_neg (show ¬ (false = true) by decide)] at H; exact H
      clear H
      have H := H1
      clear H1
      have H' := Aside0.mk H
      clear H
      go_wp2_with (first | ((with_reducible refine gate_callee (f := 16) rfl ?_); refine goesL_ (some 13) rfl rfl Try.func16 (by kernel_rfl) rfl #[.slice A1 l1.length c1] rfl (by (try simp only [List.map_toArray, List.map_cons, List.map_nil]); first | done | rfl | (simp only [List.length_drop, List.length_take]; rfl)) ?_; (with_reducible refine (ambidexterlaw21_Great.calls k _ _ l1 false _ ?side1 ?side2 A6.out).mono ?_); (case side1 => repeat (first | exact (Kd.C_below HR1.out HB.out) | (with_reducible refine Kd.C_alloc ?_ _) | (with_reducible refine Kd.C_drewN ?_ _) | (with_reducible refine Kd.C_drew ?_))); (case side2 => exact HC1.out); rintro e w' ⟨rfl, ⟨nd, rfl⟩⟩; refine ⟨_, rfl, ?_⟩))
      go_meet
      case rel => exact ⟨_, (decide ((l1.length : Int) > 60)), (by first | rfl | (simp; done) | (simp [*]; done)), H', ⟨by first | omega | exact Nat.le_refl _⟩, ⟨by repeat (first | (with_reducible first | exact HB.out | apply below_alloc | apply pw_below_drewN | apply below_drew1) | exact HB.out)⟩⟩
  case rest =>
    clear HC4
    try clear c1
    try clear p2
    try clear c7
    obtain ⟨kq, x18_3, rfl, HA, HJ3, HB⟩ := hcut
    cases kq with
    | zero => exact absurd HA.out (by simp [ambidexterlaw21_ProfileTimeReversal.j0])
    | succ kj3 =>
      have H := HA.out
      clear HA
      simp only [ambidexterlaw21_ProfileTimeReversal.j0] at H
      by_cases c8 : x18_3 = true
      · subst c8
        have H1 : (some true) = some r := by rw [if_pos rfl] at H; exact H
        clear H
        have H := H1
        clear H1
        obtain rfl := Option.some.inj H
        go_wp2
        go_ret
        exact ⟨by first | rfl | (simp [errW_none, errW_some] <;> rfl) | (simp [*, errW_none, errW_some] <;> rfl), by repeat (first | (with_reducible first | exact HB.out | apply below_alloc | apply pw_below_drewN | apply below_drew1) | exact HB.out)⟩
      · replace c8 := Bool.eq_false_iff.mpr c8
        subst c8
        have H1 : ((ambidexterlaw21_Rested.f kj3 l1).bind fun t346 => (ambidexterlaw21_ProfileTimeReversal.l0 kj3 a0 true t346 (([0] : List Int)) (wrap64 ((t346.length : Int) - 1)))) = some r := by rw [if_neg (show ¬ (false = true) by decide)] at H; exact H
        clear H
        have H := H1
        clear H1
        replace H := Option.bind_eq_some_iff.mp H
        obtain ⟨t346, A90, H⟩ := H
        replace H : (ambidexterlaw21_ProfileTimeReversal.l0 kj3 a0 true t346 (([0] : List Int)) (wrap64 ((t346.length : Int) - 1))) = some r := H
        have A9 := Aside0.mk A90
        clear A90
        obtain ⟨y349, hy349⟩ : ∃ y_ : List Int, y_ = (([0] : List Int)) := ⟨_, rfl⟩
        replace H : (ambidexterlaw21_ProfileTimeReversal.l0 kj3 a0 true t346 y349 (wrap64 ((t346.length : Int) - 1))) = some r := by first | (rw [hy349]; with_reducible exact H) | (have H2_ := (Option.bind_some _ _).symm.trans H; rw [hy349]; with_reducible exact H2_) | (have H2_ := (Option.bind_some _ _).symm.trans H; with_reducible exact H2_) | with_reducible exact H | (rw [hy349]; exact H) | exact H
        have Ny349 := Aside0.mk hy349
        clear hy349
        have H' := Aside0.mk H
        clear H
        go_wp2_with (first | ((with_reducible refine gate_callee (f := 28) rfl ?_); refine goesL_ (some 21) rfl rfl Try.func28 (by kernel_rfl) rfl #[.slice A1 l1.length c1] rfl (by (try simp only [List.map_toArray, List.map_cons, List.map_nil]); first | done | rfl | (simp only [List.length_drop, List.length_take]; rfl)) ?_; (with_reducible refine (ambidexterlaw21_Rested.calls kj3 _ _ l1 t346 _ ?side1 ?side2 A9.out).mono ?_); (case side1 => repeat (first | exact (Kd.C_below HR1.out HB.out) | (with_reducible refine Kd.C_alloc ?_ _) | (with_reducible refine Kd.C_drewN ?_ _) | (with_reducible refine Kd.C_drew ?_))); (case side2 => exact HC1.out); rintro e w10 ⟨v347, rfl, ho0, hb⟩; refine ⟨_, rfl, ?_⟩; have n0_ := Aside0.mk (Kd.R_lower ho0 (below_size (by repeat (first | (with_reducible first | exact HB.out | apply below_alloc | apply pw_below_drewN | apply below_drew1) | exact HB.out)))); have n1_ := Aside0.mk (below_step (by repeat (first | (with_reducible first | exact HB.out | apply below_alloc | apply pw_below_drewN | apply below_drew1) | exact HB.out)) hb); clear HB; have HO348 := n0_; have HB := n1_; clear n0_ n1_; (try clear hb); (try clear hb2); (try clear hk); (try clear hi); (try clear ho0)) | ((with_reducible refine gate_dst (N := 22) rfl ?_); (try (refine gate_guard (by rfl) ?_; dsimp only)); refine Kd.R_lit (Kd.int .i64) _ 3 ?hg (N := 22) ?hd (xs := ([0] : List Int)) (inner := [.int .i64 0]) (ok := fun _ => True) (okp := fun _ => True) ?hr ?hp (fun _ hk => hk) trivial (Below.refl _ _) (Nat.le_refl _) (by simp) ?_; (case hd => rfl); (case hg => rfl); (case hr => first | (go_simp; done) | (go_simp; rfl)); (case hp => exact (Reps.one (show Kd.M (Kd.int .i64) _ _ _ 0 [.int .i64 0] from rfl) (Reps.none _ _))); intro v350 w11 ho12 hb hg_ hnew_; clear hg_ hnew_; (first | rw [← Ny349.out] at ho12 | (simp only [Int.reduceToNat] at ho12; rw [← Ny349.out] at ho12)); have n0_ := Aside0.mk (Kd.R_elder' (by (with_reducible repeat (first | apply Kd.R_alloc | apply Kd.R_drewN | apply Kd.R_drew)); exact HO348.out) (Kd.R_base ho12) hb); have n1_ := Aside0.mk (Kd.R_lower (Kd.R_new' ho12 (Kd.R_lt (by (with_reducible repeat (first | apply Kd.R_alloc | apply Kd.R_drewN | apply Kd.R_drew)); exact HO348.out))) (below_size (by repeat (first | (with_reducible first | exact HB.out | apply below_alloc | apply pw_below_drewN | apply below_drew1) | exact HB.out)))); have n2_ := Aside0.mk (below_step (by repeat (first | (with_reducible first | exact HB.out | apply below_alloc | apply pw_below_drewN | apply below_drew1) | exact HB.out)) hb); clear HO348; clear HB; have HO348 := n0_; have HO351 := n1_; have HB := n2_; clear n0_ n1_ n2_; clear hb ho12; obtain ⟨Ao13, co13, eo13⟩ := Kd.R_slice HO348.out; subst eo13))
        go_loopg [7, 8] kj3 (fun kq v7 v8 w' => ∃ (x7_2 : List Int) (x8_2 : Int), v8 = .int .i64 x8_2 ∧ Aside0 (ambidexterlaw21_ProfileTimeReversal.l0 kq a0 true t346 x7_2 x8_2 = some r) ∧ Aside0 (kq ≤ kj3) ∧ Aside0 (Kd.R (Kd.int .i64) 3 w' w.heap.size (fun k_ => some k_ ≠ (v7 : Value).ownBlock) (.slice Ao13 t346.length co13) t346) ∧ Aside0 (Kd.R (Kd.int .i64) 3 w' w.heap.size (fun k_ => some k_ ≠ ((.slice Ao13 t346.length co13) : Value).ownBlock) v7 x7_2) ∧ Aside0 (Below w.heap.size w w'))
        case atStart => exact ⟨(y349), (wrap64 ((t346.length : Int) - 1)), (by first | rfl | (simp; done) | (simp [*]; done)), H', ⟨Nat.le_refl _⟩, ⟨by (with_reducible repeat (first | apply Kd.R_alloc | apply Kd.R_drewN | apply Kd.R_drew)); exact Kd.R_mono HO348.out (fun _ hk => hk.2)⟩, ⟨by (with_reducible repeat (first | apply Kd.R_alloc | apply Kd.R_drewN | apply Kd.R_drew)); exact Kd.R_mono HO351.out (fun _ hk => hk.2)⟩, ⟨by repeat (first | (with_reducible first | exact HB.out | apply below_alloc | apply pw_below_drewN | apply below_drew1) | exact HB.out)⟩⟩
        case round =>
          clear H'
          try clear c1
          try clear c2
          try clear p2
          try clear p6
          try clear c7
          try clear c8
          try clear p2
          obtain ⟨x7_2, x8_2, rfl, HA, HK2, HO_6, HO_7, HB⟩ := hrel
          cases gk with
          | zero => exact absurd HA.out (by simp [ambidexterlaw21_ProfileTimeReversal.l0])
          | succ k2 =>
            have H := HA.out
            clear HA
            simp only [ambidexterlaw21_ProfileTimeReversal.l0] at H
            by_cases c14 : x8_2 ≥ 0
            · rw [if_pos c14] at H
              have c14b0 : decide (0 ≤ x8_2) = true := decide_eq_true c14
              clear c14
              by_cases c15 : 0 ≤ x8_2
              · rw [if_pos c15] at H
                have c15b0 : decide (0 ≤ x8_2) = true := decide_eq_true c15
                clear c15
                by_cases c16 : x8_2 < (t346.length : Int)
                · rw [if_pos c16] at H
                  have c16b0 : decide (x8_2 < (t346.length : Int)) = true := decide_eq_true c16
                  clear c16
                  by_cases c17 : x7_2.length < 17592186044416
                  · rw [if_pos c17] at H
                    have LMc17 := Aside0.mk c17
                    clear c17
                    obtain ⟨y353, hy353⟩ : ∃ y_ : List Int, y_ = (x7_2 ++ [rd t346 x8_2]) := ⟨_, rfl⟩
                    replace H : (ambidexterlaw21_ProfileTimeReversal.l0 k2 a0 true t346 y353 (wrap64 (x8_2 - 1))) = some r := by first | (rw [hy353]; with_reducible exact H) | (have H2_ := (Option.bind_some _ _).symm.trans H; rw [hy353]; with_reducible exact H2_) | (have H2_ := (Option.bind_some _ _).symm.trans H; with_reducible exact H2_) | with_reducible exact H | (rw [hy353]; exact H) | exact H
                    have Ny353 := Aside0.mk hy353
                    clear hy353
                    have H' := Aside0.mk H
                    clear H
                    have p352 : 0 ≤ (x8_2 : Int) := of_decide_eq_true (by first | (with_reducible assumption) | assumption)
                    have q352 : x8_2 < (t346.length : Int) := of_decide_eq_true (by first | (with_reducible assumption) | assumption)
                    obtain ⟨ad352, e352, hx352_0⟩ := Kd.at_int (Kd.R_reads' HO_6.out).2.2 x8_2 p352 q352
                    cases e352
                    replace p352 := eq_true p352
                    replace q352 := eq_true q352
                    go_wp2_with (first | ((with_reducible refine gate_builtin (b := .append) (xs := #[.tmp 30, .tmp 35]) rfl ?_); (try (refine gate_guard (by rfl) ?_; dsimp only)); at_builtin; refine Kd.R_append (Kd.int .i64) (w0 := w) w.heap.size rfl (.tmp 30) (.tmp 35) 25 3 (.int .i64 0) 8 rfl Try.underlying25 info3 rfl (by decide) (by omega) u7 x7_2 (rd t346 x8_2) [.int .i64 (rd t346 x8_2)] (fun k_ => some k_ ≠ (.slice (some ad352) t346.length co13 : Value).ownBlock) (fun _ => False) rfl rfl ?aP (fun _ hk => hk.elim) ?aF ?aO ?aB ?aS ?aL ?_; (case aP => exact rfl); (case aB => exact (by repeat (first | (with_reducible first | exact HB.out | apply below_alloc | apply pw_below_drewN | apply below_drew1) | exact HB.out))); (case aF => exact (fun k_ hk => Kd.fresh' (Kd.R_lt (by (with_reducible repeat (first | apply Kd.R_alloc | apply Kd.R_drewN | apply Kd.R_drew)); exact HO_6.out)) k_ hk)); (case aO => exact (by (with_reducible repeat (first | apply Kd.R_alloc | apply Kd.R_drewN | apply Kd.R_drew)); exact HO_7.out)); (case aS => exact (below_size (by repeat (first | (with_reducible first | exact HB.out | apply below_alloc | apply pw_below_drewN | apply below_drew1) | exact HB.out)))); (case aL => have := LMc17.out; omega); intro v354 w18 ho hb hg hat; rw [← Ny353.out] at ho; have n0_ := Aside0.mk (Kd.R_after (ok := (fun _ => True)) (by (with_reducible repeat (first | apply Kd.R_alloc | apply Kd.R_drewN | apply Kd.R_drew)); exact Kd.R_mono HO_6.out (fun _ hk => ⟨trivial, hk⟩)) hg hat); have n1_ := Aside0.mk (hb); have n2_ := Aside0.mk (ho); clear HO_6; clear HB; clear HO_7; have HO_6 := n0_; have HB := n1_; have HO355 := n2_; clear n0_ n1_ n2_; clear ho hb hg hat))
                    go_roundg k2
                    case measure => have := HJ3.out; have := HK2.out; omega
                    case rel => exact ⟨(y353), (wrap64 (x8_2 - 1)), (by first | rfl | (simp; done) | (simp [*]; done)), H', ⟨by have := HJ3.out; have := HK2.out; omega⟩, ⟨by (with_reducible repeat (first | apply Kd.R_alloc | apply Kd.R_drewN | apply Kd.R_drew)); exact Kd.R_mono HO_6.out (fun _ hk => hk.2)⟩, ⟨by (with_reducible repeat (first | apply Kd.R_alloc | apply Kd.R_drewN | apply Kd.R_drew)); exact HO355.out⟩, ⟨by repeat (first | (with_reducible first | exact HB.out | apply below_alloc | apply pw_below_drewN | apply below_drew1) | exact HB.out)⟩⟩
                  · rw [if_neg c17] at H
                    exact absurd H (by simp)
                · rw [if_neg c16] at H
                  exact absurd H (by simp)
              · rw [if_neg c15] at H
                exact absurd H (by simp)
            · rw [if_neg c14] at H
              have c14b0 : decide (0 ≤ x8_2) = false := decide_eq_false c14
              clear c14
              replace H := Option.bind_eq_some_iff.mp H
              obtain ⟨⟨t356, t357, t358⟩, A190, H⟩ := H
              replace H : ((profile_Final.f 0 0 0 x7_2).bind fun bt360 => (if t357 = 0 then (ambidexterlaw21_ProfileTimeReversal.j2 k2 a0 true t346 x7_2 (t358 != 0) t356 t357 t358 bt360.1 bt360.2.1 bt360.2.2) else (ambidexterlaw21_ProfileTimeReversal.j2 k2 a0 true t346 x7_2 true t356 t357 t358 bt360.1 bt360.2.1 bt360.2.2))) = some r := H
              have A19 := Aside0.mk A190
              clear A190
              replace H := Option.bind_eq_some_iff.mp H
              obtain ⟨⟨t360, t361, t362⟩, A200, H⟩ := H
              replace H : (if t357 = 0 then (ambidexterlaw21_ProfileTimeReversal.j2 k2 a0 true t346 x7_2 (t358 != 0) t356 t357 t358 t360 t361 t362) else (ambidexterlaw21_ProfileTimeReversal.j2 k2 a0 true t346 x7_2 true t356 t357 t358 t360 t361 t362)) = some r := H
              have A20 := Aside0.mk A200
              clear A200
              have HC21 := Aside0.mk H
              clear H
              go_upto_region 12 with (first | ((with_reducible refine gate_callee (f := 24) rfl ?_); refine goesL_ (some 39) rfl rfl Try.func24 (by kernel_rfl) rfl #[.agg #[.int .i64 0, .int .i64 0, .int .i64 0], .slice Ao13 t346.length co13] rfl (by (try simp only [List.map_toArray, List.map_cons, List.map_nil]); first | done | rfl | (simp only [List.length_drop, List.length_take]; rfl)) ?_; (with_reducible refine (profile_Final.calls 0 0 0 _ _ t346 t356 t357 t358 _ ?side1 ?side2 A19.out).mono ?_); (case side1 => repeat (first | exact (Kd.R_reads' HO_6.out).2.2 | (with_reducible refine Kd.C_alloc ?_ _) | (with_reducible refine Kd.C_drewN ?_ _) | (with_reducible refine Kd.C_drew ?_))); (case side2 => exact (Kd.R_reads' HO_6.out).2.1); rintro e w22 ⟨rfl, hb⟩; refine ⟨_, rfl, ?_⟩; have n0_ := Aside0.mk (Kd.R_below (by (with_reducible repeat (first | apply Kd.R_alloc | apply Kd.R_drewN | apply Kd.R_drew)); exact HO_6.out) hb); have n1_ := Aside0.mk (Kd.R_below (by (with_reducible repeat (first | apply Kd.R_alloc | apply Kd.R_drewN | apply Kd.R_drew)); exact HO_7.out) hb); have n2_ := Aside0.mk (below_step (by repeat (first | (with_reducible first | exact HB.out | apply below_alloc | apply pw_below_drewN | apply below_drew1) | exact HB.out)) hb); clear HO_6; clear HO_7; clear HB; have HO_6 := n0_; have HO_7 := n1_; have HB := n2_; clear n0_ n1_ n2_; (try clear hb); (try clear hb2); (try clear hk); (try clear hi)) | ((with_reducible refine gate_dst (N := 9) rfl ?_); (try (refine gate_guard (by rfl) ?_; dsimp only)); refine box_event ?hg (N := 9) ?hd (cs := #[.int .i64 0, .int .i64 0, .int .i64 0]) (t := 29) ?hr ?_; (case hd => rfl); (case hg => rfl); (case hr => first | (go_simp; done) | (go_simp; rfl)); intro gb359 hg w23 hbox hb; have n0_ := Aside0.mk (Kd.R_below (by (with_reducible repeat (first | apply Kd.R_alloc | apply Kd.R_drewN | apply Kd.R_drew)); exact HO_6.out) hb); have n1_ := Aside0.mk (Kd.R_below (by (with_reducible repeat (first | apply Kd.R_alloc | apply Kd.R_drewN | apply Kd.R_drew)); exact HO_7.out) hb); have n2_ := Aside0.mk (below_step (by repeat (first | (with_reducible first | exact HB.out | apply below_alloc | apply pw_below_drewN | apply below_drew1) | exact HB.out)) hb); have n3_ := Aside0.mk (hbox); have n4_ := Aside0.mk ((by rw [hg]; exact (below_size (by repeat (first | (with_reducible first | exact HB.out | apply below_alloc | apply pw_below_drewN | apply below_drew1) | exact HB.out))) : w.heap.size ≤ gb359)); have n5_ := Aside0.mk ((by rw [hg]; exact (below_size (by repeat (first | (with_reducible first | exact HB.out | apply below_alloc | apply pw_below_drewN | apply below_drew1) | exact HB.out))) : w.heap.size ≤ gb359)); clear HO_6; clear HO_7; clear HB; have HO_6 := n0_; have HO_7 := n1_; have HB := n2_; have BK359 := n3_; have GW359 := n4_; have GE359 := n5_; clear n0_ n1_ n2_ n3_ n4_ n5_; clear hb hbox hg; have hcz24_0 : w23.cell? ⟨gb359, 0, none⟩ = some (.int .i64 0) := (blk_cell BK359.out 0).trans rfl; have hcz24_1 : w23.cell? ⟨gb359, 1, none⟩ = some (.int .i64 0) := (blk_cell BK359.out 1).trans rfl; have hcz24_2 : w23.cell? ⟨gb359, 2, none⟩ = some (.int .i64 0) := (blk_cell BK359.out 2).trans rfl; have hfz24_0 := blk_frozen BK359.out 0; have hfz24_1 := blk_frozen BK359.out 1; have hfz24_2 := blk_frozen BK359.out 2; obtain ⟨Ao25, co25, eo25⟩ := Kd.R_slice HO_7.out; subst eo25) | ((with_reducible refine gate_callee (f := 24) rfl ?_); refine goesL_ (some 42) rfl rfl Try.func24 (by kernel_rfl) rfl #[.agg #[.int .i64 0, .int .i64 0, .int .i64 0], .slice Ao25 x7_2.length co25] rfl (by (try simp only [List.map_toArray, List.map_cons, List.map_nil]); first | done | rfl | (simp only [List.length_drop, List.length_take]; rfl)) ?_; (with_reducible refine (profile_Final.calls 0 0 0 _ _ x7_2 t360 t361 t362 _ ?side1 ?side2 A20.out).mono ?_); (case side1 => refine (Kd.R_reads' (e := 3) (base := w.heap.size) (ok := fun k_ => some k_ ≠ (.slice Ao13 t346.length co13 : Value).ownBlock) (n := x7_2.length) (c := co25) ?_).2.2; exact (by (with_reducible repeat (first | apply Kd.R_alloc | apply Kd.R_drewN | apply Kd.R_drew)); exact (Kd.R_mono (Kd.R_far (p := ⟨gb359, 2, none⟩) (Kd.R_far (p := ⟨gb359, 1, none⟩) (Kd.R_far (p := ⟨gb359, 0, none⟩) (Kd.R_types HO_7.out BK359.out (by decide)) (fun _ hk => hk.2) (.int .i64 t356)) (fun _ hk => hk.2) (.int .i64 t357)) (fun _ hk => hk.2) (.int .i64 t358)) (fun _ h_ => h_.1)))); (case side2 => exact (Kd.R_reads' HO_7.out).2.1); rintro e w26 ⟨rfl, hb⟩; refine ⟨_, rfl, ?_⟩; have n0_ := Aside0.mk (Kd.R_below (by (with_reducible repeat (first | apply Kd.R_alloc | apply Kd.R_drewN | apply Kd.R_drew)); exact (Kd.R_mono (Kd.R_far (p := ⟨gb359, 2, none⟩) (Kd.R_far (p := ⟨gb359, 1, none⟩) (Kd.R_far (p := ⟨gb359, 0, none⟩) (Kd.R_types HO_6.out BK359.out (by decide)) (fun _ hk => hk.2) (.int .i64 t356)) (fun _ hk => hk.2) (.int .i64 t357)) (fun _ hk => hk.2) (.int .i64 t358)) (fun _ h_ => h_.1))) hb); have n1_ := Aside0.mk (Kd.R_below (by (with_reducible repeat (first | apply Kd.R_alloc | apply Kd.R_drewN | apply Kd.R_drew)); exact (Kd.R_mono (Kd.R_far (p := ⟨gb359, 2, none⟩) (Kd.R_far (p := ⟨gb359, 1, none⟩) (Kd.R_far (p := ⟨gb359, 0, none⟩) (Kd.R_types HO_7.out BK359.out (by decide)) (fun _ hk => hk.2) (.int .i64 t356)) (fun _ hk => hk.2) (.int .i64 t357)) (fun _ hk => hk.2) (.int .i64 t358)) (fun _ h_ => h_.1))) hb); have n2_ := Aside0.mk (blk_below (g := gb359) (o := .cells #[.int .i64 t356, .int .i64 t357, .int .i64 t358] 29 (0, 0)) (by (with_reducible repeat (first | refine blk_drewN ?_ _ | refine blk_drew ?_ | refine blk_alloc ?_ _)); refine blk_put (cs := #[.int .i64 t356, .int .i64 t357, .int .i64 0]) ?_ 2 _ rfl; (with_reducible repeat (first | refine blk_drewN ?_ _ | refine blk_drew ?_ | refine blk_alloc ?_ _)); refine blk_put (cs := #[.int .i64 t356, .int .i64 0, .int .i64 0]) ?_ 1 _ rfl; (with_reducible repeat (first | refine blk_drewN ?_ _ | refine blk_drew ?_ | refine blk_alloc ?_ _)); refine blk_put (cs := #[.int .i64 0, .int .i64 0, .int .i64 0]) ?_ 0 _ rfl; (with_reducible repeat (first | refine blk_drewN ?_ _ | refine blk_drew ?_ | refine blk_alloc ?_ _)); exact BK359.out) hb); have n3_ := Aside0.mk (below_step (by repeat (first | (with_reducible first | exact HB.out | apply below_alloc | apply pw_below_drewN | apply below_drew1 | refine below_set ?_ GE359.out) | exact HB.out)) hb); clear HO_6; clear HO_7; clear BK359; clear HB; have HO_6 := n0_; have HO_7 := n1_; have BK359 := n2_; have HB := n3_; clear n0_ n1_ n2_ n3_; (try clear hb); (try clear hb2); (try clear hk); (try clear hi)) | ((with_reducible refine gate_dst (N := 10) rfl ?_); (try (refine gate_guard (by rfl) ?_; dsimp only)); refine box_event ?hg (N := 10) ?hd (cs := #[.int .i64 0, .int .i64 0, .int .i64 0]) (t := 29) ?hr ?_; (case hd => rfl); (case hg => rfl); (case hr => first | (go_simp; done) | (go_simp; rfl)); intro gb363 hg w27 hbox hb; have n0_ := Aside0.mk (Kd.R_below (by (with_reducible repeat (first | apply Kd.R_alloc | apply Kd.R_drewN | apply Kd.R_drew)); exact HO_6.out) hb); have n1_ := Aside0.mk (Kd.R_below (by (with_reducible repeat (first | apply Kd.R_alloc | apply Kd.R_drewN | apply Kd.R_drew)); exact HO_7.out) hb); have n2_ := Aside0.mk (blk_below (g := gb359) (o := .cells #[.int .i64 t356, .int .i64 t357, .int .i64 t358] 29 (0, 0)) (by (with_reducible repeat (first | refine blk_drewN ?_ _ | refine blk_drew ?_ | refine blk_alloc ?_ _)); exact BK359.out) hb); have n3_ := Aside0.mk (below_step (by repeat (first | (with_reducible first | exact HB.out | apply below_alloc | apply pw_below_drewN | apply below_drew1 | refine below_set ?_ GE359.out) | exact HB.out)) hb); have n4_ := Aside0.mk (hbox); have n5_ := Aside0.mk ((by rw [hg]; exact (below_size (by repeat (first | (with_reducible first | exact HB.out | apply below_alloc | apply pw_below_drewN | apply below_drew1 | refine below_set ?_ GE359.out) | exact HB.out))) : w.heap.size ≤ gb363)); have n6_ := Aside0.mk ((by rw [hg]; exact (below_size (by repeat (first | (with_reducible first | exact HB.out | apply below_alloc | apply pw_below_drewN | apply below_drew1 | refine below_set ?_ GE359.out) | exact HB.out))) : w.heap.size ≤ gb363)); have n7_ := Aside0.mk ((by rw [hg]; exact Nat.ne_of_lt (blk_lt (g := gb359) (o := .cells #[.int .i64 t356, .int .i64 t357, .int .i64 t358] 29 (0, 0)) (by (with_reducible repeat (first | refine blk_drewN ?_ _ | refine blk_drew ?_ | refine blk_alloc ?_ _)); exact BK359.out)) : gb359 ≠ gb363)); have n8_ := Aside0.mk ((by rw [hg]; exact Nat.ne_of_gt (blk_lt (g := gb359) (o := .cells #[.int .i64 t356, .int .i64 t357, .int .i64 t358] 29 (0, 0)) (by (with_reducible repeat (first | refine blk_drewN ?_ _ | refine blk_drew ?_ | refine blk_alloc ?_ _)); exact BK359.out)) : gb363 ≠ gb359)); clear HO_6; clear HO_7; clear BK359; clear HB; have HO_6 := n0_; have HO_7 := n1_; have BK359 := n2_; have HB := n3_; have BK363 := n4_; have GW363 := n5_; have GE363 := n6_; have NB359_363 := n7_; have NB363_359 := n8_; clear n0_ n1_ n2_ n3_ n4_ n5_ n6_ n7_ n8_; clear hb hbox hg; have hnb28 := NB363_359.out; have hnc28 := NB359_363.out; have hcz29_0 : w27.cell? ⟨gb363, 0, none⟩ = some (.int .i64 0) := (blk_cell BK363.out 0).trans rfl; have hcz29_1 : w27.cell? ⟨gb363, 1, none⟩ = some (.int .i64 0) := (blk_cell BK363.out 1).trans rfl; have hcz29_2 : w27.cell? ⟨gb363, 2, none⟩ = some (.int .i64 0) := (blk_cell BK363.out 2).trans rfl; have hfz29_0 := blk_frozen BK363.out 0; have hfz29_1 := blk_frozen BK363.out 1; have hfz29_2 := blk_frozen BK363.out 2))
              (try simp only [Act.put, List.setIfInBounds_toArray, List.set_cons_zero, List.set_cons_succ])
              go_cut [50] (fun v50 wc => ∃ (kq : Nat) (x50_20 : Bool), v50 = .bool x50_20 ∧ Aside0 (ambidexterlaw21_ProfileTimeReversal.j2 kq a0 true t346 x7_2 x50_20 t356 t357 t358 t360 t361 t362 = some r) ∧ Aside0 (kq ≤ k2) ∧ Aside0 (Kd.R (Kd.int .i64) 3 wc w.heap.size (fun k_ => some k_ ≠ ((.slice Ao25 x7_2.length co25) : Value).ownBlock) (.slice Ao13 t346.length co13) t346) ∧ Aside0 (Kd.R (Kd.int .i64) 3 wc w.heap.size (fun k_ => some k_ ≠ ((.slice Ao13 t346.length co13) : Value).ownBlock) (.slice Ao25 x7_2.length co25) x7_2) ∧ Aside0 (wc.heap[gb359]? = some (.cells #[.int .i64 t356, .int .i64 t357, .int .i64 t358] 29 (0, 0))) ∧ Aside0 (wc.heap[gb363]? = some (.cells #[.int .i64 t360, .int .i64 t361, .int .i64 t362] 29 (0, 0))) ∧ Aside0 (Below w.heap.size w wc))
              case first =>
                have H := HC21.out
                clear HC21
                by_cases c30 : t357 = 0
                · rw [if_pos c30] at H
                  have c30b0 : (t357 == 0) = true := beq_iff_eq.mpr c30
                  have c30b1 : (t357 != 0) = false := bne_eq_false_iff_eq.mpr c30
                  clear c30
                  (first | rw [c30b0] | (simp only [i64_w, i32_w]; rw [c30b0]) | skip)
                  have H' := Aside0.mk H
                  clear H
                  have hnb31 := NB359_363.out
                  have hnc31 := NB363_359.out
                  have hcz32_0 : w27.cell? ⟨gb359, 0, none⟩ = some (.int .i64 t356) := (blk_cell BK359.out 0).trans rfl
                  have hcz32_1 : w27.cell? ⟨gb359, 1, none⟩ = some (.int .i64 t357) := (blk_cell BK359.out 1).trans rfl
                  have hcz32_2 : w27.cell? ⟨gb359, 2, none⟩ = some (.int .i64 t358) := (blk_cell BK359.out 2).trans rfl
                  have hfz32_0 := blk_frozen BK359.out 0
                  have hfz32_1 := blk_frozen BK359.out 1
                  have hfz32_2 := blk_frozen BK359.out 2
                  go_wp2
                  go_meet
                  case rel => exact ⟨_, ((t358 != 0)), (by first | rfl | (simp; done) | (simp [*]; done)), H', ⟨by have := HJ3.out; have := HK2.out; first | omega | exact Nat.le_refl _⟩, ⟨by (with_reducible repeat (first | apply Kd.R_alloc | apply Kd.R_drewN | apply Kd.R_drew)); exact Kd.R_mono (Kd.R_far (p := ⟨gb363, 2, none⟩) (Kd.R_far (p := ⟨gb363, 1, none⟩) (Kd.R_far (p := ⟨gb363, 0, none⟩) (Kd.R_types HO_6.out BK363.out (by decide)) (fun _ hk => hk.2) (.int .i64 t360)) (fun _ hk => hk.2) (.int .i64 t361)) (fun _ hk => hk.2) (.int .i64 t362)) (fun _ hk => hk.1)⟩, ⟨by (with_reducible repeat (first | apply Kd.R_alloc | apply Kd.R_drewN | apply Kd.R_drew)); exact Kd.R_mono (Kd.R_far (p := ⟨gb363, 2, none⟩) (Kd.R_far (p := ⟨gb363, 1, none⟩) (Kd.R_far (p := ⟨gb363, 0, none⟩) (Kd.R_types HO_7.out BK363.out (by decide)) (fun _ hk => hk.2) (.int .i64 t360)) (fun _ hk => hk.2) (.int .i64 t361)) (fun _ hk => hk.2) (.int .i64 t362)) (fun _ hk => hk.1)⟩, ⟨by (with_reducible repeat (first | refine blk_drewN ?_ _ | refine blk_drew ?_ | refine blk_alloc ?_ _)); refine blk_far ?_ NB359_363.out _; (with_reducible repeat (first | refine blk_drewN ?_ _ | refine blk_drew ?_ | refine blk_alloc ?_ _)); refine blk_far ?_ NB359_363.out _; (with_reducible repeat (first | refine blk_drewN ?_ _ | refine blk_drew ?_ | refine blk_alloc ?_ _)); refine blk_far ?_ NB359_363.out _; (with_reducible repeat (first | refine blk_drewN ?_ _ | refine blk_drew ?_ | refine blk_alloc ?_ _)); exact BK359.out⟩, ⟨by (with_reducible repeat (first | refine blk_drewN ?_ _ | refine blk_drew ?_ | refine blk_alloc ?_ _)); refine blk_put (cs := #[.int .i64 t360, .int .i64 t361, .int .i64 0]) ?_ 2 _ rfl; (with_reducible repeat (first | refine blk_drewN ?_ _ | refine blk_drew ?_ | refine blk_alloc ?_ _)); refine blk_put (cs := #[.int .i64 t360, .int .i64 0, .int .i64 0]) ?_ 1 _ rfl; (with_reducible repeat (first | refine blk_drewN ?_ _ | refine blk_drew ?_ | refine blk_alloc ?_ _)); refine blk_put (cs := #[.int .i64 0, .int .i64 0, .int .i64 0]) ?_ 0 _ rfl; (with_reducible repeat (first | refine blk_drewN ?_ _ | refine blk_drew ?_ | refine blk_alloc ?_ _)); exact BK363.out⟩, ⟨by repeat (first | (with_reducible first | exact HB.out | apply below_alloc | apply pw_below_drewN | apply below_drew1 | refine below_set ?_ GE359.out | refine below_set ?_ GE363.out) | exact HB.out)⟩⟩
                · rw [if_neg c30] at H
                  have c30b0 : (t357 == 0) = false := beq_eq_false_iff_ne.mpr c30
                  have c30b1 : (t357 != 0) = true := bne_iff_ne.mpr c30
                  (first | rw [c30b0] | (simp only [i64_w, i32_w]; rw [c30b0]) | skip)
                  have H' := Aside0.mk H
                  clear H
                  have hnb33 := NB359_363.out
                  have hnc33 := NB363_359.out
                  have hcz34_0 : w27.cell? ⟨gb359, 0, none⟩ = some (.int .i64 t356) := (blk_cell BK359.out 0).trans rfl
                  have hcz34_1 : w27.cell? ⟨gb359, 1, none⟩ = some (.int .i64 t357) := (blk_cell BK359.out 1).trans rfl
                  have hcz34_2 : w27.cell? ⟨gb359, 2, none⟩ = some (.int .i64 t358) := (blk_cell BK359.out 2).trans rfl
                  have hfz34_0 := blk_frozen BK359.out 0
                  have hfz34_1 := blk_frozen BK359.out 1
                  have hfz34_2 := blk_frozen BK359.out 2
                  go_wp2
                  go_meet
                  case rel => exact ⟨_, (true), (by first | rfl | (simp; done) | (simp [*]; done)), H', ⟨by have := HJ3.out; have := HK2.out; first | omega | exact Nat.le_refl _⟩, ⟨by (with_reducible repeat (first | apply Kd.R_alloc | apply Kd.R_drewN | apply Kd.R_drew)); exact Kd.R_mono (Kd.R_far (p := ⟨gb363, 2, none⟩) (Kd.R_far (p := ⟨gb363, 1, none⟩) (Kd.R_far (p := ⟨gb363, 0, none⟩) (Kd.R_types HO_6.out BK363.out (by decide)) (fun _ hk => hk.2) (.int .i64 t360)) (fun _ hk => hk.2) (.int .i64 t361)) (fun _ hk => hk.2) (.int .i64 t362)) (fun _ hk => hk.1)⟩, ⟨by (with_reducible repeat (first | apply Kd.R_alloc | apply Kd.R_drewN | apply Kd.R_drew)); exact Kd.R_mono (Kd.R_far (p := ⟨gb363, 2, none⟩) (Kd.R_far (p := ⟨gb363, 1, none⟩) (Kd.R_far (p := ⟨gb363, 0, none⟩) (Kd.R_types HO_7.out BK363.out (by decide)) (fun _ hk => hk.2) (.int .i64 t360)) (fun _ hk => hk.2) (.int .i64 t361)) (fun _ hk => hk.2) (.int .i64 t362)) (fun _ hk => hk.1)⟩, ⟨by (with_reducible repeat (first | refine blk_drewN ?_ _ | refine blk_drew ?_ | refine blk_alloc ?_ _)); refine blk_far ?_ NB359_363.out _; (with_reducible repeat (first | refine blk_drewN ?_ _ | refine blk_drew ?_ | refine blk_alloc ?_ _)); refine blk_far ?_ NB359_363.out _; (with_reducible repeat (first | refine blk_drewN ?_ _ | refine blk_drew ?_ | refine blk_alloc ?_ _)); refine blk_far ?_ NB359_363.out _; (with_reducible repeat (first | refine blk_drewN ?_ _ | refine blk_drew ?_ | refine blk_alloc ?_ _)); exact BK359.out⟩, ⟨by (with_reducible repeat (first | refine blk_drewN ?_ _ | refine blk_drew ?_ | refine blk_alloc ?_ _)); refine blk_put (cs := #[.int .i64 t360, .int .i64 t361, .int .i64 0]) ?_ 2 _ rfl; (with_reducible repeat (first | refine blk_drewN ?_ _ | refine blk_drew ?_ | refine blk_alloc ?_ _)); refine blk_put (cs := #[.int .i64 t360, .int .i64 0, .int .i64 0]) ?_ 1 _ rfl; (with_reducible repeat (first | refine blk_drewN ?_ _ | refine blk_drew ?_ | refine blk_alloc ?_ _)); refine blk_put (cs := #[.int .i64 0, .int .i64 0, .int .i64 0]) ?_ 0 _ rfl; (with_reducible repeat (first | refine blk_drewN ?_ _ | refine blk_drew ?_ | refine blk_alloc ?_ _)); exact BK363.out⟩, ⟨by repeat (first | (with_reducible first | exact HB.out | apply below_alloc | apply pw_below_drewN | apply below_drew1 | refine below_set ?_ GE359.out | refine below_set ?_ GE363.out) | exact HB.out)⟩⟩
              case rest =>
                clear HC21
                try clear c1
                try clear c2
                try clear p2
                try clear c3
                try clear p3
                try clear q3
                try clear hx3
                try clear p6
                try clear c7
                try clear c8
                try clear c14
                try clear c14b0
                try clear c15
                try clear c15b0
                try clear c16
                try clear c16b0
                try clear c17
                try clear c24
                try clear c28
                try clear c30
                try clear c30b0
                try clear c30b1
                try clear c31
                try clear c33
                try clear hcz24_0
                try clear hcz24_1
                try clear hcz24_2
                try clear hcz29_0
                try clear hcz29_1
                try clear hcz29_2
                try clear hcz32_0
                try clear hcz32_1
                try clear hcz32_2
                try clear hcz34_0
                try clear hcz34_1
                try clear hcz34_2
                try clear hfz24_0
                try clear hfz24_1
                try clear hfz24_2
                try clear hfz29_0
                try clear hfz29_1
                try clear hfz29_2
                try clear hfz32_0
                try clear hfz32_1
                try clear hfz32_2
                try clear hfz34_0
                try clear hfz34_1
                try clear hfz34_2
                try clear hx352_0
                try clear p2
                try clear p352
                try clear p6
                try clear q352
                obtain ⟨kq, x50_20, rfl, HA, HJ20, HO_6, HO_7, BK359, BK363, HB⟩ := hcut
                cases kq with
                | zero => exact absurd HA.out (by simp [ambidexterlaw21_ProfileTimeReversal.j2])
                | succ kj20 =>
                  have H := HA.out
                  clear HA
                  simp only [ambidexterlaw21_ProfileTimeReversal.j2] at H
                  by_cases c35 : x50_20 = true
                  · subst c35
                    have H1 : (some false) = some r := by rw [if_pos rfl] at H; exact H
                    clear H
                    have H := H1
                    clear H1
                    exact absurd HT.out (by rw [← Option.some.inj H]; decide)
                  · replace c35 := Bool.eq_false_iff.mpr c35
                    subst c35
                    have H1 : (if true = true then (if (t356 == t360 && (t357 == t361 && (t358 == t362))) = true then ((ambidexterlaw21_Lim.f a0).bind fun bt364 => ((profile_Within.f bt364.1 bt364.2.1 bt364.2.2 0 0 0 t346).bind fun t367 => ((ambidexterlaw21_Lim.f a0).bind fun bt368 => ((profile_Within.f bt368.1 bt368.2.1 bt368.2.2 0 0 0 x7_2).bind fun t371 => (some (t367 == t371)))))) else (some false)) else (some false)) = some r := by rw [if_neg (show ¬ (false = true) by decide)] at H; exact H
                    clear H
                    have H := H1
                    clear H1
                    have H1 : (if (t356 == t360 && (t357 == t361 && (t358 == t362))) = true then ((ambidexterlaw21_Lim.f a0).bind fun bt364 => ((profile_Within.f bt364.1 bt364.2.1 bt364.2.2 0 0 0 t346).bind fun t367 => ((ambidexterlaw21_Lim.f a0).bind fun bt368 => ((profile_Within.f bt368.1 bt368.2.1 bt368.2.2 0 0 0 x7_2).bind fun t371 => (some (t367 == t371)))))) else (some false)) = some r := by first | (rw [if_pos rfl] at H; exact H) | (rw [if_pos True.intro] at H; exact H)
                    clear H
                    have H := H1
                    clear H1
                    by_cases c36 : (t356 == t360 && (t357 == t361 && (t358 == t362))) = true
                    · rw [if_pos c36] at H
                      have c36b0 : (t356 == t360 && (t357 == t361 && (t358 == t362))) = true := c36
                      clear c36
                      replace H := Option.bind_eq_some_iff.mp H
                      obtain ⟨⟨t364, t365, t366⟩, A370, H⟩ := H
                      replace H : ((profile_Within.f t364 t365 t366 0 0 0 t346).bind fun t367 => ((ambidexterlaw21_Lim.f a0).bind fun bt368 => ((profile_Within.f bt368.1 bt368.2.1 bt368.2.2 0 0 0 x7_2).bind fun t371 => (some (t367 == t371))))) = some r := H
                      have A37 := Aside0.mk A370
                      clear A370
                      replace H := Option.bind_eq_some_iff.mp H
                      obtain ⟨t367, A380, H⟩ := H
                      replace H : ((ambidexterlaw21_Lim.f a0).bind fun bt368 => ((profile_Within.f bt368.1 bt368.2.1 bt368.2.2 0 0 0 x7_2).bind fun t371 => (some (t367 == t371)))) = some r := H
                      have A38 := Aside0.mk A380
                      clear A380
                      replace H := Option.bind_eq_some_iff.mp H
                      obtain ⟨⟨t368, t369, t370⟩, A390, H⟩ := H
                      replace H : ((profile_Within.f t368 t369 t370 0 0 0 x7_2).bind fun t371 => (some (t367 == t371))) = some r := H
                      have A39 := Aside0.mk A390
                      clear A390
                      replace H := Option.bind_eq_some_iff.mp H
                      obtain ⟨t371, A400, H⟩ := H
                      replace H : (some (t367 == t371)) = some r := H
                      have A40 := Aside0.mk A400
                      clear A400
                      obtain rfl := Option.some.inj H
                      have hnb41 := NB359_363.out
                      have hnc41 := NB363_359.out
                      have hcz42_0 : wc.cell? ⟨gb359, 0, none⟩ = some (.int .i64 t356) := (blk_cell BK359.out 0).trans rfl
                      have hcz42_1 : wc.cell? ⟨gb359, 1, none⟩ = some (.int .i64 t357) := (blk_cell BK359.out 1).trans rfl
                      have hcz42_2 : wc.cell? ⟨gb359, 2, none⟩ = some (.int .i64 t358) := (blk_cell BK359.out 2).trans rfl
                      have hfz42_0 := blk_frozen BK359.out 0
                      have hfz42_1 := blk_frozen BK359.out 1
                      have hfz42_2 := blk_frozen BK359.out 2
                      have hcz43_0 : wc.cell? ⟨gb363, 0, none⟩ = some (.int .i64 t360) := (blk_cell BK363.out 0).trans rfl
                      have hcz43_1 : wc.cell? ⟨gb363, 1, none⟩ = some (.int .i64 t361) := (blk_cell BK363.out 1).trans rfl
                      have hcz43_2 : wc.cell? ⟨gb363, 2, none⟩ = some (.int .i64 t362) := (blk_cell BK363.out 2).trans rfl
                      have hfz43_0 := blk_frozen BK363.out 0
                      have hfz43_1 := blk_frozen BK363.out 1
                      have hfz43_2 := blk_frozen BK363.out 2
                      go_wp2_with (first | (go_at_call 18; (with_reducible refine (ambidexterlaw21_Lim.calls a0 t364 t365 t366 _ A37.out).mono ?_); rintro e w44 ⟨rfl, hb⟩; have n0_ := Aside0.mk (Kd.R_below (by (with_reducible repeat (first | apply Kd.R_alloc | apply Kd.R_drewN | apply Kd.R_drew)); exact HO_6.out) hb); have n1_ := Aside0.mk (Kd.R_below (by (with_reducible repeat (first | apply Kd.R_alloc | apply Kd.R_drewN | apply Kd.R_drew)); exact HO_7.out) hb); have n2_ := Aside0.mk (blk_below (g := gb359) (o := .cells #[.int .i64 t356, .int .i64 t357, .int .i64 t358] 29 (0, 0)) (by (with_reducible repeat (first | refine blk_drewN ?_ _ | refine blk_drew ?_ | refine blk_alloc ?_ _)); exact BK359.out) hb); have n3_ := Aside0.mk (blk_below (g := gb363) (o := .cells #[.int .i64 t360, .int .i64 t361, .int .i64 t362] 29 (0, 0)) (by (with_reducible repeat (first | refine blk_drewN ?_ _ | refine blk_drew ?_ | refine blk_alloc ?_ _)); exact BK363.out) hb); have n4_ := Aside0.mk (below_step (by repeat (first | (with_reducible first | exact HB.out | apply below_alloc | apply pw_below_drewN | apply below_drew1 | refine below_set ?_ GE359.out | refine below_set ?_ GE363.out) | exact HB.out)) hb); clear HO_6; clear HO_7; clear BK359; clear BK363; clear HB; have HO_6 := n0_; have HO_7 := n1_; have BK359 := n2_; have BK363 := n3_; have HB := n4_; clear n0_ n1_ n2_ n3_ n4_; (try clear hb); (try clear hb2); (try clear hk); (try clear hi); (try clear A37)) | (go_at_call 26; (with_reducible refine (profile_Within.calls t364 t365 t366 0 0 0 _ _ t346 t367 _ ?side1 ?side2 A38.out).mono ?_); (case side1 => repeat (first | exact (Kd.R_reads' HO_6.out).2.2 | (with_reducible refine Kd.C_alloc ?_ _) | (with_reducible refine Kd.C_drewN ?_ _) | (with_reducible refine Kd.C_drew ?_))); (case side2 => exact (Kd.R_reads' HO_6.out).2.1); rintro e w45 ⟨rfl, hb⟩; have n0_ := Aside0.mk (Kd.R_below (by (with_reducible repeat (first | apply Kd.R_alloc | apply Kd.R_drewN | apply Kd.R_drew)); exact HO_6.out) hb); have n1_ := Aside0.mk (Kd.R_below (by (with_reducible repeat (first | apply Kd.R_alloc | apply Kd.R_drewN | apply Kd.R_drew)); exact HO_7.out) hb); have n2_ := Aside0.mk (blk_below (g := gb359) (o := .cells #[.int .i64 t356, .int .i64 t357, .int .i64 t358] 29 (0, 0)) (by (with_reducible repeat (first | refine blk_drewN ?_ _ | refine blk_drew ?_ | refine blk_alloc ?_ _)); exact BK359.out) hb); have n3_ := Aside0.mk (blk_below (g := gb363) (o := .cells #[.int .i64 t360, .int .i64 t361, .int .i64 t362] 29 (0, 0)) (by (with_reducible repeat (first | refine blk_drewN ?_ _ | refine blk_drew ?_ | refine blk_alloc ?_ _)); exact BK363.out) hb); have n4_ := Aside0.mk (below_step (by repeat (first | (with_reducible first | exact HB.out | apply below_alloc | apply pw_below_drewN | apply below_drew1 | refine below_set ?_ GE359.out | refine below_set ?_ GE363.out) | exact HB.out)) hb); clear HO_6; clear HO_7; clear BK359; clear BK363; clear HB; have HO_6 := n0_; have HO_7 := n1_; have BK359 := n2_; have BK363 := n3_; have HB := n4_; clear n0_ n1_ n2_ n3_ n4_; (try clear hb); (try clear hb2); (try clear hk); (try clear hi)) | (go_at_call 18; (with_reducible refine (ambidexterlaw21_Lim.calls a0 t368 t369 t370 _ A39.out).mono ?_); rintro e w46 ⟨rfl, hb⟩; have n0_ := Aside0.mk (Kd.R_below (by (with_reducible repeat (first | apply Kd.R_alloc | apply Kd.R_drewN | apply Kd.R_drew)); exact HO_6.out) hb); have n1_ := Aside0.mk (Kd.R_below (by (with_reducible repeat (first | apply Kd.R_alloc | apply Kd.R_drewN | apply Kd.R_drew)); exact HO_7.out) hb); have n2_ := Aside0.mk (blk_below (g := gb359) (o := .cells #[.int .i64 t356, .int .i64 t357, .int .i64 t358] 29 (0, 0)) (by (with_reducible repeat (first | refine blk_drewN ?_ _ | refine blk_drew ?_ | refine blk_alloc ?_ _)); exact BK359.out) hb); have n3_ := Aside0.mk (blk_below (g := gb363) (o := .cells #[.int .i64 t360, .int .i64 t361, .int .i64 t362] 29 (0, 0)) (by (with_reducible repeat (first | refine blk_drewN ?_ _ | refine blk_drew ?_ | refine blk_alloc ?_ _)); exact BK363.out) hb); have n4_ := Aside0.mk (below_step (by repeat (first | (with_reducible first | exact HB.out | apply below_alloc | apply pw_below_drewN | apply below_drew1 | refine below_set ?_ GE359.out | refine below_set ?_ GE363.out) | exact HB.out)) hb); clear HO_6; clear HO_7; clear BK359; clear BK363; clear HB; have HO_6 := n0_; have HO_7 := n1_; have BK359 := n2_; have BK363 := n3_; have HB := n4_; clear n0_ n1_ n2_ n3_ n4_; (try clear hb); (try clear hb2); (try clear hk); (try clear hi); (try clear A39)) | (go_at_call 26; (with_reducible refine (profile_Within.calls t368 t369 t370 0 0 0 _ _ x7_2 t371 _ ?side1 ?side2 A40.out).mono ?_); (case side1 => repeat (first | exact (Kd.R_reads' HO_7.out).2.2 | (with_reducible refine Kd.C_alloc ?_ _) | (with_reducible refine Kd.C_drewN ?_ _) | (with_reducible refine Kd.C_drew ?_))); (case side2 => exact (Kd.R_reads' HO_7.out).2.1); rintro e w47 ⟨rfl, hb⟩; have n0_ := Aside0.mk (Kd.R_below (by (with_reducible repeat (first | apply Kd.R_alloc | apply Kd.R_drewN | apply Kd.R_drew)); exact HO_6.out) hb); have n1_ := Aside0.mk (Kd.R_below (by (with_reducible repeat (first | apply Kd.R_alloc | apply Kd.R_drewN | apply Kd.R_drew)); exact HO_7.out) hb); have n2_ := Aside0.mk (blk_below (g := gb359) (o := .cells #[.int .i64 t356, .int .i64 t357, .int .i64 t358] 29 (0, 0)) (by (with_reducible repeat (first | refine blk_drewN ?_ _ | refine blk_drew ?_ | refine blk_alloc ?_ _)); exact BK359.out) hb); have n3_ := Aside0.mk (blk_below (g := gb363) (o := .cells #[.int .i64 t360, .int .i64 t361, .int .i64 t362] 29 (0, 0)) (by (with_reducible repeat (first | refine blk_drewN ?_ _ | refine blk_drew ?_ | refine blk_alloc ?_ _)); exact BK363.out) hb); have n4_ := Aside0.mk (below_step (by repeat (first | (with_reducible first | exact HB.out | apply below_alloc | apply pw_below_drewN | apply below_drew1 | refine below_set ?_ GE359.out | refine below_set ?_ GE363.out) | exact HB.out)) hb); clear HO_6; clear HO_7; clear BK359; clear BK363; clear HB; have HO_6 := n0_; have HO_7 := n1_; have BK359 := n2_; have BK363 := n3_; have HB := n4_; clear n0_ n1_ n2_ n3_ n4_; (try clear hb); (try clear hb2); (try clear hk); (try clear hi)))
                      go_ret
                      exact ⟨by first | rfl | (simp [errW_none, errW_some] <;> rfl) | (simp [*, errW_none, errW_some] <;> rfl), by repeat (first | (with_reducible first | exact HB.out | apply below_alloc | apply pw_below_drewN | apply below_drew1 | refine below_set ?_ GE359.out | refine below_set ?_ GE363.out) | exact HB.out)⟩
                    · rw [if_neg c36] at H
                      have c36b0 : (t356 == t360 && (t357 == t361 && (t358 == t362))) = false := by simpa using c36
                      clear c36
                      exact absurd HT.out (by rw [← Option.some.inj H]; decide)

/-! ### encoder_Quantize: function 54 -/
def encoder_Quantize.f (a0 : Int) : Option (Int) := if (Int.tmod a0 16) < 0 then (some (wrap64 ((wrap64 (Int.tdiv a0 16)) - 1))) else (some (wrap64 (Int.tdiv a0 16)))
set_option maxHeartbeats 8000000 in
set_option maxRecDepth 100000 in
theorem encoder_Quantize.calls (a0 : Int) (r : Int) (w : World) (h : encoder_Quantize.f a0 = some r) :
    Calls Try.prog 54 #[.int .i64 a0] w fun e w' => e = .returned (.int .i64 r) ∧ Drawn0 w w' := by
  have H : (if (Int.tmod a0 16) < 0 then (some (wrap64 ((wrap64 (Int.tdiv a0 16)) - 1))) else (some (wrap64 (Int.tdiv a0 16)))) = some r := h
  clear h
  by_cases c2 : (Int.tmod a0 16) < 0
  · rw [if_pos c2] at H
    have c2b0 : decide ((Int.tmod a0 16) < 0) = true := decide_eq_true c2
    clear c2
    obtain rfl := Option.some.inj H
    go_enter Try.func54, Try.ntmps54
    go_wp2
    go_ret
    exact ⟨by first | rfl | (simp; done) | (simp [*]; done), by repeat (first | exact Drawn0.refl _ | apply Drawn0.step)⟩
  · rw [if_neg c2] at H
    have c2b0 : decide ((Int.tmod a0 16) < 0) = false := decide_eq_false c2
    clear c2
    obtain rfl := Option.some.inj H
    go_enter Try.func54, Try.ntmps54
    go_wp2
    go_ret
    exact ⟨by first | rfl | (simp; done) | (simp [*]; done), by repeat (first | exact Drawn0.refl _ | apply Drawn0.step)⟩

/-! ### encoder_New: function 43 -/
def encoder_New.f (a0 : Int) : Option (Int × Int × Int) := (encoder_Quantize.f a0).bind fun t373 => (some (t373, 0, 0))
set_option maxHeartbeats 8000000 in
set_option maxRecDepth 100000 in
theorem encoder_New.calls (a0 : Int) (r1 : Int) (r2 : Int) (r3 : Int) (w : World) (h : encoder_New.f a0 = some (r1, r2, r3)) :
    Calls Try.prog 43 #[.int .i64 a0] w fun e w' => e = .returned (.agg #[.int .i64 r1, .int .i64 r2, .int .i64 r3]) ∧ Below w.heap.size w w' := by
  have hu47 := Try.underlying47
  have HB := Aside0.mk (Below.refl w.heap.size w)
  have H : ((encoder_Quantize.f a0).bind fun t373 => (some (t373, 0, 0))) = some (r1, r2, r3) := h
  clear h
  replace H := Option.bind_eq_some_iff.mp H
  obtain ⟨t373, A20, H⟩ := H
  replace H : (some (t373, 0, 0)) = some (r1, r2, r3) := H
  have A2 := Aside0.mk A20
  clear A20
  simp only [Option.some.injEq, Prod.mk.injEq] at H
  obtain ⟨rfl, rfl, rfl⟩ := H
  go_enter Try.func43, Try.ntmps43
  go_wp2_with (first | ((with_reducible refine gate_dst (N := 2) rfl ?_); refine box_event ?hg (N := 2) ?hd (cs := #[.int .i64 0, .int .i64 0, .int .i64 0]) (t := 47) ?hr ?_; (case hd => rfl); (case hg => rfl); (case hr => first | (go_simp; done) | (go_simp; rfl)); intro gb372 hg w3 hbox hb; have n0_ := Aside0.mk (below_step (by repeat (first | (with_reducible first | exact HB.out | apply below_alloc | apply pw_below_drewN | apply below_drew1) | exact HB.out)) hb); have n1_ := Aside0.mk (hbox); have n2_ := Aside0.mk ((by rw [hg]; exact (below_size (by repeat (first | (with_reducible first | exact HB.out | apply below_alloc | apply pw_below_drewN | apply below_drew1) | exact HB.out))) : w.heap.size ≤ gb372)); have n3_ := Aside0.mk ((by rw [hg]; exact (below_size (by repeat (first | (with_reducible first | exact HB.out | apply below_alloc | apply pw_below_drewN | apply below_drew1) | exact HB.out))) : w.heap.size ≤ gb372)); clear HB; have HB := n0_; have BK372 := n1_; have GW372 := n2_; have GE372 := n3_; clear n0_ n1_ n2_ n3_; clear hb hbox hg) | ((with_reducible refine gate_callee (f := 54) rfl ?_); refine goesL_ (some 4) rfl rfl Try.func54 (by kernel_rfl) rfl #[.int .i64 a0] rfl (by (try simp only [List.map_toArray, List.map_cons, List.map_nil]); first | done | rfl | (simp only [List.length_drop, List.length_take]; rfl)) ?_; (with_reducible refine (encoder_Quantize.calls a0 t373 _ A2.out).mono ?_); rintro e w' ⟨rfl, ⟨nd, rfl⟩⟩; refine ⟨_, rfl, ?_⟩; (try (rw [drewN_self w3]; generalize hq_ : World.drewN w3 _ = w3; have n0_ : Aside0 (w3.heap[gb372]? = some (.cells #[.int .i64 0, .int .i64 0, .int .i64 0] 47 (0, 0))) := ⟨by rw [← hq_]; exact (by (with_reducible repeat (first | refine blk_drewN ?_ _ | refine blk_drew ?_ | refine blk_alloc ?_ _)); exact BK372.out)⟩; have n1_ : Aside0 (Below w.heap.size w w3) := ⟨by rw [← hq_]; exact (by repeat (first | (with_reducible first | exact HB.out | apply below_alloc | apply pw_below_drewN | apply below_drew1 | refine below_set ?_ GE372.out) | exact HB.out))⟩; clear BK372 HB hq_; have BK372 := n0_; have HB := n1_; clear n0_ n1_)); have hcz4_0 : w3.cell? ⟨gb372, 0, none⟩ = some (.int .i64 0) := (blk_cell BK372.out 0).trans rfl; have hcz4_1 : w3.cell? ⟨gb372, 1, none⟩ = some (.int .i64 0) := (blk_cell BK372.out 1).trans rfl; have hcz4_2 : w3.cell? ⟨gb372, 2, none⟩ = some (.int .i64 0) := (blk_cell BK372.out 2).trans rfl; have hfz4_0 := blk_frozen BK372.out 0; have hfz4_1 := blk_frozen BK372.out 1; have hfz4_2 := blk_frozen BK372.out 2))
  refine bodyPost_ret (results_cell_row rfl _ _ gb372 47 #[.int .i64 t373, .int .i64 0, .int .i64 0] (0, 0) _ rfl (by (with_reducible repeat (first | refine blk_drewN ?_ _ | refine blk_drew ?_ | refine blk_alloc ?_ _)); refine blk_put (cs := #[.int .i64 t373, .int .i64 0, .int .i64 0]) ?_ 2 _ rfl; (with_reducible repeat (first | refine blk_drewN ?_ _ | refine blk_drew ?_ | refine blk_alloc ?_ _)); refine blk_put (cs := #[.int .i64 t373, .int .i64 0, .int .i64 0]) ?_ 1 _ rfl; (with_reducible repeat (first | refine blk_drewN ?_ _ | refine blk_drew ?_ | refine blk_alloc ?_ _)); refine blk_put (cs := #[.int .i64 0, .int .i64 0, .int .i64 0]) ?_ 0 _ rfl; (with_reducible repeat (first | refine blk_drewN ?_ _ | refine blk_drew ?_ | refine blk_alloc ?_ _)); exact BK372.out) Try.underlying47 rfl (by kernel_rfl)) rfl ?_
  exact ⟨by first | rfl | (simp [errW_none, errW_some] <;> rfl) | (simp [*, errW_none, errW_some] <;> rfl), by repeat (first | (with_reducible first | exact HB.out | apply below_alloc | apply pw_below_drewN | apply below_drew1 | refine below_set ?_ GE372.out) | exact HB.out)⟩

/-! ### servo_New: function 30 -/
def servo_New.f (a0 : Int) : Option (Int × Int × Int × Int × Bool) := (encoder_New.f a0).bind fun bt375 => (some (bt375.1, bt375.2.1, bt375.2.2, 0, false))
set_option maxHeartbeats 8000000 in
set_option maxRecDepth 100000 in
theorem servo_New.calls (a0 : Int) (r1 : Int) (r2 : Int) (r3 : Int) (r4 : Int) (r5 : Bool) (w : World) (h : servo_New.f a0 = some (r1, r2, r3, r4, r5)) :
    Calls Try.prog 30 #[.int .i64 a0] w fun e w' => e = .returned (.agg #[.int .i64 r1, .int .i64 r2, .int .i64 r3, .int .i64 r4, .bool r5]) ∧ Below w.heap.size w w' := by
  have hu49 := Try.underlying49
  have HB := Aside0.mk (Below.refl w.heap.size w)
  have H : ((encoder_New.f a0).bind fun bt375 => (some (bt375.1, bt375.2.1, bt375.2.2, 0, false))) = some (r1, r2, r3, r4, r5) := h
  clear h
  replace H := Option.bind_eq_some_iff.mp H
  obtain ⟨⟨t375, t376, t377⟩, A20, H⟩ := H
  replace H : (some (t375, t376, t377, 0, false)) = some (r1, r2, r3, r4, r5) := H
  have A2 := Aside0.mk A20
  clear A20
  simp only [Option.some.injEq, Prod.mk.injEq] at H
  obtain ⟨rfl, rfl, rfl, rfl, rfl⟩ := H
  go_enter Try.func30, Try.ntmps30
  go_wp2_with (first | ((with_reducible refine gate_dst (N := 2) rfl ?_); refine box_event ?hg (N := 2) ?hd (cs := #[.int .i64 0, .int .i64 0, .int .i64 0, .int .i64 0, .bool false]) (t := 49) ?hr ?_; (case hd => rfl); (case hg => rfl); (case hr => first | (go_simp; done) | (go_simp; rfl)); intro gb374 hg w3 hbox hb; have n0_ := Aside0.mk (below_step (by repeat (first | (with_reducible first | exact HB.out | apply below_alloc | apply pw_below_drewN | apply below_drew1) | exact HB.out)) hb); have n1_ := Aside0.mk (hbox); have n2_ := Aside0.mk ((by rw [hg]; exact (below_size (by repeat (first | (with_reducible first | exact HB.out | apply below_alloc | apply pw_below_drewN | apply below_drew1) | exact HB.out))) : w.heap.size ≤ gb374)); have n3_ := Aside0.mk ((by rw [hg]; exact (below_size (by repeat (first | (with_reducible first | exact HB.out | apply below_alloc | apply pw_below_drewN | apply below_drew1) | exact HB.out))) : w.heap.size ≤ gb374)); clear HB; have HB := n0_; have BK374 := n1_; have GW374 := n2_; have GE374 := n3_; clear n0_ n1_ n2_ n3_; clear hb hbox hg) | ((with_reducible refine gate_callee (f := 43) rfl ?_); refine goesL_ (some 4) rfl rfl Try.func43 (by kernel_rfl) rfl #[.int .i64 a0] rfl (by (try simp only [List.map_toArray, List.map_cons, List.map_nil]); first | done | rfl | (simp only [List.length_drop, List.length_take]; rfl)) ?_; (with_reducible refine (encoder_New.calls a0 t375 t376 t377 _ A2.out).mono ?_); rintro e w4 ⟨rfl, hb⟩; refine ⟨_, rfl, ?_⟩; have n0_ := Aside0.mk (blk_below (g := gb374) (o := .cells #[.int .i64 0, .int .i64 0, .int .i64 0, .int .i64 0, .bool false] 49 (0, 0)) (by (with_reducible repeat (first | refine blk_drewN ?_ _ | refine blk_drew ?_ | refine blk_alloc ?_ _)); exact BK374.out) hb); have n1_ := Aside0.mk (below_step (by repeat (first | (with_reducible first | exact HB.out | apply below_alloc | apply pw_below_drewN | apply below_drew1 | refine below_set ?_ GE374.out) | exact HB.out)) hb); clear BK374; clear HB; have BK374 := n0_; have HB := n1_; clear n0_ n1_; (try clear hb); (try clear hb2); (try clear hk); (try clear hi); have hcz5_0 : w4.cell? ⟨gb374, 0, none⟩ = some (.int .i64 0) := (blk_cell BK374.out 0).trans rfl; have hcz5_1 : w4.cell? ⟨gb374, 1, none⟩ = some (.int .i64 0) := (blk_cell BK374.out 1).trans rfl; have hcz5_2 : w4.cell? ⟨gb374, 2, none⟩ = some (.int .i64 0) := (blk_cell BK374.out 2).trans rfl; have hcz5_3 : w4.cell? ⟨gb374, 3, none⟩ = some (.int .i64 0) := (blk_cell BK374.out 3).trans rfl; have hcz5_4 : w4.cell? ⟨gb374, 4, none⟩ = some (.bool false) := (blk_cell BK374.out 4).trans rfl; have hfz5_0 := blk_frozen BK374.out 0; have hfz5_1 := blk_frozen BK374.out 1; have hfz5_2 := blk_frozen BK374.out 2; have hfz5_3 := blk_frozen BK374.out 3; have hfz5_4 := blk_frozen BK374.out 4))
  refine bodyPost_ret (results_cell_row rfl _ _ gb374 49 #[.int .i64 t375, .int .i64 t376, .int .i64 t377, .int .i64 0, .bool false] (0, 0) _ rfl (by (with_reducible repeat (first | refine blk_drewN ?_ _ | refine blk_drew ?_ | refine blk_alloc ?_ _)); refine blk_put (cs := #[.int .i64 t375, .int .i64 t376, .int .i64 t377, .int .i64 0, .bool false]) ?_ 4 _ rfl; (with_reducible repeat (first | refine blk_drewN ?_ _ | refine blk_drew ?_ | refine blk_alloc ?_ _)); refine blk_put (cs := #[.int .i64 t375, .int .i64 t376, .int .i64 t377, .int .i64 0, .bool false]) ?_ 3 _ rfl; (with_reducible repeat (first | refine blk_drewN ?_ _ | refine blk_drew ?_ | refine blk_alloc ?_ _)); refine blk_put (cs := #[.int .i64 t375, .int .i64 t376, .int .i64 0, .int .i64 0, .bool false]) ?_ 2 _ rfl; (with_reducible repeat (first | refine blk_drewN ?_ _ | refine blk_drew ?_ | refine blk_alloc ?_ _)); refine blk_put (cs := #[.int .i64 t375, .int .i64 0, .int .i64 0, .int .i64 0, .bool false]) ?_ 1 _ rfl; (with_reducible repeat (first | refine blk_drewN ?_ _ | refine blk_drew ?_ | refine blk_alloc ?_ _)); refine blk_put (cs := #[.int .i64 0, .int .i64 0, .int .i64 0, .int .i64 0, .bool false]) ?_ 0 _ rfl; (with_reducible repeat (first | refine blk_drewN ?_ _ | refine blk_drew ?_ | refine blk_alloc ?_ _)); exact BK374.out) Try.underlying49 rfl (by kernel_rfl)) rfl ?_
  exact ⟨by first | rfl | (simp [errW_none, errW_some] <;> rfl) | (simp [*, errW_none, errW_some] <;> rfl), by repeat (first | (with_reducible first | exact HB.out | apply below_alloc | apply pw_below_drewN | apply below_drew1 | refine below_set ?_ GE374.out) | exact HB.out)⟩

/-! ### encoder_Estimate: function 50 -/
def encoder_Estimate.f (a0_0 : Int) (a0_1 : Int) (a0_2 : Int) : Option (Int) := some (wrap64 ((wrap64 ((wrap64 (a0_0 * 16)) + a0_1)) + 8))
set_option maxHeartbeats 8000000 in
set_option maxRecDepth 100000 in
theorem encoder_Estimate.calls (a0_0 : Int) (a0_1 : Int) (a0_2 : Int) (r : Int) (w : World) (h : encoder_Estimate.f a0_0 a0_1 a0_2 = some r) :
    Calls Try.prog 50 #[.agg #[.int .i64 a0_0, .int .i64 a0_1, .int .i64 a0_2]] w fun e w' => e = .returned (.int .i64 r) ∧ Below w.heap.size w w' := by
  have hu47 := Try.underlying47
  have HB := Aside0.mk (Below.refl w.heap.size w)
  have H : (some (wrap64 ((wrap64 ((wrap64 (a0_0 * 16)) + a0_1)) + 8))) = some r := h
  clear h
  obtain rfl := Option.some.inj H
  go_enter Try.func50, Try.ntmps50
  go_wp2_with (first | ((with_reducible refine gate_dst (N := 1) rfl ?_); refine box_event ?hg (N := 1) ?hd (cs := #[.int .i64 a0_0, .int .i64 a0_1, .int .i64 a0_2]) (t := 47) ?hr ?_; (case hd => rfl); (case hg => rfl); (case hr => first | (go_simp; done) | (go_simp; rfl)); intro gb378 hg w2 hbox hb; have n0_ := Aside0.mk (below_step (by repeat (first | (with_reducible first | exact HB.out | apply below_alloc | apply pw_below_drewN | apply below_drew1) | exact HB.out)) hb); have n1_ := Aside0.mk (hbox); have n2_ := Aside0.mk ((by rw [hg]; exact (below_size (by repeat (first | (with_reducible first | exact HB.out | apply below_alloc | apply pw_below_drewN | apply below_drew1) | exact HB.out))) : w.heap.size ≤ gb378)); have n3_ := Aside0.mk ((by rw [hg]; exact (below_size (by repeat (first | (with_reducible first | exact HB.out | apply below_alloc | apply pw_below_drewN | apply below_drew1) | exact HB.out))) : w.heap.size ≤ gb378)); clear HB; have HB := n0_; have BK378 := n1_; have GW378 := n2_; have GE378 := n3_; clear n0_ n1_ n2_ n3_; clear hb hbox hg; have hcz3_0 : w2.cell? ⟨gb378, 0, none⟩ = some (.int .i64 a0_0) := (blk_cell BK378.out 0).trans rfl; have hcz3_1 : w2.cell? ⟨gb378, 1, none⟩ = some (.int .i64 a0_1) := (blk_cell BK378.out 1).trans rfl; have hcz3_2 : w2.cell? ⟨gb378, 2, none⟩ = some (.int .i64 a0_2) := (blk_cell BK378.out 2).trans rfl; have hfz3_0 := blk_frozen BK378.out 0; have hfz3_1 := blk_frozen BK378.out 1; have hfz3_2 := blk_frozen BK378.out 2))
  go_ret
  exact ⟨by first | rfl | (simp [errW_none, errW_some] <;> rfl) | (simp [*, errW_none, errW_some] <;> rfl), by repeat (first | (with_reducible first | exact HB.out | apply below_alloc | apply pw_below_drewN | apply below_drew1 | refine below_set ?_ GE378.out) | exact HB.out)⟩

/-! ### servo_TrackingError: function 34 -/
def servo_TrackingError.f (a0_0 : Int) (a0_1 : Int) (a0_2 : Int) (a0_3 : Int) (a0_4 : Bool) (a1 : Int) : Option (Int) := (encoder_Estimate.f a0_0 a0_1 a0_2).bind fun t380 => (some (wrap64 ((wrap64 ((wrap64 (a1 * 16)) + 8)) - t380)))
set_option maxHeartbeats 8000000 in
set_option maxRecDepth 100000 in
theorem servo_TrackingError.calls (a0_0 : Int) (a0_1 : Int) (a0_2 : Int) (a0_3 : Int) (a0_4 : Bool) (a1 : Int) (r : Int) (w : World) (h : servo_TrackingError.f a0_0 a0_1 a0_2 a0_3 a0_4 a1 = some r) :
    Calls Try.prog 34 #[.agg #[.int .i64 a0_0, .int .i64 a0_1, .int .i64 a0_2, .int .i64 a0_3, .bool a0_4], .int .i64 a1] w fun e w' => e = .returned (.int .i64 r) ∧ Below w.heap.size w w' := by
  have hu49 := Try.underlying49
  have hu47 := Try.underlying47
  have HB := Aside0.mk (Below.refl w.heap.size w)
  have H : ((encoder_Estimate.f a0_0 a0_1 a0_2).bind fun t380 => (some (wrap64 ((wrap64 ((wrap64 (a1 * 16)) + 8)) - t380)))) = some r := h
  clear h
  replace H := Option.bind_eq_some_iff.mp H
  obtain ⟨t380, A30, H⟩ := H
  replace H : (some (wrap64 ((wrap64 ((wrap64 (a1 * 16)) + 8)) - t380))) = some r := H
  have A3 := Aside0.mk A30
  clear A30
  obtain rfl := Option.some.inj H
  go_enter Try.func34, Try.ntmps34
  go_wp2_with (first | ((with_reducible refine gate_dst (N := 2) rfl ?_); refine box_event ?hg (N := 2) ?hd (cs := #[.int .i64 a0_0, .int .i64 a0_1, .int .i64 a0_2, .int .i64 a0_3, .bool a0_4]) (t := 49) ?hr ?_; (case hd => rfl); (case hg => rfl); (case hr => first | (go_simp; done) | (go_simp; rfl)); intro gb379 hg w4 hbox hb; have n0_ := Aside0.mk (below_step (by repeat (first | (with_reducible first | exact HB.out | apply below_alloc | apply pw_below_drewN | apply below_drew1) | exact HB.out)) hb); have n1_ := Aside0.mk (hbox); have n2_ := Aside0.mk ((by rw [hg]; exact (below_size (by repeat (first | (with_reducible first | exact HB.out | apply below_alloc | apply pw_below_drewN | apply below_drew1) | exact HB.out))) : w.heap.size ≤ gb379)); have n3_ := Aside0.mk ((by rw [hg]; exact (below_size (by repeat (first | (with_reducible first | exact HB.out | apply below_alloc | apply pw_below_drewN | apply below_drew1) | exact HB.out))) : w.heap.size ≤ gb379)); clear HB; have HB := n0_; have BK379 := n1_; have GW379 := n2_; have GE379 := n3_; clear n0_ n1_ n2_ n3_; clear hb hbox hg; have hcz5_0 : w4.cell? ⟨gb379, 0, none⟩ = some (.int .i64 a0_0) := (blk_cell BK379.out 0).trans rfl; have hcz5_1 : w4.cell? ⟨gb379, 1, none⟩ = some (.int .i64 a0_1) := (blk_cell BK379.out 1).trans rfl; have hcz5_2 : w4.cell? ⟨gb379, 2, none⟩ = some (.int .i64 a0_2) := (blk_cell BK379.out 2).trans rfl; have hcz5_3 : w4.cell? ⟨gb379, 3, none⟩ = some (.int .i64 a0_3) := (blk_cell BK379.out 3).trans rfl; have hcz5_4 : w4.cell? ⟨gb379, 4, none⟩ = some (.bool a0_4) := (blk_cell BK379.out 4).trans rfl; have hfz5_0 := blk_frozen BK379.out 0; have hfz5_1 := blk_frozen BK379.out 1; have hfz5_2 := blk_frozen BK379.out 2; have hfz5_3 := blk_frozen BK379.out 3; have hfz5_4 := blk_frozen BK379.out 4) | ((with_reducible refine gate_callee (f := 50) rfl ?_); refine goesL_ (some 12) rfl rfl Try.func50 (by kernel_rfl) rfl #[.agg #[.int .i64 a0_0, .int .i64 a0_1, .int .i64 a0_2]] rfl (by (try simp only [List.map_toArray, List.map_cons, List.map_nil]); first | done | rfl | (simp only [List.length_drop, List.length_take]; rfl)) ?_; (with_reducible refine (encoder_Estimate.calls a0_0 a0_1 a0_2 t380 _ A3.out).mono ?_); rintro e w6 ⟨rfl, hb⟩; refine ⟨_, rfl, ?_⟩; have n0_ := Aside0.mk (blk_below (g := gb379) (o := .cells #[.int .i64 a0_0, .int .i64 a0_1, .int .i64 a0_2, .int .i64 a0_3, .bool a0_4] 49 (0, 0)) (by (with_reducible repeat (first | refine blk_drewN ?_ _ | refine blk_drew ?_ | refine blk_alloc ?_ _)); exact BK379.out) hb); have n1_ := Aside0.mk (below_step (by repeat (first | (with_reducible first | exact HB.out | apply below_alloc | apply pw_below_drewN | apply below_drew1 | refine below_set ?_ GE379.out) | exact HB.out)) hb); clear BK379; clear HB; have BK379 := n0_; have HB := n1_; clear n0_ n1_; (try clear hb); (try clear hb2); (try clear hk); (try clear hi)))
  go_ret
  exact ⟨by first | rfl | (simp [errW_none, errW_some] <;> rfl) | (simp [*, errW_none, errW_some] <;> rfl), by repeat (first | (with_reducible first | exact HB.out | apply below_alloc | apply pw_below_drewN | apply below_drew1 | refine below_set ?_ GE379.out) | exact HB.out)⟩

/-! ### encoder_Observe: function 55 -/
theorem encoder_Observe.zero (w : World) : (zeroValue 83).run Try.prog w = .ok .nilFunc w := by kernel_rfl
theorem encoder_Observe.one (a0_0 a0_1 a0_2 a2 : Int) (w : World) :
    Calls Try.prog 55 #[.agg #[.int .i64 a0_0, .int .i64 a0_1, .int .i64 a0_2], .int .i64 1, .int .i64 a2] w fun e w' => e = .returned (.agg #[.int .i64 a2, .int .i64 0, .int .i64 0]) ∧ Below w.heap.size w w' := by
  have hmm := @run_makeMap Try.prog
  have hins := fun (W : World) (n : Nat) (hn : W.heap.size = n) (v : Value) => MapOne.run_insert_new (P := Try.prog) (es := #[]) (clock := 0) (key := 1) Try.underlying84 Try.underlying3 rfl W n hn v
  have hlk := fun (W : World) (n : Nat) (hn : W.heap.size = n) (v : Value) => MapOne.run_lookup_known (P := Try.prog) (key := 1) Try.underlying84 Try.underlying3 (MapOne.heap_last W (.map #[{ key := .int .i64 1, val := v, born := 0 }] 1) n hn) (i := 0) (v := v) rfl
  go_enter Try.func55, Try.ntmps55
  go_wp2
  refine bodyPost_ret (v := .agg #[.int .i64 a2, .int .i64 0, .int .i64 0]) (by simp [results, Try.results57, go_sem]) rfl ?_
  go_wp2
  refine bodyPost_ret (v := .agg #[.int .i64 a2, .int .i64 0, .int .i64 0]) (by simp [results, Try.results55, go_sem]) rfl ⟨rfl, ?_⟩
  repeat (first | exact Below.refl _ _ | refine Below.setCell ?_ (by simp) _ | refine Below.alloc ?_ (by simp <;> omega) _ | refine Below.drew ?_)
theorem encoder_Observe.other (a0_0 a0_1 a0_2 a1 a2 : Int) (w : World) (h1 : a1 ≠ 1) :
    Calls Try.prog 55 #[.agg #[.int .i64 a0_0, .int .i64 a0_1, .int .i64 a0_2], .int .i64 a1, .int .i64 a2] w fun e w' => e = .returned (.agg #[.int .i64 a0_0, .int .i64 a0_1, .int .i64 (wrap64 (a0_2 + 1))]) ∧ Below w.heap.size w w' := by
  have hmm := @run_makeMap Try.prog
  have hins := fun (W : World) (n : Nat) (hn : W.heap.size = n) (v : Value) => MapOne.run_insert_new (P := Try.prog) (es := #[]) (clock := 0) (key := 1) Try.underlying84 Try.underlying3 rfl W n hn v
  have hlk := fun (W : World) (n : Nat) (hn : W.heap.size = n) (v : Value) => MapOne.run_lookup_lacks (P := Try.prog) (key := a1) Try.underlying84 Try.underlying3 (MapOne.heap_last W (.map #[{ key := .int .i64 1, val := v, born := 0 }] 1) n hn) (encoder_Observe.zero _) (by simp [Instr.findNow, Instr.sameNow, beq_eq_false_iff_ne.mpr h1])
  clear h1
  go_enter Try.func55, Try.ntmps55
  go_wp2
  refine bodyPost_ret (v := .agg #[.int .i64 a0_0, .int .i64 a0_1, .int .i64 (wrap64 (a0_2 + 1))]) (by simp [results, Try.results55, go_sem]) rfl ⟨rfl, ?_⟩
  repeat (first | exact Below.refl _ _ | refine Below.setCell ?_ (by simp) _ | refine Below.alloc ?_ (by simp <;> omega) _ | refine Below.drew ?_)
def encoder_Observe.f (a0_0 : Int) (a0_1 : Int) (a0_2 : Int) (a1 : Int) (a2 : Int) : Option (Int × Int × Int) := if a1 = 1 then some (a2, 0, 0) else some (a0_0, a0_1, wrap64 (a0_2 + 1))
theorem encoder_Observe.calls (a0_0 : Int) (a0_1 : Int) (a0_2 : Int) (a1 : Int) (a2 : Int) (r1 : Int) (r2 : Int) (r3 : Int) (w : World) (h : encoder_Observe.f a0_0 a0_1 a0_2 a1 a2 = some (r1, r2, r3)) :
    Calls Try.prog 55 #[.agg #[.int .i64 a0_0, .int .i64 a0_1, .int .i64 a0_2], .int .i64 a1, .int .i64 a2] w fun e w' => e = .returned (.agg #[.int .i64 r1, .int .i64 r2, .int .i64 r3]) ∧ Below w.heap.size w w' := by
  unfold encoder_Observe.f at h
  by_cases c : a1 = 1
  · rw [if_pos c] at h
    simp only [Option.some.injEq, Prod.mk.injEq] at h
    obtain ⟨rfl, rfl, rfl⟩ := h
    subst c
    exact encoder_Observe.one _ _ _ _ w
  · rw [if_neg c] at h
    simp only [Option.some.injEq, Prod.mk.injEq] at h
    obtain ⟨rfl, rfl, rfl⟩ := h
    exact encoder_Observe.other _ _ _ _ _ w c

end Go.Proofs.Ytehibiikdlgneaa.P
