-- Written by this session's own program, for this seat. Lean checks it.
import Derived.Test.YthnbcedpdjingaaP0
import Derived.Test.YthnbcedpdjingaaP2
import Derived.Test.YthnbcedpdjingaaP10
import Derived.Test.YthnbcedpdjingaaP14
namespace Go.Proofs.Ythnbcedpdjingaa.P
open Go.RowKit Go.Proofs.YthnbcedpdjingaaW.PrintWords Go.Proofs.YthnbcedpdjingaaW.PrintLast Go.Proofs.YthnbcedpdjingaaW.PrintMore
attribute [local go_sem] max2_int min2_int max_two min_two max_three min_three max_four min_four   -- for this text's walks alone
set_option linter.unusedVariables false
set_option linter.unusedSimpArgs false

attribute [local go_sem high] eqA44
/-! ### ambidexterlaw26_DualchannelAgreement: function 14 -/
mutual
def ambidexterlaw26_DualchannelAgreement.l0 : Nat → List (S47) → Bool → Int → Bool → Bool → Int → Bool → Bool → Bool → Int → Bool → Bool → Bool → Int → Bool → Option (Bool)
  | 0, _, _, _, _, _, _, _, _, _, _, _, _, _, _, _ => none
  | k + 1, x2, x7, x11, x411000, x411001, x411002, x411003, x416000, x416001, x416002, x416003, x421000, x421001, x421002, x421003 => if x11 < (x2.length : Int) then (ambidexterlaw26_DualchannelAgreement.j1 k x2 x7 x11 (decide (x11 < 300)) x411000 x411001 x411002 x411003 x416000 x416001 x416002 x416003 x421000 x421001 x421002 x421003) else (ambidexterlaw26_DualchannelAgreement.j1 k x2 x7 x11 false x411000 x411001 x411002 x411003 x416000 x416001 x416002 x416003 x421000 x421001 x421002 x421003)
def ambidexterlaw26_DualchannelAgreement.j1 : Nat → List (S47) → Bool → Int → Bool → Bool → Bool → Int → Bool → Bool → Bool → Int → Bool → Bool → Bool → Int → Bool → Option (Bool)
  | 0, _, _, _, _, _, _, _, _, _, _, _, _, _, _, _, _ => none
  | k + 1, x2, x7, x11, x41, x411000, x411001, x411002, x411003, x416000, x416001, x416002, x416003, x421000, x421001, x421002, x421003 => if x41 = true then (if 0 ≤ x11 then (if x11 < (x2.length : Int) then ((ambidexterlaw26_step.f x416000 x416001 x416002 x416003 ((rd_T47 x2 x11).f0) ((rd_T47 x2 x11).f1) ((rd_T47 x2 x11).f2)).bind fun bt422 => ((ambidexterlaw26_step.f x421000 x421001 x421002 x421003 ((rd_T47 x2 x11).f0) ((rd_T47 x2 x11).f1) ((rd_T47 x2 x11).f2)).bind fun bt427 => (if (!(bt422.1 == bt427.1) || (!(bt422.2.1 == bt427.2.1) || (!(bt422.2.2.1 == bt427.2.2.1) || (!(bt422.2.2.2 == bt427.2.2.2))))) = true then (some false) else (if (Int.tmod x11 4) = 3 then ((dualchannel_Observe.f x411000 x411001 x411002 x411003 ((rd_T47 x2 x11).f1) ((rd_T47 x2 x11).f1)).bind fun bt433 => (if bt433.2.2.2 = true then (some false) else (ambidexterlaw26_DualchannelAgreement.l0 k x2 x7 (wrap64 (x11 + 1)) bt433.1 bt433.2.1 bt433.2.2.1 bt433.2.2.2 bt422.1 bt422.2.1 bt422.2.2.1 bt422.2.2.2 bt427.1 bt427.2.1 bt427.2.2.1 bt427.2.2.2))) else ((dualchannel_Observe.f x411000 x411001 x411002 x411003 ((rd_T47 x2 x11).f1) ((rd_T47 x2 x11).f2)).bind fun bt437 => (if bt437.2.2.2 = true then (some false) else (ambidexterlaw26_DualchannelAgreement.l0 k x2 x7 (wrap64 (x11 + 1)) bt437.1 bt437.2.1 bt437.2.2.1 bt437.2.2.2 bt422.1 bt422.2.1 bt422.2.2.1 bt422.2.2.2 bt427.1 bt427.2.1 bt427.2.2.1 bt427.2.2.2))))))) else (none)) else (none)) else (some x7)
end
def ambidexterlaw26_DualchannelAgreement.f (k : Nat) (l0 : List (S47)) (a1 : Bool) (l2 : List (S47)) : Option (Bool) := (ambidexterlaw26_head.f k).bind fun t401 => ((ambidexterlaw26_Made.f k l0).bind fun bt402 => ((dualchannel_Observe.f bt402.1 bt402.2.1 bt402.2.2.1 bt402.2.2.2 a1 a1).bind fun bt406 => (if (!(bt406.1 == a1) || (!(bt406.2.1 == a1) || (!(bt406.2.2.1 == 0)))) = true then (some false) else ((dualchannel_Reset.f bt406.1 bt406.2.1 bt406.2.2.1 bt406.2.2.2).bind fun bt411 => ((dualchannel_Observe.f false false 0 false a1 a1).bind fun bt416 => (ambidexterlaw26_DualchannelAgreement.l0 k l2 t401 0 bt411.1 bt411.2.1 bt411.2.2.1 bt411.2.2.2 bt411.1 bt411.2.1 bt411.2.2.1 bt411.2.2.2 bt416.1 bt416.2.1 bt416.2.2.1 bt416.2.2.2))))))
theorem ambidexterlaw26_DualchannelAgreement.mono_l : ∀ k, (∀ y0 y1 y2 y3 y4 y5 y6 y7 y8 y9 y10 y11 y12 y13 y14, LeO (ambidexterlaw26_DualchannelAgreement.l0 k y0 y1 y2 y3 y4 y5 y6 y7 y8 y9 y10 y11 y12 y13 y14) (ambidexterlaw26_DualchannelAgreement.l0 (k + 1) y0 y1 y2 y3 y4 y5 y6 y7 y8 y9 y10 y11 y12 y13 y14)) ∧ (∀ y0 y1 y2 y3 y4 y5 y6 y7 y8 y9 y10 y11 y12 y13 y14 y15, LeO (ambidexterlaw26_DualchannelAgreement.j1 k y0 y1 y2 y3 y4 y5 y6 y7 y8 y9 y10 y11 y12 y13 y14 y15) (ambidexterlaw26_DualchannelAgreement.j1 (k + 1) y0 y1 y2 y3 y4 y5 y6 y7 y8 y9 y10 y11 y12 y13 y14 y15))
  | 0 => ⟨fun _ _ _ _ _ _ _ _ _ _ _ _ _ _ _ r h => by simp [ambidexterlaw26_DualchannelAgreement.l0] at h, fun _ _ _ _ _ _ _ _ _ _ _ _ _ _ _ _ r h => by simp [ambidexterlaw26_DualchannelAgreement.j1] at h⟩
  | k + 1 => by
    obtain ⟨ih0, ih1⟩ := ambidexterlaw26_DualchannelAgreement.mono_l k
    refine ⟨?_, ?_⟩
    · intro y0 y1 y2 y3 y4 y5 y6 y7 y8 y9 y10 y11 y12 y13 y14
      unfold ambidexterlaw26_DualchannelAgreement.l0
      repeat' first
      | (with_reducible exact ih0 _ _ _ _ _ _ _ _ _ _ _ _ _ _ _)
      | (with_reducible exact ih1 _ _ _ _ _ _ _ _ _ _ _ _ _ _ _ _)
      | (with_reducible exact ambidexterlaw26_Made.mono _ _)
      | (with_reducible exact ambidexterlaw26_head.mono _)
      | (with_reducible exact LeO.refl _)
      | (with_reducible exact LeO.none _)
      | (with_reducible refine LeO.ite ?_ ?_)
      | (with_reducible refine LeO.bind ?_ (fun _ => ?_))
      | exact ih0 _ _ _ _ _ _ _ _ _ _ _ _ _ _ _
      | exact ih1 _ _ _ _ _ _ _ _ _ _ _ _ _ _ _ _
      | exact ambidexterlaw26_Made.mono _ _
      | exact ambidexterlaw26_head.mono _
      | exact LeO.none _
      | refine LeO.ite ?_ ?_
      | refine LeO.bind ?_ (fun _ => ?_)
    · intro y0 y1 y2 y3 y4 y5 y6 y7 y8 y9 y10 y11 y12 y13 y14 y15
      unfold ambidexterlaw26_DualchannelAgreement.j1
      repeat' first
      | (with_reducible exact ih0 _ _ _ _ _ _ _ _ _ _ _ _ _ _ _)
      | (with_reducible exact ih1 _ _ _ _ _ _ _ _ _ _ _ _ _ _ _ _)
      | (with_reducible exact ambidexterlaw26_Made.mono _ _)
      | (with_reducible exact ambidexterlaw26_head.mono _)
      | (with_reducible exact LeO.refl _)
      | (with_reducible exact LeO.none _)
      | (with_reducible refine LeO.ite ?_ ?_)
      | (with_reducible refine LeO.bind ?_ (fun _ => ?_))
      | exact ih0 _ _ _ _ _ _ _ _ _ _ _ _ _ _ _
      | exact ih1 _ _ _ _ _ _ _ _ _ _ _ _ _ _ _ _
      | exact ambidexterlaw26_Made.mono _ _
      | exact ambidexterlaw26_head.mono _
      | exact LeO.none _
      | refine LeO.ite ?_ ?_
      | refine LeO.bind ?_ (fun _ => ?_)
theorem ambidexterlaw26_DualchannelAgreement.mono : ∀ a0 a1 a2 k, LeO (ambidexterlaw26_DualchannelAgreement.f k a0 a1 a2) (ambidexterlaw26_DualchannelAgreement.f (k + 1) a0 a1 a2) := by
  intro a0 a1 a2 k
  obtain ⟨ih0, ih1⟩ := ambidexterlaw26_DualchannelAgreement.mono_l k
  unfold ambidexterlaw26_DualchannelAgreement.f
  repeat' first
      | (with_reducible exact ih0 _ _ _ _ _ _ _ _ _ _ _ _ _ _ _)
      | (with_reducible exact ih1 _ _ _ _ _ _ _ _ _ _ _ _ _ _ _ _)
      | (with_reducible exact ambidexterlaw26_Made.mono _ _)
      | (with_reducible exact ambidexterlaw26_head.mono _)
      | (with_reducible exact LeO.refl _)
      | (with_reducible exact LeO.none _)
      | (with_reducible refine LeO.ite ?_ ?_)
      | (with_reducible refine LeO.bind ?_ (fun _ => ?_))
      | exact ih0 _ _ _ _ _ _ _ _ _ _ _ _ _ _ _
      | exact ih1 _ _ _ _ _ _ _ _ _ _ _ _ _ _ _ _
      | exact ambidexterlaw26_Made.mono _ _
      | exact ambidexterlaw26_head.mono _
      | exact LeO.none _
      | refine LeO.ite ?_ ?_
      | refine LeO.bind ?_ (fun _ => ?_)
set_option maxHeartbeats 8000000 in
set_option maxRecDepth 100000 in
theorem ambidexterlaw26_DualchannelAgreement.calls0 (k : Nat) (A0 : Option Addr) (c0 : Nat) (l0 : List (S47)) (a1 : Bool) (A2 : Option Addr) (c2 : Nat) (l2 : List (S47)) (r : Bool) (w : World) (hr0 : Kd.C k47 w A0 l0.length l0) (hc0 : l0.length ≤ c0) (hr2 : Kd.C k47 w A2 l2.length l2) (hc2 : l2.length ≤ c2) (h : ambidexterlaw26_DualchannelAgreement.f k l0 a1 l2 = some r) (hT : r = true) :
    Calls Try.prog 14 #[.slice A0 l0.length c0, .bool a1, .slice A2 l2.length c2] w fun e w' => e = .returned (.bool r) ∧ Below w.heap.size w w' := by
  have hu44 := Try.underlying44
  have hu47 := Try.underlying47
  have HR0 := Aside0.mk hr0
  have HC0 := Aside0.mk hc0
  clear hr0 hc0
  have HR2 := Aside0.mk hr2
  have HC2 := Aside0.mk hc2
  clear hr2 hc2
  have HB := Aside0.mk (Below.refl w.heap.size w)
  have H : ((ambidexterlaw26_head.f k).bind fun t401 => ((ambidexterlaw26_Made.f k l0).bind fun bt402 => ((dualchannel_Observe.f bt402.1 bt402.2.1 bt402.2.2.1 bt402.2.2.2 a1 a1).bind fun bt406 => (if (!(bt406.1 == a1) || (!(bt406.2.1 == a1) || (!(bt406.2.2.1 == 0)))) = true then (some false) else ((dualchannel_Reset.f bt406.1 bt406.2.1 bt406.2.2.1 bt406.2.2.2).bind fun bt411 => ((dualchannel_Observe.f false false 0 false a1 a1).bind fun bt416 => (ambidexterlaw26_DualchannelAgreement.l0 k l2 t401 0 bt411.1 bt411.2.1 bt411.2.2.1 bt411.2.2.2 bt411.1 bt411.2.1 bt411.2.2.1 bt411.2.2.2 bt416.1 bt416.2.1 bt416.2.2.1 bt416.2.2.2))))))) = some r := h
  clear h
  have HT := Aside0.mk hT
  clear hT
  replace H := Option.bind_eq_some_iff.mp H
  obtain ⟨t401, A40, H⟩ := H
  obtain rfl := ambidexterlaw26_head.is_true k A40
  replace H : ((ambidexterlaw26_Made.f k l0).bind fun bt402 => ((dualchannel_Observe.f bt402.1 bt402.2.1 bt402.2.2.1 bt402.2.2.2 a1 a1).bind fun bt406 => (if (!(bt406.1 == a1) || (!(bt406.2.1 == a1) || (!(bt406.2.2.1 == 0)))) = true then (some false) else ((dualchannel_Reset.f bt406.1 bt406.2.1 bt406.2.2.1 bt406.2.2.2).bind fun bt411 => ((dualchannel_Observe.f false false 0 false a1 a1).bind fun bt416 => (ambidexterlaw26_DualchannelAgreement.l0 k l2 true 0 bt411.1 bt411.2.1 bt411.2.2.1 bt411.2.2.2 bt411.1 bt411.2.1 bt411.2.2.1 bt411.2.2.2 bt416.1 bt416.2.1 bt416.2.2.1 bt416.2.2.2)))))) = some r := H
  have A4 := Aside0.mk A40
  clear A40
  replace H := Option.bind_eq_some_iff.mp H
  obtain ⟨⟨t402, t403, t404, t405⟩, A50, H⟩ := H
  replace H : ((dualchannel_Observe.f t402 t403 t404 t405 a1 a1).bind fun bt406 => (if (!(bt406.1 == a1) || (!(bt406.2.1 == a1) || (!(bt406.2.2.1 == 0)))) = true then (some false) else ((dualchannel_Reset.f bt406.1 bt406.2.1 bt406.2.2.1 bt406.2.2.2).bind fun bt411 => ((dualchannel_Observe.f false false 0 false a1 a1).bind fun bt416 => (ambidexterlaw26_DualchannelAgreement.l0 k l2 true 0 bt411.1 bt411.2.1 bt411.2.2.1 bt411.2.2.2 bt411.1 bt411.2.1 bt411.2.2.1 bt411.2.2.2 bt416.1 bt416.2.1 bt416.2.2.1 bt416.2.2.2))))) = some r := H
  have A5 := Aside0.mk A50
  clear A50
  replace H := Option.bind_eq_some_iff.mp H
  obtain ⟨⟨t406, t407, t408, t409⟩, A60, H⟩ := H
  replace H : (if (!(t406 == a1) || (!(t407 == a1) || (!(t408 == 0)))) = true then (some false) else ((dualchannel_Reset.f t406 t407 t408 t409).bind fun bt411 => ((dualchannel_Observe.f false false 0 false a1 a1).bind fun bt416 => (ambidexterlaw26_DualchannelAgreement.l0 k l2 true 0 bt411.1 bt411.2.1 bt411.2.2.1 bt411.2.2.2 bt411.1 bt411.2.1 bt411.2.2.1 bt411.2.2.2 bt416.1 bt416.2.1 bt416.2.2.1 bt416.2.2.2)))) = some r := H
  have A6 := Aside0.mk A60
  clear A60
  by_cases c7 : (!(t406 == a1) || (!(t407 == a1) || (!(t408 == 0)))) = true
  · rw [if_pos c7] at H
    have c7b0 : (!(t406 == a1) || (!(t407 == a1) || (!(t408 == 0)))) = true := c7
    clear c7
    exact absurd HT.out (by rw [← Option.some.inj H]; decide)
  · rw [if_neg c7] at H
    have c7b0 : (!(t406 == a1) || (!(t407 == a1) || (!(t408 == 0)))) = false := by simpa using c7
    clear c7
    replace H := Option.bind_eq_some_iff.mp H
    obtain ⟨⟨t411, t412, t413, t414⟩, A80, H⟩ := H
    replace H : ((dualchannel_Observe.f false false 0 false a1 a1).bind fun bt416 => (ambidexterlaw26_DualchannelAgreement.l0 k l2 true 0 t411 t412 t413 t414 t411 t412 t413 t414 bt416.1 bt416.2.1 bt416.2.2.1 bt416.2.2.2)) = some r := H
    have A8 := Aside0.mk A80
    clear A80
    replace H := Option.bind_eq_some_iff.mp H
    obtain ⟨⟨t416, t417, t418, t419⟩, A90, H⟩ := H
    replace H : (ambidexterlaw26_DualchannelAgreement.l0 k l2 true 0 t411 t412 t413 t414 t411 t412 t413 t414 t416 t417 t418 t419) = some r := H
    have A9 := Aside0.mk A90
    clear A90
    have H' := Aside0.mk H
    clear H
    go_enter Try.func14, Try.ntmps14
    go_wp2_with (first | ((with_reducible refine gate_callee (f := 27) rfl ?_); refine goesL_ (some 14) rfl rfl Try.func27 (by kernel_rfl) rfl #[] rfl (by (try simp only [List.map_toArray, List.map_cons, List.map_nil]); first | done | rfl | (simp only [List.length_drop, List.length_take]; rfl)) ?_; (with_reducible refine (ambidexterlaw26_head.calls k  true _ A4.out).mono ?_); rintro e w10 ⟨rfl, hb⟩; refine ⟨_, rfl, ?_⟩; have n0_ := Aside0.mk (below_step (by repeat (first | (with_reducible first | exact HB.out | apply below_alloc | apply pw_below_drewN | apply below_drew1) | exact HB.out)) hb); clear HB; have HB := n0_; clear n0_; (try clear hb); (try clear hb2); (try clear hk); (try clear hi)) | ((with_reducible refine gate_callee (f := 33) rfl ?_); refine goesL_ (some 16) rfl rfl Try.func33 (by kernel_rfl) rfl #[.slice A0 l0.length c0] rfl (by (try simp only [List.map_toArray, List.map_cons, List.map_nil]); first | done | rfl | (simp only [List.length_drop, List.length_take]; rfl)) ?_; (with_reducible refine (ambidexterlaw26_Made.calls k _ _ l0 t402 t403 t404 t405 _ ?side1 ?side2 A5.out).mono ?_); (case side1 => repeat (first | exact (Kd.C_below HR0.out HB.out) | (with_reducible refine Kd.C_alloc ?_ _) | (with_reducible refine Kd.C_drewN ?_ _) | (with_reducible refine Kd.C_drew ?_))); (case side2 => exact HC0.out); rintro e w11 ⟨rfl, hb⟩; refine ⟨_, rfl, ?_⟩; have n0_ := Aside0.mk (below_step (by repeat (first | (with_reducible first | exact HB.out | apply below_alloc | apply pw_below_drewN | apply below_drew1) | exact HB.out)) hb); clear HB; have HB := n0_; clear n0_; (try clear hb); (try clear hb2); (try clear hk); (try clear hi)) | ((with_reducible refine gate_callee (f := 35) rfl ?_); refine goesL_ (some 19) rfl rfl Try.func35 (by kernel_rfl) rfl #[.agg #[.bool t402, .bool t403, .int .i64 t404, .bool t405], .bool a1, .bool a1] rfl (by (try simp only [List.map_toArray, List.map_cons, List.map_nil]); first | done | rfl | (simp only [List.length_drop, List.length_take]; rfl)) ?_; (with_reducible refine (dualchannel_Observe.calls t402 t403 t404 t405 a1 a1 t406 t407 t408 t409 _ A6.out).mono ?_); rintro e w12 ⟨rfl, hb⟩; refine ⟨_, rfl, ?_⟩; have n0_ := Aside0.mk (below_step (by repeat (first | (with_reducible first | exact HB.out | apply below_alloc | apply pw_below_drewN | apply below_drew1) | exact HB.out)) hb); clear HB; have HB := n0_; clear n0_; (try clear hb); (try clear hb2); (try clear hk); (try clear hi)) | ((with_reducible refine gate_dst (N := 8) rfl ?_); refine box_event ?hg (N := 8) ?hd (cs := #[.bool false, .bool false, .int .i64 0, .bool false]) (t := 44) ?hr ?_; (case hd => rfl); (case hg => rfl); (case hr => first | (go_simp; done) | (go_simp; rfl)); intro gb410 hg w13 hbox hb; have n0_ := Aside0.mk (below_step (by repeat (first | (with_reducible first | exact HB.out | apply below_alloc | apply pw_below_drewN | apply below_drew1) | exact HB.out)) hb); have n1_ := Aside0.mk (hbox); have n2_ := Aside0.mk ((by rw [hg]; exact (below_size (by repeat (first | (with_reducible first | exact HB.out | apply below_alloc | apply pw_below_drewN | apply below_drew1) | exact HB.out))) : w.heap.size ≤ gb410)); have n3_ := Aside0.mk ((by rw [hg]; exact (below_size (by repeat (first | (with_reducible first | exact HB.out | apply below_alloc | apply pw_below_drewN | apply below_drew1) | exact HB.out))) : w.heap.size ≤ gb410)); clear HB; have HB := n0_; have BK410 := n1_; have GW410 := n2_; have GE410 := n3_; clear n0_ n1_ n2_ n3_; clear hb hbox hg; have hcz14_0 : w13.cell? ⟨gb410, 0, none⟩ = some (.bool false) := (blk_cell BK410.out 0).trans rfl; have hcz14_1 : w13.cell? ⟨gb410, 1, none⟩ = some (.bool false) := (blk_cell BK410.out 1).trans rfl; have hcz14_2 : w13.cell? ⟨gb410, 2, none⟩ = some (.int .i64 0) := (blk_cell BK410.out 2).trans rfl; have hcz14_3 : w13.cell? ⟨gb410, 3, none⟩ = some (.bool false) := (blk_cell BK410.out 3).trans rfl; have hfz14_0 := blk_frozen BK410.out 0; have hfz14_1 := blk_frozen BK410.out 1; have hfz14_2 := blk_frozen BK410.out 2; have hfz14_3 := blk_frozen BK410.out 3) | ((with_reducible refine gate_callee (f := 34) rfl ?_); refine goesL_ (some 28) rfl rfl Try.func34 (by kernel_rfl) rfl #[.agg #[.bool t406, .bool t407, .int .i64 t408, .bool t409]] rfl (by (try simp only [List.map_toArray, List.map_cons, List.map_nil]); first | done | rfl | (simp only [List.length_drop, List.length_take]; rfl)) ?_; (with_reducible refine (dualchannel_Reset.calls t406 t407 t408 t409 t411 t412 t413 t414 _ A8.out).mono ?_); rintro e w15 ⟨rfl, hb⟩; refine ⟨_, rfl, ?_⟩; have n0_ := Aside0.mk (blk_below (g := gb410) (o := .cells #[.bool t406, .bool t407, .int .i64 t408, .bool t409] 44 (0, 0)) (by (with_reducible repeat (first | refine blk_drewN ?_ _ | refine blk_drew ?_ | refine blk_alloc ?_ _)); refine blk_put (cs := #[.bool t406, .bool t407, .int .i64 t408, .bool false]) ?_ 3 _ rfl; (with_reducible repeat (first | refine blk_drewN ?_ _ | refine blk_drew ?_ | refine blk_alloc ?_ _)); refine blk_put (cs := #[.bool t406, .bool t407, .int .i64 0, .bool false]) ?_ 2 _ rfl; (with_reducible repeat (first | refine blk_drewN ?_ _ | refine blk_drew ?_ | refine blk_alloc ?_ _)); refine blk_put (cs := #[.bool t406, .bool false, .int .i64 0, .bool false]) ?_ 1 _ rfl; (with_reducible repeat (first | refine blk_drewN ?_ _ | refine blk_drew ?_ | refine blk_alloc ?_ _)); refine blk_put (cs := #[.bool false, .bool false, .int .i64 0, .bool false]) ?_ 0 _ rfl; (with_reducible repeat (first | refine blk_drewN ?_ _ | refine blk_drew ?_ | refine blk_alloc ?_ _)); exact BK410.out) hb); have n1_ := Aside0.mk (below_step (by repeat (first | (with_reducible first | exact HB.out | apply below_alloc | apply pw_below_drewN | apply below_drew1 | refine below_set ?_ GE410.out) | exact HB.out)) hb); clear BK410; clear HB; have BK410 := n0_; have HB := n1_; clear n0_ n1_; (try clear hb); (try clear hb2); (try clear hk); (try clear hi); have hcz16_0 : w15.cell? ⟨gb410, 0, none⟩ = some (.bool t406) := (blk_cell BK410.out 0).trans rfl; have hcz16_1 : w15.cell? ⟨gb410, 1, none⟩ = some (.bool t407) := (blk_cell BK410.out 1).trans rfl; have hcz16_2 : w15.cell? ⟨gb410, 2, none⟩ = some (.int .i64 t408) := (blk_cell BK410.out 2).trans rfl; have hcz16_3 : w15.cell? ⟨gb410, 3, none⟩ = some (.bool t409) := (blk_cell BK410.out 3).trans rfl; have hfz16_0 := blk_frozen BK410.out 0; have hfz16_1 := blk_frozen BK410.out 1; have hfz16_2 := blk_frozen BK410.out 2; have hfz16_3 := blk_frozen BK410.out 3) | ((with_reducible refine gate_dst (N := 9) rfl ?_); refine box_event ?hg (N := 9) ?hd (cs := #[.bool false, .bool false, .int .i64 0, .bool false]) (t := 44) ?hr ?_; (case hd => rfl); (case hg => rfl); (case hr => first | (go_simp; done) | (go_simp; rfl)); intro gb415 hg w17 hbox hb; have n0_ := Aside0.mk (blk_below (g := gb410) (o := .cells #[.bool t411, .bool t412, .int .i64 t413, .bool t414] 44 (0, 0)) (by (with_reducible repeat (first | refine blk_drewN ?_ _ | refine blk_drew ?_ | refine blk_alloc ?_ _)); refine blk_put (cs := #[.bool t411, .bool t412, .int .i64 t413, .bool t409]) ?_ 3 _ rfl; (with_reducible repeat (first | refine blk_drewN ?_ _ | refine blk_drew ?_ | refine blk_alloc ?_ _)); refine blk_put (cs := #[.bool t411, .bool t412, .int .i64 t408, .bool t409]) ?_ 2 _ rfl; (with_reducible repeat (first | refine blk_drewN ?_ _ | refine blk_drew ?_ | refine blk_alloc ?_ _)); refine blk_put (cs := #[.bool t411, .bool t407, .int .i64 t408, .bool t409]) ?_ 1 _ rfl; (with_reducible repeat (first | refine blk_drewN ?_ _ | refine blk_drew ?_ | refine blk_alloc ?_ _)); refine blk_put (cs := #[.bool t406, .bool t407, .int .i64 t408, .bool t409]) ?_ 0 _ rfl; (with_reducible repeat (first | refine blk_drewN ?_ _ | refine blk_drew ?_ | refine blk_alloc ?_ _)); exact BK410.out) hb); have n1_ := Aside0.mk (below_step (by repeat (first | (with_reducible first | exact HB.out | apply below_alloc | apply pw_below_drewN | apply below_drew1 | refine below_set ?_ GE410.out) | exact HB.out)) hb); have n2_ := Aside0.mk (hbox); have n3_ := Aside0.mk ((by rw [hg]; exact (below_size (by repeat (first | (with_reducible first | exact HB.out | apply below_alloc | apply pw_below_drewN | apply below_drew1 | refine below_set ?_ GE410.out) | exact HB.out))) : w.heap.size ≤ gb415)); have n4_ := Aside0.mk ((by rw [hg]; exact (below_size (by repeat (first | (with_reducible first | exact HB.out | apply below_alloc | apply pw_below_drewN | apply below_drew1 | refine below_set ?_ GE410.out) | exact HB.out))) : w.heap.size ≤ gb415)); have n5_ := Aside0.mk ((by rw [hg]; exact Nat.ne_of_lt (blk_lt (g := gb410) (o := .cells #[.bool t411, .bool t412, .int .i64 t413, .bool t414] 44 (0, 0)) (by (with_reducible repeat (first | refine blk_drewN ?_ _ | refine blk_drew ?_ | refine blk_alloc ?_ _)); refine blk_put (cs := #[.bool t411, .bool t412, .int .i64 t413, .bool t409]) ?_ 3 _ rfl; (with_reducible repeat (first | refine blk_drewN ?_ _ | refine blk_drew ?_ | refine blk_alloc ?_ _)); refine blk_put (cs := #[.bool t411, .bool t412, .int .i64 t408, .bool t409]) ?_ 2 _ rfl; (with_reducible repeat (first | refine blk_drewN ?_ _ | refine blk_drew ?_ | refine blk_alloc ?_ _)); refine blk_put (cs := #[.bool t411, .bool t407, .int .i64 t408, .bool t409]) ?_ 1 _ rfl; (with_reducible repeat (first | refine blk_drewN ?_ _ | refine blk_drew ?_ | refine blk_alloc ?_ _)); refine blk_put (cs := #[.bool t406, .bool t407, .int .i64 t408, .bool t409]) ?_ 0 _ rfl; (with_reducible repeat (first | refine blk_drewN ?_ _ | refine blk_drew ?_ | refine blk_alloc ?_ _)); exact BK410.out)) : gb410 ≠ gb415)); have n6_ := Aside0.mk ((by rw [hg]; exact Nat.ne_of_gt (blk_lt (g := gb410) (o := .cells #[.bool t411, .bool t412, .int .i64 t413, .bool t414] 44 (0, 0)) (by (with_reducible repeat (first | refine blk_drewN ?_ _ | refine blk_drew ?_ | refine blk_alloc ?_ _)); refine blk_put (cs := #[.bool t411, .bool t412, .int .i64 t413, .bool t409]) ?_ 3 _ rfl; (with_reducible repeat (first | refine blk_drewN ?_ _ | refine blk_drew ?_ | refine blk_alloc ?_ _)); refine blk_put (cs := #[.bool t411, .bool t412, .int .i64 t408, .bool t409]) ?_ 2 _ rfl; (with_reducible repeat (first | refine blk_drewN ?_ _ | refine blk_drew ?_ | refine blk_alloc ?_ _)); refine blk_put (cs := #[.bool t411, .bool t407, .int .i64 t408, .bool t409]) ?_ 1 _ rfl; (with_reducible repeat (first | refine blk_drewN ?_ _ | refine blk_drew ?_ | refine blk_alloc ?_ _)); refine blk_put (cs := #[.bool t406, .bool t407, .int .i64 t408, .bool t409]) ?_ 0 _ rfl; (with_reducible repeat (first | refine blk_drewN ?_ _ | refine blk_drew ?_ | refine blk_alloc ?_ _)); exact BK410.out)) : gb415 ≠ gb410)); clear BK410; clear HB; have BK410 := n0_; have HB := n1_; have BK415 := n2_; have GW415 := n3_; have GE415 := n4_; have NB410_415 := n5_; have NB415_410 := n6_; clear n0_ n1_ n2_ n3_ n4_ n5_ n6_; clear hb hbox hg; have hnb18 := NB415_410.out; have hnc18 := NB410_415.out; have hcz19_0 : w17.cell? ⟨gb415, 0, none⟩ = some (.bool false) := (blk_cell BK415.out 0).trans rfl; have hcz19_1 : w17.cell? ⟨gb415, 1, none⟩ = some (.bool false) := (blk_cell BK415.out 1).trans rfl; have hcz19_2 : w17.cell? ⟨gb415, 2, none⟩ = some (.int .i64 0) := (blk_cell BK415.out 2).trans rfl; have hcz19_3 : w17.cell? ⟨gb415, 3, none⟩ = some (.bool false) := (blk_cell BK415.out 3).trans rfl; have hfz19_0 := blk_frozen BK415.out 0; have hfz19_1 := blk_frozen BK415.out 1; have hfz19_2 := blk_frozen BK415.out 2; have hfz19_3 := blk_frozen BK415.out 3) | ((with_reducible refine gate_callee (f := 35) rfl ?_); refine goesL_ (some 33) rfl rfl Try.func35 (by kernel_rfl) rfl #[.agg #[.bool false, .bool false, .int .i64 0, .bool false], .bool a1, .bool a1] rfl (by (try simp only [List.map_toArray, List.map_cons, List.map_nil]); first | done | rfl | (simp only [List.length_drop, List.length_take]; rfl)) ?_; (with_reducible refine (dualchannel_Observe.calls false false 0 false a1 a1 t416 t417 t418 t419 _ A9.out).mono ?_); rintro e w20 ⟨rfl, hb⟩; refine ⟨_, rfl, ?_⟩; have n0_ := Aside0.mk (blk_below (g := gb410) (o := .cells #[.bool t411, .bool t412, .int .i64 t413, .bool t414] 44 (0, 0)) (by (with_reducible repeat (first | refine blk_drewN ?_ _ | refine blk_drew ?_ | refine blk_alloc ?_ _)); refine blk_far ?_ NB410_415.out _; (with_reducible repeat (first | refine blk_drewN ?_ _ | refine blk_drew ?_ | refine blk_alloc ?_ _)); refine blk_far ?_ NB410_415.out _; (with_reducible repeat (first | refine blk_drewN ?_ _ | refine blk_drew ?_ | refine blk_alloc ?_ _)); refine blk_far ?_ NB410_415.out _; (with_reducible repeat (first | refine blk_drewN ?_ _ | refine blk_drew ?_ | refine blk_alloc ?_ _)); refine blk_far ?_ NB410_415.out _; (with_reducible repeat (first | refine blk_drewN ?_ _ | refine blk_drew ?_ | refine blk_alloc ?_ _)); exact BK410.out) hb); have n1_ := Aside0.mk (blk_below (g := gb415) (o := .cells #[.bool t411, .bool t412, .int .i64 t413, .bool t414] 44 (0, 0)) (by (with_reducible repeat (first | refine blk_drewN ?_ _ | refine blk_drew ?_ | refine blk_alloc ?_ _)); refine blk_put (cs := #[.bool t411, .bool t412, .int .i64 t413, .bool false]) ?_ 3 _ rfl; (with_reducible repeat (first | refine blk_drewN ?_ _ | refine blk_drew ?_ | refine blk_alloc ?_ _)); refine blk_put (cs := #[.bool t411, .bool t412, .int .i64 0, .bool false]) ?_ 2 _ rfl; (with_reducible repeat (first | refine blk_drewN ?_ _ | refine blk_drew ?_ | refine blk_alloc ?_ _)); refine blk_put (cs := #[.bool t411, .bool false, .int .i64 0, .bool false]) ?_ 1 _ rfl; (with_reducible repeat (first | refine blk_drewN ?_ _ | refine blk_drew ?_ | refine blk_alloc ?_ _)); refine blk_put (cs := #[.bool false, .bool false, .int .i64 0, .bool false]) ?_ 0 _ rfl; (with_reducible repeat (first | refine blk_drewN ?_ _ | refine blk_drew ?_ | refine blk_alloc ?_ _)); exact BK415.out) hb); have n2_ := Aside0.mk (below_step (by repeat (first | (with_reducible first | exact HB.out | apply below_alloc | apply pw_below_drewN | apply below_drew1 | refine below_set ?_ GE410.out | refine below_set ?_ GE415.out) | exact HB.out)) hb); clear BK410; clear BK415; clear HB; have BK410 := n0_; have BK415 := n1_; have HB := n2_; clear n0_ n1_ n2_; (try clear hb); (try clear hb2); (try clear hk); (try clear hi)) | ((with_reducible refine gate_dst (N := 10) rfl ?_); refine box_event ?hg (N := 10) ?hd (cs := #[.bool false, .bool false, .int .i64 0, .bool false]) (t := 44) ?hr ?_; (case hd => rfl); (case hg => rfl); (case hr => first | (go_simp; done) | (go_simp; rfl)); intro gb420 hg w21 hbox hb; have n0_ := Aside0.mk (blk_below (g := gb410) (o := .cells #[.bool t411, .bool t412, .int .i64 t413, .bool t414] 44 (0, 0)) (by (with_reducible repeat (first | refine blk_drewN ?_ _ | refine blk_drew ?_ | refine blk_alloc ?_ _)); exact BK410.out) hb); have n1_ := Aside0.mk (blk_below (g := gb415) (o := .cells #[.bool t411, .bool t412, .int .i64 t413, .bool t414] 44 (0, 0)) (by (with_reducible repeat (first | refine blk_drewN ?_ _ | refine blk_drew ?_ | refine blk_alloc ?_ _)); exact BK415.out) hb); have n2_ := Aside0.mk (below_step (by repeat (first | (with_reducible first | exact HB.out | apply below_alloc | apply pw_below_drewN | apply below_drew1 | refine below_set ?_ GE410.out | refine below_set ?_ GE415.out) | exact HB.out)) hb); have n3_ := Aside0.mk (hbox); have n4_ := Aside0.mk ((by rw [hg]; exact (below_size (by repeat (first | (with_reducible first | exact HB.out | apply below_alloc | apply pw_below_drewN | apply below_drew1 | refine below_set ?_ GE410.out | refine below_set ?_ GE415.out) | exact HB.out))) : w.heap.size ≤ gb420)); have n5_ := Aside0.mk ((by rw [hg]; exact (below_size (by repeat (first | (with_reducible first | exact HB.out | apply below_alloc | apply pw_below_drewN | apply below_drew1 | refine below_set ?_ GE410.out | refine below_set ?_ GE415.out) | exact HB.out))) : w.heap.size ≤ gb420)); have n6_ := Aside0.mk ((by rw [hg]; exact Nat.ne_of_lt (blk_lt (g := gb410) (o := .cells #[.bool t411, .bool t412, .int .i64 t413, .bool t414] 44 (0, 0)) (by (with_reducible repeat (first | refine blk_drewN ?_ _ | refine blk_drew ?_ | refine blk_alloc ?_ _)); exact BK410.out)) : gb410 ≠ gb420)); have n7_ := Aside0.mk ((by rw [hg]; exact Nat.ne_of_gt (blk_lt (g := gb410) (o := .cells #[.bool t411, .bool t412, .int .i64 t413, .bool t414] 44 (0, 0)) (by (with_reducible repeat (first | refine blk_drewN ?_ _ | refine blk_drew ?_ | refine blk_alloc ?_ _)); exact BK410.out)) : gb420 ≠ gb410)); have n8_ := Aside0.mk ((by rw [hg]; exact Nat.ne_of_lt (blk_lt (g := gb415) (o := .cells #[.bool t411, .bool t412, .int .i64 t413, .bool t414] 44 (0, 0)) (by (with_reducible repeat (first | refine blk_drewN ?_ _ | refine blk_drew ?_ | refine blk_alloc ?_ _)); exact BK415.out)) : gb415 ≠ gb420)); have n9_ := Aside0.mk ((by rw [hg]; exact Nat.ne_of_gt (blk_lt (g := gb415) (o := .cells #[.bool t411, .bool t412, .int .i64 t413, .bool t414] 44 (0, 0)) (by (with_reducible repeat (first | refine blk_drewN ?_ _ | refine blk_drew ?_ | refine blk_alloc ?_ _)); exact BK415.out)) : gb420 ≠ gb415)); clear BK410; clear BK415; clear HB; have BK410 := n0_; have BK415 := n1_; have HB := n2_; have BK420 := n3_; have GW420 := n4_; have GE420 := n5_; have NB410_420 := n6_; have NB420_410 := n7_; have NB415_420 := n8_; have NB420_415 := n9_; clear n0_ n1_ n2_ n3_ n4_ n5_ n6_ n7_ n8_ n9_; clear hb hbox hg; have hnb22 := NB420_410.out; have hnc22 := NB410_420.out; have hnb23 := NB420_415.out; have hnc23 := NB415_420.out; have hcz24_0 : w21.cell? ⟨gb420, 0, none⟩ = some (.bool false) := (blk_cell BK420.out 0).trans rfl; have hcz24_1 : w21.cell? ⟨gb420, 1, none⟩ = some (.bool false) := (blk_cell BK420.out 1).trans rfl; have hcz24_2 : w21.cell? ⟨gb420, 2, none⟩ = some (.int .i64 0) := (blk_cell BK420.out 2).trans rfl; have hcz24_3 : w21.cell? ⟨gb420, 3, none⟩ = some (.bool false) := (blk_cell BK420.out 3).trans rfl; have hfz24_0 := blk_frozen BK420.out 0; have hfz24_1 := blk_frozen BK420.out 1; have hfz24_2 := blk_frozen BK420.out 2; have hfz24_3 := blk_frozen BK420.out 3))
    go_loopg [11] k (fun kq v11 w' => ∃ (x11_1 : Int) (x411000_1 : Bool) (x411001_1 : Bool) (x411002_1 : Int) (x411003_1 : Bool) (x416000_1 : Bool) (x416001_1 : Bool) (x416002_1 : Int) (x416003_1 : Bool) (x421000_1 : Bool) (x421001_1 : Bool) (x421002_1 : Int) (x421003_1 : Bool), v11 = .int .i64 x11_1 ∧ Aside0 (ambidexterlaw26_DualchannelAgreement.l0 kq l2 true x11_1 x411000_1 x411001_1 x411002_1 x411003_1 x416000_1 x416001_1 x416002_1 x416003_1 x421000_1 x421001_1 x421002_1 x421003_1 = some r) ∧ Aside0 (kq ≤ k) ∧ Aside0 (w'.heap[gb410]? = some (.cells #[.bool x411000_1, .bool x411001_1, .int .i64 x411002_1, .bool x411003_1] 44 (0, 0))) ∧ Aside0 (w'.heap[gb415]? = some (.cells #[.bool x416000_1, .bool x416001_1, .int .i64 x416002_1, .bool x416003_1] 44 (0, 0))) ∧ Aside0 (w'.heap[gb420]? = some (.cells #[.bool x421000_1, .bool x421001_1, .int .i64 x421002_1, .bool x421003_1] 44 (0, 0))) ∧ Aside0 (Below w.heap.size w w'))
    case atStart => exact ⟨(0), (t411), (t412), (t413), (t414), (t411), (t412), (t413), (t414), (t416), (t417), (t418), (t419), (by first | rfl | (simp; done) | (simp [*]; done)), H', ⟨Nat.le_refl _⟩, ⟨by (with_reducible repeat (first | refine blk_drewN ?_ _ | refine blk_drew ?_ | refine blk_alloc ?_ _)); refine blk_far ?_ NB410_420.out _; (with_reducible repeat (first | refine blk_drewN ?_ _ | refine blk_drew ?_ | refine blk_alloc ?_ _)); refine blk_far ?_ NB410_420.out _; (with_reducible repeat (first | refine blk_drewN ?_ _ | refine blk_drew ?_ | refine blk_alloc ?_ _)); refine blk_far ?_ NB410_420.out _; (with_reducible repeat (first | refine blk_drewN ?_ _ | refine blk_drew ?_ | refine blk_alloc ?_ _)); refine blk_far ?_ NB410_420.out _; (with_reducible repeat (first | refine blk_drewN ?_ _ | refine blk_drew ?_ | refine blk_alloc ?_ _)); exact BK410.out⟩, ⟨by (with_reducible repeat (first | refine blk_drewN ?_ _ | refine blk_drew ?_ | refine blk_alloc ?_ _)); refine blk_far ?_ NB415_420.out _; (with_reducible repeat (first | refine blk_drewN ?_ _ | refine blk_drew ?_ | refine blk_alloc ?_ _)); refine blk_far ?_ NB415_420.out _; (with_reducible repeat (first | refine blk_drewN ?_ _ | refine blk_drew ?_ | refine blk_alloc ?_ _)); refine blk_far ?_ NB415_420.out _; (with_reducible repeat (first | refine blk_drewN ?_ _ | refine blk_drew ?_ | refine blk_alloc ?_ _)); refine blk_far ?_ NB415_420.out _; (with_reducible repeat (first | refine blk_drewN ?_ _ | refine blk_drew ?_ | refine blk_alloc ?_ _)); exact BK415.out⟩, ⟨by (with_reducible repeat (first | refine blk_drewN ?_ _ | refine blk_drew ?_ | refine blk_alloc ?_ _)); refine blk_put (cs := #[.bool t416, .bool t417, .int .i64 t418, .bool false]) ?_ 3 _ rfl; (with_reducible repeat (first | refine blk_drewN ?_ _ | refine blk_drew ?_ | refine blk_alloc ?_ _)); refine blk_put (cs := #[.bool t416, .bool t417, .int .i64 0, .bool false]) ?_ 2 _ rfl; (with_reducible repeat (first | refine blk_drewN ?_ _ | refine blk_drew ?_ | refine blk_alloc ?_ _)); refine blk_put (cs := #[.bool t416, .bool false, .int .i64 0, .bool false]) ?_ 1 _ rfl; (with_reducible repeat (first | refine blk_drewN ?_ _ | refine blk_drew ?_ | refine blk_alloc ?_ _)); refine blk_put (cs := #[.bool false, .bool false, .int .i64 0, .bool false]) ?_ 0 _ rfl; (with_reducible repeat (first | refine blk_drewN ?_ _ | refine blk_drew ?_ | refine blk_alloc ?_ _)); exact BK420.out⟩, ⟨by repeat (first | (with_reducible first | exact HB.out | apply below_alloc | apply pw_below_drewN | apply below_drew1 | refine below_set ?_ GE410.out | refine below_set ?_ GE415.out | refine below_set ?_ GE420.out) | exact HB.out)⟩⟩
    case round =>
      clear H'
      try clear c1
      try clear c2
      try clear p2
      try clear c3
      try clear c7
      try clear c7b0
      try clear c14
      try clear c18
      try clear c22
      try clear c23
      try clear hcz14_0
      try clear hcz14_1
      try clear hcz14_2
      try clear hcz14_3
      try clear hcz16_0
      try clear hcz16_1
      try clear hcz16_2
      try clear hcz16_3
      try clear hcz19_0
      try clear hcz19_1
      try clear hcz19_2
      try clear hcz19_3
      try clear hcz24_0
      try clear hcz24_1
      try clear hcz24_2
      try clear hcz24_3
      try clear hfz14_0
      try clear hfz14_1
      try clear hfz14_2
      try clear hfz14_3
      try clear hfz16_0
      try clear hfz16_1
      try clear hfz16_2
      try clear hfz16_3
      try clear hfz19_0
      try clear hfz19_1
      try clear hfz19_2
      try clear hfz19_3
      try clear hfz24_0
      try clear hfz24_1
      try clear hfz24_2
      try clear hfz24_3
      obtain ⟨x11_1, x411000_1, x411001_1, x411002_1, x411003_1, x416000_1, x416001_1, x416002_1, x416003_1, x421000_1, x421001_1, x421002_1, x421003_1, rfl, HA, HK1, BK410, BK415, BK420, HB⟩ := hrel
      cases gk with
      | zero => exact absurd HA.out (by simp [ambidexterlaw26_DualchannelAgreement.l0])
      | succ k1 =>
        have H := HA.out
        clear HA
        simp only [ambidexterlaw26_DualchannelAgreement.l0] at H
        have HC25 := Aside0.mk H
        clear H
        go_upto_region 9 with (fail)
        go_cut [41] (fun v41 wc => ∃ (kq : Nat) (x41_24 : Bool), v41 = .bool x41_24 ∧ Aside0 (ambidexterlaw26_DualchannelAgreement.j1 kq l2 true x11_1 x41_24 x411000_1 x411001_1 x411002_1 x411003_1 x416000_1 x416001_1 x416002_1 x416003_1 x421000_1 x421001_1 x421002_1 x421003_1 = some r) ∧ Aside0 (kq ≤ k1) ∧ Aside0 (wc.heap[gb410]? = some (.cells #[.bool x411000_1, .bool x411001_1, .int .i64 x411002_1, .bool x411003_1] 44 (0, 0))) ∧ Aside0 (wc.heap[gb415]? = some (.cells #[.bool x416000_1, .bool x416001_1, .int .i64 x416002_1, .bool x416003_1] 44 (0, 0))) ∧ Aside0 (wc.heap[gb420]? = some (.cells #[.bool x421000_1, .bool x421001_1, .int .i64 x421002_1, .bool x421003_1] 44 (0, 0))) ∧ Aside0 (Below w.heap.size w wc))
        case first =>
          have H := HC25.out
          clear HC25
          by_cases c26 : x11_1 < (l2.length : Int)
          · rw [if_pos c26] at H
            have c26b0 : decide (x11_1 < (l2.length : Int)) = true := decide_eq_true c26
            clear c26
            (first | rw [c26b0] | (simp only [i64_w, i32_w]; rw [c26b0]) | skip)
            have H' := Aside0.mk H
            clear H
            go_wp2
            go_meet
            case rel => exact ⟨_, (decide (x11_1 < 300)), (by first | rfl | (simp; done) | (simp [*]; done)), H', ⟨by have := HK1.out; first | omega | exact Nat.le_refl _⟩, ⟨by (with_reducible repeat (first | refine blk_drewN ?_ _ | refine blk_drew ?_ | refine blk_alloc ?_ _)); exact BK410.out⟩, ⟨by (with_reducible repeat (first | refine blk_drewN ?_ _ | refine blk_drew ?_ | refine blk_alloc ?_ _)); exact BK415.out⟩, ⟨by (with_reducible repeat (first | refine blk_drewN ?_ _ | refine blk_drew ?_ | refine blk_alloc ?_ _)); exact BK420.out⟩, ⟨by repeat (first | (with_reducible first | exact HB.out | apply below_alloc | apply pw_below_drewN | apply below_drew1 | refine below_set ?_ GE410.out | refine below_set ?_ GE415.out | refine below_set ?_ GE420.out) | exact HB.out)⟩⟩
          · rw [if_neg c26] at H
            have c26b0 : decide (x11_1 < (l2.length : Int)) = false := decide_eq_false c26
            clear c26
            (first | rw [c26b0] | (simp only [i64_w, i32_w]; rw [c26b0]) | skip)
            have H' := Aside0.mk H
            clear H
            go_wp2
            go_meet
            case rel => exact ⟨_, (false), (by first | rfl | (simp; done) | (simp [*]; done)), H', ⟨by have := HK1.out; first | omega | exact Nat.le_refl _⟩, ⟨by (with_reducible repeat (first | refine blk_drewN ?_ _ | refine blk_drew ?_ | refine blk_alloc ?_ _)); exact BK410.out⟩, ⟨by (with_reducible repeat (first | refine blk_drewN ?_ _ | refine blk_drew ?_ | refine blk_alloc ?_ _)); exact BK415.out⟩, ⟨by (with_reducible repeat (first | refine blk_drewN ?_ _ | refine blk_drew ?_ | refine blk_alloc ?_ _)); exact BK420.out⟩, ⟨by repeat (first | (with_reducible first | exact HB.out | apply below_alloc | apply pw_below_drewN | apply below_drew1 | refine below_set ?_ GE410.out | refine below_set ?_ GE415.out | refine below_set ?_ GE420.out) | exact HB.out)⟩⟩
        case rest =>
          clear HC25
          try clear c1
          try clear c2
          try clear p2
          try clear c3
          try clear c7
          try clear c7b0
          try clear c14
          try clear c18
          try clear c22
          try clear c23
          try clear c26
          try clear c26b0
          try clear hcz14_0
          try clear hcz14_1
          try clear hcz14_2
          try clear hcz14_3
          try clear hcz16_0
          try clear hcz16_1
          try clear hcz16_2
          try clear hcz16_3
          try clear hcz19_0
          try clear hcz19_1
          try clear hcz19_2
          try clear hcz19_3
          try clear hcz24_0
          try clear hcz24_1
          try clear hcz24_2
          try clear hcz24_3
          try clear hfz14_0
          try clear hfz14_1
          try clear hfz14_2
          try clear hfz14_3
          try clear hfz16_0
          try clear hfz16_1
          try clear hfz16_2
          try clear hfz16_3
          try clear hfz19_0
          try clear hfz19_1
          try clear hfz19_2
          try clear hfz19_3
          try clear hfz24_0
          try clear hfz24_1
          try clear hfz24_2
          try clear hfz24_3
          try clear p2
          obtain ⟨kq, x41_24, rfl, HA, HJ24, BK410, BK415, BK420, HB⟩ := hcut
          cases kq with
          | zero => exact absurd HA.out (by simp [ambidexterlaw26_DualchannelAgreement.j1])
          | succ kj24 =>
            have H := HA.out
            clear HA
            simp only [ambidexterlaw26_DualchannelAgreement.j1] at H
            by_cases c27 : x41_24 = true
            · subst c27
              have H1 : (if 0 ≤ x11_1 then (if x11_1 < (l2.length : Int) then ((ambidexterlaw26_step.f x416000_1 x416001_1 x416002_1 x416003_1 ((rd_T47 l2 x11_1).f0) ((rd_T47 l2 x11_1).f1) ((rd_T47 l2 x11_1).f2)).bind fun bt422 => ((ambidexterlaw26_step.f x421000_1 x421001_1 x421002_1 x421003_1 ((rd_T47 l2 x11_1).f0) ((rd_T47 l2 x11_1).f1) ((rd_T47 l2 x11_1).f2)).bind fun bt427 => (if (!(bt422.1 == bt427.1) || (!(bt422.2.1 == bt427.2.1) || (!(bt422.2.2.1 == bt427.2.2.1) || (!(bt422.2.2.2 == bt427.2.2.2))))) = true then (some false) else (if (Int.tmod x11_1 4) = 3 then ((dualchannel_Observe.f x411000_1 x411001_1 x411002_1 x411003_1 ((rd_T47 l2 x11_1).f1) ((rd_T47 l2 x11_1).f1)).bind fun bt433 => (if bt433.2.2.2 = true then (some false) else (ambidexterlaw26_DualchannelAgreement.l0 kj24 l2 true (wrap64 (x11_1 + 1)) bt433.1 bt433.2.1 bt433.2.2.1 bt433.2.2.2 bt422.1 bt422.2.1 bt422.2.2.1 bt422.2.2.2 bt427.1 bt427.2.1 bt427.2.2.1 bt427.2.2.2))) else ((dualchannel_Observe.f x411000_1 x411001_1 x411002_1 x411003_1 ((rd_T47 l2 x11_1).f1) ((rd_T47 l2 x11_1).f2)).bind fun bt437 => (if bt437.2.2.2 = true then (some false) else (ambidexterlaw26_DualchannelAgreement.l0 kj24 l2 true (wrap64 (x11_1 + 1)) bt437.1 bt437.2.1 bt437.2.2.1 bt437.2.2.2 bt422.1 bt422.2.1 bt422.2.2.1 bt422.2.2.2 bt427.1 bt427.2.1 bt427.2.2.1 bt427.2.2.2))))))) else (none)) else (none)) = some r := by rw [if_pos rfl] at H; exact H
              clear H
              have H := H1
              clear H1
              by_cases c28 : 0 ≤ x11_1
              · rw [if_pos c28] at H
                have c28b0 : decide (0 ≤ x11_1) = true := decide_eq_true c28
                clear c28
                by_cases c29 : x11_1 < (l2.length : Int)
                · rw [if_pos c29] at H
                  have c29b0 : decide (x11_1 < (l2.length : Int)) = true := decide_eq_true c29
                  clear c29
                  replace H := Option.bind_eq_some_iff.mp H
                  obtain ⟨⟨t422, t423, t424, t425⟩, A300, H⟩ := H
                  replace H : ((ambidexterlaw26_step.f x421000_1 x421001_1 x421002_1 x421003_1 ((rd_T47 l2 x11_1).f0) ((rd_T47 l2 x11_1).f1) ((rd_T47 l2 x11_1).f2)).bind fun bt427 => (if (!(t422 == bt427.1) || (!(t423 == bt427.2.1) || (!(t424 == bt427.2.2.1) || (!(t425 == bt427.2.2.2))))) = true then (some false) else (if (Int.tmod x11_1 4) = 3 then ((dualchannel_Observe.f x411000_1 x411001_1 x411002_1 x411003_1 ((rd_T47 l2 x11_1).f1) ((rd_T47 l2 x11_1).f1)).bind fun bt433 => (if bt433.2.2.2 = true then (some false) else (ambidexterlaw26_DualchannelAgreement.l0 kj24 l2 true (wrap64 (x11_1 + 1)) bt433.1 bt433.2.1 bt433.2.2.1 bt433.2.2.2 t422 t423 t424 t425 bt427.1 bt427.2.1 bt427.2.2.1 bt427.2.2.2))) else ((dualchannel_Observe.f x411000_1 x411001_1 x411002_1 x411003_1 ((rd_T47 l2 x11_1).f1) ((rd_T47 l2 x11_1).f2)).bind fun bt437 => (if bt437.2.2.2 = true then (some false) else (ambidexterlaw26_DualchannelAgreement.l0 kj24 l2 true (wrap64 (x11_1 + 1)) bt437.1 bt437.2.1 bt437.2.2.1 bt437.2.2.2 t422 t423 t424 t425 bt427.1 bt427.2.1 bt427.2.2.1 bt427.2.2.2)))))) = some r := H
                  have A30 := Aside0.mk A300
                  clear A300
                  replace H := Option.bind_eq_some_iff.mp H
                  obtain ⟨⟨t427, t428, t429, t430⟩, A310, H⟩ := H
                  replace H : (if (!(t422 == t427) || (!(t423 == t428) || (!(t424 == t429) || (!(t425 == t430))))) = true then (some false) else (if (Int.tmod x11_1 4) = 3 then ((dualchannel_Observe.f x411000_1 x411001_1 x411002_1 x411003_1 ((rd_T47 l2 x11_1).f1) ((rd_T47 l2 x11_1).f1)).bind fun bt433 => (if bt433.2.2.2 = true then (some false) else (ambidexterlaw26_DualchannelAgreement.l0 kj24 l2 true (wrap64 (x11_1 + 1)) bt433.1 bt433.2.1 bt433.2.2.1 bt433.2.2.2 t422 t423 t424 t425 t427 t428 t429 t430))) else ((dualchannel_Observe.f x411000_1 x411001_1 x411002_1 x411003_1 ((rd_T47 l2 x11_1).f1) ((rd_T47 l2 x11_1).f2)).bind fun bt437 => (if bt437.2.2.2 = true then (some false) else (ambidexterlaw26_DualchannelAgreement.l0 kj24 l2 true (wrap64 (x11_1 + 1)) bt437.1 bt437.2.1 bt437.2.2.1 bt437.2.2.2 t422 t423 t424 t425 t427 t428 t429 t430))))) = some r := H
                  have A31 := Aside0.mk A310
                  clear A310
                  by_cases c32 : (!(t422 == t427) || (!(t423 == t428) || (!(t424 == t429) || (!(t425 == t430))))) = true
                  · rw [if_pos c32] at H
                    have c32b0 : (!(t422 == t427) || (!(t423 == t428) || (!(t424 == t429) || (!(t425 == t430))))) = true := c32
                    clear c32
                    exact absurd HT.out (by rw [← Option.some.inj H]; decide)
                  · rw [if_neg c32] at H
                    have c32b0 : (!(t422 == t427) || (!(t423 == t428) || (!(t424 == t429) || (!(t425 == t430))))) = false := by simpa using c32
                    clear c32
                    by_cases c33 : (Int.tmod x11_1 4) = 3
                    · rw [if_pos c33] at H
                      have c33b0 : ((Int.tmod x11_1 4) == 3) = true := beq_iff_eq.mpr c33
                      have c33b1 : ((Int.tmod x11_1 4) != 3) = false := bne_eq_false_iff_eq.mpr c33
                      clear c33
                      replace H := Option.bind_eq_some_iff.mp H
                      obtain ⟨⟨t433, t434, t435, t436⟩, A340, H⟩ := H
                      replace H : (if t436 = true then (some false) else (ambidexterlaw26_DualchannelAgreement.l0 kj24 l2 true (wrap64 (x11_1 + 1)) t433 t434 t435 t436 t422 t423 t424 t425 t427 t428 t429 t430)) = some r := H
                      have A34 := Aside0.mk A340
                      clear A340
                      by_cases c35 : t436 = true
                      · subst c35
                        have H1 : (some false) = some r := by rw [if_pos rfl] at H; exact H
                        clear H
                        have H := H1
                        clear H1
                        exact absurd HT.out (by rw [← Option.some.inj H]; decide)
                      · replace c35 := Bool.eq_false_iff.mpr c35
                        subst c35
                        have H1 : (ambidexterlaw26_DualchannelAgreement.l0 kj24 l2 true (wrap64 (x11_1 + 1)) t433 t434 t435 false t422 t423 t424 t425 t427 t428 t429 t430) = some r := by rw [if_neg (show ¬ (false = true) by decide)] at H; exact H
                        clear H
                        have H := H1
                        clear H1
                        have H' := Aside0.mk H
                        clear H
                        try go_wp2
                        have n0_ := Aside0.mk (blk_drew BK410.out)
                        have n1_ := Aside0.mk (blk_drew BK415.out)
                        have n2_ := Aside0.mk (blk_drew BK420.out)
                        have n3_ := Aside0.mk (below_drew1 HB.out)
                        clear BK410
                        clear BK415
                        clear BK420
                        clear HB
                        have BK410 := n0_
                        have BK415 := n1_
                        have BK420 := n2_
                        have HB := n3_
                        clear n0_ n1_ n2_ n3_
                        have p421 : 0 ≤ (x11_1 : Int) := of_decide_eq_true (by first | (with_reducible assumption) | assumption)
                        have q421 : x11_1 < (l2.length : Int) := of_decide_eq_true (by first | (with_reducible assumption) | assumption)
                        obtain ⟨ad421, e421, hx421_0, hx421_1, hx421_2⟩ := at_T47 HR2.out x11_1 p421 q421
                        have hw421_2 := hx421_2
                        have hw421_1 := hx421_1
                        have hw421_0 := hx421_0
                        cases e421
                        replace hx421_0 := (HB.out.cell (World.block_lt_of_cell? w _ hx421_0)).trans hx421_0
                        replace hx421_1 := (HB.out.cell (World.block_lt_of_cell? w _ hx421_1)).trans hx421_1
                        replace hx421_2 := (HB.out.cell (World.block_lt_of_cell? w _ hx421_2)).trans hx421_2
                        replace p421 := eq_true p421
                        replace q421 := eq_true q421
                        refine start_ (n := 7) (S := fun w' => w'.cell? ⟨gb415, 0, none⟩ = some (.bool x416000_1) ∧ w'.cell? ⟨gb415, 1, none⟩ = some (.bool x416001_1) ∧ w'.cell? ⟨gb415, 2, none⟩ = some (.int .i64 x416002_1) ∧ w'.cell? ⟨gb415, 3, none⟩ = some (.bool x416003_1) ∧ w'.cell? (ad421.add ((x11_1).toNat * 3)) = some (.int .u8 ((rd_T47 l2 x11_1).f0)) ∧ w'.cell? ⟨(ad421.add ((x11_1).toNat * 3)).block, (ad421.add ((x11_1).toNat * 3)).off + 1, none⟩ = some (.bool ((rd_T47 l2 x11_1).f1)) ∧ w'.cell? ⟨(ad421.add ((x11_1).toNat * 3)).block, (ad421.add ((x11_1).toNat * 3)).off + 2, none⟩ = some (.bool ((rd_T47 l2 x11_1).f2))) (ds := [6]) #[false, false, false, false, false, false, false] (by kernel_rfl) rfl rfl ⟨(blk_cell BK415.out 0).trans rfl, (blk_cell BK415.out 1).trans rfl, (blk_cell BK415.out 2).trans rfl, (blk_cell BK415.out 3).trans rfl, ((HB.out.cell (World.block_lt_of_cell? w _ hw421_0)).trans hw421_0), ((HB.out.cell (World.block_lt_of_cell? w _ hw421_1)).trans hw421_1), ((HB.out.cell (World.block_lt_of_cell? w _ hw421_2)).trans hw421_2)⟩ (fun hHeld => ?_)
                        generalize wc.drew = w36 at BK410 BK415 BK420 HB hx421_0 hx421_1 hx421_2 hHeld ⊢
                        refine pure_ (i := 1) (N := some 45) (v := ?_) (a' := ?_) #[false, true, false, false, false, false, false] rfl rfl (by kernel_rfl) (fun _ _ _ h => h) (Or.inl ⟨by rfl, ?_⟩) ?_ ?_
                        rotate_left
                        · intro w'
                          go_simp
                          with_reducible rfl
                        rotate_left
                        · simp only [Act.put, List.setIfInBounds_toArray, List.set_cons_zero, List.set_cons_succ, i64_w, i32_w]
                          rfl
                        refine pure_ (i := 2) (N := some 46) (v := ?_) (a' := ?_) #[false, true, true, false, false, false, false] rfl rfl (by kernel_rfl) (fun _ _ _ h => h) (Or.inl ⟨by rfl, ?_⟩) ?_ ?_
                        rotate_left
                        · intro w'
                          go_simp
                          with_reducible rfl
                        rotate_left
                        · simp only [Act.put, List.setIfInBounds_toArray, List.set_cons_zero, List.set_cons_succ, i64_w, i32_w]
                          rfl
                        refine pure_ (i := 3) (N := some 47) (v := ?_) (a' := ?_) #[false, true, true, true, false, false, false] rfl rfl (by kernel_rfl) (fun _ _ _ h => h) (Or.inl ⟨by rfl, ?_⟩) ?_ ?_
                        rotate_left
                        · intro w'
                          go_simp
                          with_reducible rfl
                        rotate_left
                        · simp only [Act.put, List.setIfInBounds_toArray, List.set_cons_zero, List.set_cons_succ, i64_w, i32_w]
                          rfl
                        refine take_ (i := 0) (N := some 44) (v := ?_) (a' := ?_) #[true, true, true, true, false, false, false] rfl rfl (by kernel_rfl) (fun _ _ _ h => h) (Or.inl ⟨by rfl, ?_⟩) hHeld ?_ ?_
                        rotate_left
                        · rintro w' ⟨s0, s1, s2, s3, s4, s5, s6⟩
                          go_simp
                          with_reducible rfl
                        rotate_left
                        · simp only [Act.put, List.setIfInBounds_toArray, List.set_cons_zero, List.set_cons_succ, i64_w, i32_w]
                          rfl
                        refine take_ (i := 4) (N := some 48) (v := ?_) (a' := ?_) #[true, true, true, true, true, false, false] rfl rfl (by kernel_rfl) (fun _ _ _ h => h) (Or.inl ⟨by rfl, ?_⟩) hHeld ?_ ?_
                        rotate_left
                        · rintro w' ⟨s0, s1, s2, s3, s4, s5, s6⟩
                          go_simp
                          with_reducible rfl
                        rotate_left
                        · simp only [Act.put, List.setIfInBounds_toArray, List.set_cons_zero, List.set_cons_succ, i64_w, i32_w]
                          rfl
                        refine one_ (i := 5) (N := some 49) #[true, true, true, true, true, true, false] rfl rfl (by kernel_rfl) (by decide) (fun K hK => ?_)
                        refine goes_ Try.func28 (by kernel_rfl) rfl #[.agg #[.bool x416000_1, .bool x416001_1, .int .i64 x416002_1, .bool x416003_1], .agg #[.int .u8 ((rd_T47 l2 x11_1).f0), .bool ((rd_T47 l2 x11_1).f1), .bool ((rd_T47 l2 x11_1).f2)]] (by rfl) rfl rfl (by (try simp only [List.map_toArray, List.map_cons, List.map_nil]); first | done | rfl | (simp only [List.length_drop, List.length_take]; rfl)) ?_
                        with_reducible refine (ambidexterlaw26_step.calls x416000_1 x416001_1 x416002_1 x416003_1 ((rd_T47 l2 x11_1).f0) ((rd_T47 l2 x11_1).f1) ((rd_T47 l2 x11_1).f2) t422 t423 t424 t425 _ A30.out).mono ?_
                        rintro e w37 ⟨rfl, hb⟩
                        refine ⟨_, rfl, ?_⟩
                        have n0_ := Aside0.mk (blk_below (g := gb410) (o := .cells #[.bool x411000_1, .bool x411001_1, .int .i64 x411002_1, .bool x411003_1] 44 (0, 0)) (by (with_reducible repeat (first | refine blk_drewN ?_ _ | refine blk_drew ?_ | refine blk_alloc ?_ _)); exact BK410.out) hb)
                        have n1_ := Aside0.mk (blk_below (g := gb415) (o := .cells #[.bool x416000_1, .bool x416001_1, .int .i64 x416002_1, .bool x416003_1] 44 (0, 0)) (by (with_reducible repeat (first | refine blk_drewN ?_ _ | refine blk_drew ?_ | refine blk_alloc ?_ _)); exact BK415.out) hb)
                        have n2_ := Aside0.mk (blk_below (g := gb420) (o := .cells #[.bool x421000_1, .bool x421001_1, .int .i64 x421002_1, .bool x421003_1] 44 (0, 0)) (by (with_reducible repeat (first | refine blk_drewN ?_ _ | refine blk_drew ?_ | refine blk_alloc ?_ _)); exact BK420.out) hb)
                        have n3_ := Aside0.mk (below_step (by repeat (first | (with_reducible first | exact HB.out | apply below_alloc | apply pw_below_drewN | apply below_drew1 | refine below_set ?_ GE410.out | refine below_set ?_ GE415.out | refine below_set ?_ GE420.out) | exact HB.out)) hb)
                        clear BK410
                        clear BK415
                        clear BK420
                        clear HB
                        have BK410 := n0_
                        have BK415 := n1_
                        have BK420 := n2_
                        have HB := n3_
                        clear n0_ n1_ n2_ n3_
                        (try clear hb)
                        (try clear hb2)
                        (try clear hk)
                        (try clear hi)
                        refine hK.out _ _ ⟨(blk_cell BK415.out 0).trans rfl, (blk_cell BK415.out 1).trans rfl, (blk_cell BK415.out 2).trans rfl, (blk_cell BK415.out 3).trans rfl, ((HB.out.cell (World.block_lt_of_cell? w _ hw421_0)).trans hw421_0), ((HB.out.cell (World.block_lt_of_cell? w _ hw421_1)).trans hw421_1), ((HB.out.cell (World.block_lt_of_cell? w _ hw421_2)).trans hw421_2)⟩ (fun hHeld => ?_)
                        clear hK K
                        refine norm_ (a' := ?_) ?_ ?_
                        rotate_left
                        · show Act.put _ (some 49) _ = _
                          simp only [Act.put, List.setIfInBounds_toArray, List.set_cons_zero, List.set_cons_succ, i64_w, i32_w]
                          rfl
                        refine last_ (i := 6) (N := none) #[true, true, true, true, true, true, true] rfl rfl (by kernel_rfl) (by decide) (fun K hK => ?_)
                        have hs38 : w37.cell? ⟨gb415, 0, none⟩ = some (.bool x416000_1) := (blk_cell BK415.out 0).trans rfl
                        have hfs38 := blk_frozen BK415.out 0
                        have hns38_0 := NB410_415.out
                        have hns38_2 := NB420_415.out
                        have hms38_0 := NB415_410.out
                        have hms38_2 := NB415_420.out
                        have hs39 : w37.cell? ⟨gb415, 1, none⟩ = some (.bool x416001_1) := (blk_cell BK415.out 1).trans rfl
                        have hfs39 := blk_frozen BK415.out 1
                        have hns39_0 := NB410_415.out
                        have hns39_2 := NB420_415.out
                        have hms39_0 := NB415_410.out
                        have hms39_2 := NB415_420.out
                        have hs40 : w37.cell? ⟨gb415, 2, none⟩ = some (.int .i64 x416002_1) := (blk_cell BK415.out 2).trans rfl
                        have hfs40 := blk_frozen BK415.out 2
                        have hns40_0 := NB410_415.out
                        have hns40_2 := NB420_415.out
                        have hms40_0 := NB415_410.out
                        have hms40_2 := NB415_420.out
                        have hs41 : w37.cell? ⟨gb415, 3, none⟩ = some (.bool x416003_1) := (blk_cell BK415.out 3).trans rfl
                        have hfs41 := blk_frozen BK415.out 3
                        have hns41_0 := NB410_415.out
                        have hns41_2 := NB420_415.out
                        have hms41_0 := NB415_410.out
                        have hms41_2 := NB415_420.out
                        refine skip_ (w1 := ?_) (by rfl) rfl ?_ ?_
                        rotate_left
                        · go_simp
                          rfl
                        refine hK.out _ _ ?_
                        clear hK K
                        refine done_ (by kernel_rfl) ?_
                        try go_wp2
                        have n0_ : Aside0 (((((w37.setCell ⟨gb415, 0, none⟩ (.bool t422)).setCell ⟨gb415, 1, none⟩ (.bool t423)).setCell ⟨gb415, 2, none⟩ (.int .i64 t424)).setCell ⟨gb415, 3, none⟩ (.bool t425)).heap[gb410]? = some (.cells #[.bool x411000_1, .bool x411001_1, .int .i64 x411002_1, .bool x411003_1] 44 (0, 0))) := ⟨by (with_reducible repeat (first | refine blk_drewN ?_ _ | refine blk_drew ?_ | refine blk_alloc ?_ _)); refine blk_far ?_ NB410_415.out _; (with_reducible repeat (first | refine blk_drewN ?_ _ | refine blk_drew ?_ | refine blk_alloc ?_ _)); refine blk_far ?_ NB410_415.out _; (with_reducible repeat (first | refine blk_drewN ?_ _ | refine blk_drew ?_ | refine blk_alloc ?_ _)); refine blk_far ?_ NB410_415.out _; (with_reducible repeat (first | refine blk_drewN ?_ _ | refine blk_drew ?_ | refine blk_alloc ?_ _)); refine blk_far ?_ NB410_415.out _; (with_reducible repeat (first | refine blk_drewN ?_ _ | refine blk_drew ?_ | refine blk_alloc ?_ _)); exact BK410.out⟩
                        have n1_ : Aside0 (((((w37.setCell ⟨gb415, 0, none⟩ (.bool t422)).setCell ⟨gb415, 1, none⟩ (.bool t423)).setCell ⟨gb415, 2, none⟩ (.int .i64 t424)).setCell ⟨gb415, 3, none⟩ (.bool t425)).heap[gb415]? = some (.cells #[.bool t422, .bool t423, .int .i64 t424, .bool t425] 44 (0, 0))) := ⟨by (with_reducible repeat (first | refine blk_drewN ?_ _ | refine blk_drew ?_ | refine blk_alloc ?_ _)); refine blk_put (cs := #[.bool t422, .bool t423, .int .i64 t424, .bool x416003_1]) ?_ 3 _ rfl; (with_reducible repeat (first | refine blk_drewN ?_ _ | refine blk_drew ?_ | refine blk_alloc ?_ _)); refine blk_put (cs := #[.bool t422, .bool t423, .int .i64 x416002_1, .bool x416003_1]) ?_ 2 _ rfl; (with_reducible repeat (first | refine blk_drewN ?_ _ | refine blk_drew ?_ | refine blk_alloc ?_ _)); refine blk_put (cs := #[.bool t422, .bool x416001_1, .int .i64 x416002_1, .bool x416003_1]) ?_ 1 _ rfl; (with_reducible repeat (first | refine blk_drewN ?_ _ | refine blk_drew ?_ | refine blk_alloc ?_ _)); refine blk_put (cs := #[.bool x416000_1, .bool x416001_1, .int .i64 x416002_1, .bool x416003_1]) ?_ 0 _ rfl; (with_reducible repeat (first | refine blk_drewN ?_ _ | refine blk_drew ?_ | refine blk_alloc ?_ _)); exact BK415.out⟩
                        have n2_ : Aside0 (((((w37.setCell ⟨gb415, 0, none⟩ (.bool t422)).setCell ⟨gb415, 1, none⟩ (.bool t423)).setCell ⟨gb415, 2, none⟩ (.int .i64 t424)).setCell ⟨gb415, 3, none⟩ (.bool t425)).heap[gb420]? = some (.cells #[.bool x421000_1, .bool x421001_1, .int .i64 x421002_1, .bool x421003_1] 44 (0, 0))) := ⟨by (with_reducible repeat (first | refine blk_drewN ?_ _ | refine blk_drew ?_ | refine blk_alloc ?_ _)); refine blk_far ?_ NB420_415.out _; (with_reducible repeat (first | refine blk_drewN ?_ _ | refine blk_drew ?_ | refine blk_alloc ?_ _)); refine blk_far ?_ NB420_415.out _; (with_reducible repeat (first | refine blk_drewN ?_ _ | refine blk_drew ?_ | refine blk_alloc ?_ _)); refine blk_far ?_ NB420_415.out _; (with_reducible repeat (first | refine blk_drewN ?_ _ | refine blk_drew ?_ | refine blk_alloc ?_ _)); refine blk_far ?_ NB420_415.out _; (with_reducible repeat (first | refine blk_drewN ?_ _ | refine blk_drew ?_ | refine blk_alloc ?_ _)); exact BK420.out⟩
                        have n3_ : Aside0 (Below w.heap.size w ((((w37.setCell ⟨gb415, 0, none⟩ (.bool t422)).setCell ⟨gb415, 1, none⟩ (.bool t423)).setCell ⟨gb415, 2, none⟩ (.int .i64 t424)).setCell ⟨gb415, 3, none⟩ (.bool t425))) := ⟨by repeat (first | (with_reducible first | exact HB.out | apply below_alloc | apply pw_below_drewN | apply below_drew1 | refine below_set ?_ GE410.out | refine below_set ?_ GE415.out | refine below_set ?_ GE420.out) | exact HB.out)⟩
                        (try clear BK410)
                        (try clear BK415)
                        (try clear BK420)
                        (try clear HB)
                        generalize ((((w37.setCell ⟨gb415, 0, none⟩ (.bool t422)).setCell ⟨gb415, 1, none⟩ (.bool t423)).setCell ⟨gb415, 2, none⟩ (.int .i64 t424)).setCell ⟨gb415, 3, none⟩ (.bool t425)) = w42 at n0_ n1_ n2_ n3_ ⊢
                        have BK410 := n0_
                        have BK415 := n1_
                        have BK420 := n2_
                        have HB := n3_
                        clear n0_ n1_ n2_ n3_
                        have n0_ := Aside0.mk (blk_drew BK410.out)
                        have n1_ := Aside0.mk (blk_drew BK415.out)
                        have n2_ := Aside0.mk (blk_drew BK420.out)
                        have n3_ := Aside0.mk (below_drew1 HB.out)
                        clear BK410
                        clear BK415
                        clear BK420
                        clear HB
                        have BK410 := n0_
                        have BK415 := n1_
                        have BK420 := n2_
                        have HB := n3_
                        clear n0_ n1_ n2_ n3_
                        have p426 : 0 ≤ (x11_1 : Int) := of_decide_eq_true (by first | (with_reducible assumption) | assumption)
                        have q426 : x11_1 < (l2.length : Int) := of_decide_eq_true (by first | (with_reducible assumption) | assumption)
                        obtain ⟨ad426, e426, hx426_0, hx426_1, hx426_2⟩ := at_T47 HR2.out x11_1 p426 q426
                        have hw426_2 := hx426_2
                        have hw426_1 := hx426_1
                        have hw426_0 := hx426_0
                        obtain rfl : ad421 = ad426 := (by injection e426)
                        replace hx426_0 := (HB.out.cell (World.block_lt_of_cell? w _ hx426_0)).trans hx426_0
                        replace hx426_1 := (HB.out.cell (World.block_lt_of_cell? w _ hx426_1)).trans hx426_1
                        replace hx426_2 := (HB.out.cell (World.block_lt_of_cell? w _ hx426_2)).trans hx426_2
                        replace p426 := eq_true p426
                        replace q426 := eq_true q426
                        refine start_ (n := 7) (S := fun w' => w'.cell? ⟨gb420, 0, none⟩ = some (.bool x421000_1) ∧ w'.cell? ⟨gb420, 1, none⟩ = some (.bool x421001_1) ∧ w'.cell? ⟨gb420, 2, none⟩ = some (.int .i64 x421002_1) ∧ w'.cell? ⟨gb420, 3, none⟩ = some (.bool x421003_1) ∧ w'.cell? (ad421.add ((x11_1).toNat * 3)) = some (.int .u8 ((rd_T47 l2 x11_1).f0)) ∧ w'.cell? ⟨(ad421.add ((x11_1).toNat * 3)).block, (ad421.add ((x11_1).toNat * 3)).off + 1, none⟩ = some (.bool ((rd_T47 l2 x11_1).f1)) ∧ w'.cell? ⟨(ad421.add ((x11_1).toNat * 3)).block, (ad421.add ((x11_1).toNat * 3)).off + 2, none⟩ = some (.bool ((rd_T47 l2 x11_1).f2))) (ds := [6]) #[false, false, false, false, false, false, false] (by kernel_rfl) rfl rfl ⟨(blk_cell BK420.out 0).trans rfl, (blk_cell BK420.out 1).trans rfl, (blk_cell BK420.out 2).trans rfl, (blk_cell BK420.out 3).trans rfl, ((HB.out.cell (World.block_lt_of_cell? w _ hw426_0)).trans hw426_0), ((HB.out.cell (World.block_lt_of_cell? w _ hw426_1)).trans hw426_1), ((HB.out.cell (World.block_lt_of_cell? w _ hw426_2)).trans hw426_2)⟩ (fun hHeld => ?_)
                        generalize w42.drew = w43 at BK410 BK415 BK420 HB hx426_0 hx426_1 hx426_2 hHeld ⊢
                        refine pure_ (i := 1) (N := some 51) (v := ?_) (a' := ?_) #[false, true, false, false, false, false, false] rfl rfl (by kernel_rfl) (fun _ _ _ h => h) (Or.inl ⟨by rfl, ?_⟩) ?_ ?_
                        rotate_left
                        · intro w'
                          go_simp
                          with_reducible rfl
                        rotate_left
                        · simp only [Act.put, List.setIfInBounds_toArray, List.set_cons_zero, List.set_cons_succ, i64_w, i32_w]
                          rfl
                        refine pure_ (i := 2) (N := some 52) (v := ?_) (a' := ?_) #[false, true, true, false, false, false, false] rfl rfl (by kernel_rfl) (fun _ _ _ h => h) (Or.inl ⟨by rfl, ?_⟩) ?_ ?_
                        rotate_left
                        · intro w'
                          go_simp
                          with_reducible rfl
                        rotate_left
                        · simp only [Act.put, List.setIfInBounds_toArray, List.set_cons_zero, List.set_cons_succ, i64_w, i32_w]
                          rfl
                        refine pure_ (i := 3) (N := some 53) (v := ?_) (a' := ?_) #[false, true, true, true, false, false, false] rfl rfl (by kernel_rfl) (fun _ _ _ h => h) (Or.inl ⟨by rfl, ?_⟩) ?_ ?_
                        rotate_left
                        · intro w'
                          go_simp
                          with_reducible rfl
                        rotate_left
                        · simp only [Act.put, List.setIfInBounds_toArray, List.set_cons_zero, List.set_cons_succ, i64_w, i32_w]
                          rfl
                        refine take_ (i := 0) (N := some 50) (v := ?_) (a' := ?_) #[true, true, true, true, false, false, false] rfl rfl (by kernel_rfl) (fun _ _ _ h => h) (Or.inl ⟨by rfl, ?_⟩) hHeld ?_ ?_
                        rotate_left
                        · rintro w' ⟨s0, s1, s2, s3, s4, s5, s6⟩
                          go_simp
                          with_reducible rfl
                        rotate_left
                        · simp only [Act.put, List.setIfInBounds_toArray, List.set_cons_zero, List.set_cons_succ, i64_w, i32_w]
                          rfl
                        refine take_ (i := 4) (N := some 54) (v := ?_) (a' := ?_) #[true, true, true, true, true, false, false] rfl rfl (by kernel_rfl) (fun _ _ _ h => h) (Or.inl ⟨by rfl, ?_⟩) hHeld ?_ ?_
                        rotate_left
                        · rintro w' ⟨s0, s1, s2, s3, s4, s5, s6⟩
                          go_simp
                          with_reducible rfl
                        rotate_left
                        · simp only [Act.put, List.setIfInBounds_toArray, List.set_cons_zero, List.set_cons_succ, i64_w, i32_w]
                          rfl
                        refine one_ (i := 5) (N := some 55) #[true, true, true, true, true, true, false] rfl rfl (by kernel_rfl) (by decide) (fun K hK => ?_)
                        refine goes_ Try.func28 (by kernel_rfl) rfl #[.agg #[.bool x421000_1, .bool x421001_1, .int .i64 x421002_1, .bool x421003_1], .agg #[.int .u8 ((rd_T47 l2 x11_1).f0), .bool ((rd_T47 l2 x11_1).f1), .bool ((rd_T47 l2 x11_1).f2)]] (by rfl) rfl rfl (by (try simp only [List.map_toArray, List.map_cons, List.map_nil]); first | done | rfl | (simp only [List.length_drop, List.length_take]; rfl)) ?_
                        with_reducible refine (ambidexterlaw26_step.calls x421000_1 x421001_1 x421002_1 x421003_1 ((rd_T47 l2 x11_1).f0) ((rd_T47 l2 x11_1).f1) ((rd_T47 l2 x11_1).f2) t427 t428 t429 t430 _ A31.out).mono ?_
                        rintro e w44 ⟨rfl, hb⟩
                        refine ⟨_, rfl, ?_⟩
                        have n0_ := Aside0.mk (blk_below (g := gb410) (o := .cells #[.bool x411000_1, .bool x411001_1, .int .i64 x411002_1, .bool x411003_1] 44 (0, 0)) (by (with_reducible repeat (first | refine blk_drewN ?_ _ | refine blk_drew ?_ | refine blk_alloc ?_ _)); exact BK410.out) hb)
                        have n1_ := Aside0.mk (blk_below (g := gb415) (o := .cells #[.bool t422, .bool t423, .int .i64 t424, .bool t425] 44 (0, 0)) (by (with_reducible repeat (first | refine blk_drewN ?_ _ | refine blk_drew ?_ | refine blk_alloc ?_ _)); exact BK415.out) hb)
                        have n2_ := Aside0.mk (blk_below (g := gb420) (o := .cells #[.bool x421000_1, .bool x421001_1, .int .i64 x421002_1, .bool x421003_1] 44 (0, 0)) (by (with_reducible repeat (first | refine blk_drewN ?_ _ | refine blk_drew ?_ | refine blk_alloc ?_ _)); exact BK420.out) hb)
                        have n3_ := Aside0.mk (below_step (by repeat (first | (with_reducible first | exact HB.out | apply below_alloc | apply pw_below_drewN | apply below_drew1 | refine below_set ?_ GE410.out | refine below_set ?_ GE415.out | refine below_set ?_ GE420.out) | exact HB.out)) hb)
                        clear BK410
                        clear BK415
                        clear BK420
                        clear HB
                        have BK410 := n0_
                        have BK415 := n1_
                        have BK420 := n2_
                        have HB := n3_
                        clear n0_ n1_ n2_ n3_
                        (try clear hb)
                        (try clear hb2)
                        (try clear hk)
                        (try clear hi)
                        refine hK.out _ _ ⟨(blk_cell BK420.out 0).trans rfl, (blk_cell BK420.out 1).trans rfl, (blk_cell BK420.out 2).trans rfl, (blk_cell BK420.out 3).trans rfl, ((HB.out.cell (World.block_lt_of_cell? w _ hw426_0)).trans hw426_0), ((HB.out.cell (World.block_lt_of_cell? w _ hw426_1)).trans hw426_1), ((HB.out.cell (World.block_lt_of_cell? w _ hw426_2)).trans hw426_2)⟩ (fun hHeld => ?_)
                        clear hK K
                        refine norm_ (a' := ?_) ?_ ?_
                        rotate_left
                        · show Act.put _ (some 55) _ = _
                          simp only [Act.put, List.setIfInBounds_toArray, List.set_cons_zero, List.set_cons_succ, i64_w, i32_w]
                          rfl
                        refine last_ (i := 6) (N := none) #[true, true, true, true, true, true, true] rfl rfl (by kernel_rfl) (by decide) (fun K hK => ?_)
                        have hs45 : w44.cell? ⟨gb420, 0, none⟩ = some (.bool x421000_1) := (blk_cell BK420.out 0).trans rfl
                        have hfs45 := blk_frozen BK420.out 0
                        have hns45_0 := NB410_420.out
                        have hns45_1 := NB415_420.out
                        have hms45_0 := NB420_410.out
                        have hms45_1 := NB420_415.out
                        have hs46 : w44.cell? ⟨gb420, 1, none⟩ = some (.bool x421001_1) := (blk_cell BK420.out 1).trans rfl
                        have hfs46 := blk_frozen BK420.out 1
                        have hns46_0 := NB410_420.out
                        have hns46_1 := NB415_420.out
                        have hms46_0 := NB420_410.out
                        have hms46_1 := NB420_415.out
                        have hs47 : w44.cell? ⟨gb420, 2, none⟩ = some (.int .i64 x421002_1) := (blk_cell BK420.out 2).trans rfl
                        have hfs47 := blk_frozen BK420.out 2
                        have hns47_0 := NB410_420.out
                        have hns47_1 := NB415_420.out
                        have hms47_0 := NB420_410.out
                        have hms47_1 := NB420_415.out
                        have hs48 : w44.cell? ⟨gb420, 3, none⟩ = some (.bool x421003_1) := (blk_cell BK420.out 3).trans rfl
                        have hfs48 := blk_frozen BK420.out 3
                        have hns48_0 := NB410_420.out
                        have hns48_1 := NB415_420.out
                        have hms48_0 := NB420_410.out
                        have hms48_1 := NB420_415.out
                        refine skip_ (w1 := ?_) (by rfl) rfl ?_ ?_
                        rotate_left
                        · go_simp
                          rfl
                        refine hK.out _ _ ?_
                        clear hK K
                        refine done_ (by kernel_rfl) ?_
                        have hnb49 := NB415_410.out
                        have hnc49 := NB410_415.out
                        have hnb50 := NB415_420.out
                        have hnc50 := NB420_415.out
                        have hcz51_0 : w44.cell? ⟨gb415, 0, none⟩ = some (.bool t422) := (blk_cell BK415.out 0).trans rfl
                        have hcz51_1 : w44.cell? ⟨gb415, 1, none⟩ = some (.bool t423) := (blk_cell BK415.out 1).trans rfl
                        have hcz51_2 : w44.cell? ⟨gb415, 2, none⟩ = some (.int .i64 t424) := (blk_cell BK415.out 2).trans rfl
                        have hcz51_3 : w44.cell? ⟨gb415, 3, none⟩ = some (.bool t425) := (blk_cell BK415.out 3).trans rfl
                        have hfz51_0 := blk_frozen BK415.out 0
                        have hfz51_1 := blk_frozen BK415.out 1
                        have hfz51_2 := blk_frozen BK415.out 2
                        have hfz51_3 := blk_frozen BK415.out 3
                        have hnb52 := NB420_410.out
                        have hnc52 := NB410_420.out
                        have hcz53_0 : w44.cell? ⟨gb420, 0, none⟩ = some (.bool x421000_1) := (blk_cell BK420.out 0).trans rfl
                        have hcz53_1 : w44.cell? ⟨gb420, 1, none⟩ = some (.bool x421001_1) := (blk_cell BK420.out 1).trans rfl
                        have hcz53_2 : w44.cell? ⟨gb420, 2, none⟩ = some (.int .i64 x421002_1) := (blk_cell BK420.out 2).trans rfl
                        have hcz53_3 : w44.cell? ⟨gb420, 3, none⟩ = some (.bool x421003_1) := (blk_cell BK420.out 3).trans rfl
                        have hfz53_0 := blk_frozen BK420.out 0
                        have hfz53_1 := blk_frozen BK420.out 1
                        have hfz53_2 := blk_frozen BK420.out 2
                        have hfz53_3 := blk_frozen BK420.out 3
                        have p431 : 0 ≤ (x11_1 : Int) := of_decide_eq_true (by first | (with_reducible assumption) | assumption)
                        have q431 : x11_1 < (l2.length : Int) := of_decide_eq_true (by first | (with_reducible assumption) | assumption)
                        obtain ⟨ad431, e431, hx431_0, hx431_1, hx431_2⟩ := at_T47 HR2.out x11_1 p431 q431
                        obtain rfl : ad421 = ad431 := (by injection e431)
                        have hn431_0 : ad421.block ≠ gb420 := Nat.ne_of_lt (Nat.lt_of_lt_of_le (by have := World.block_lt_of_cell? _ _ hx431_0; first | rwa [add_block] at this | exact this) GW420.out)
                        have hn431_1 : ad421.block ≠ gb420 := Nat.ne_of_lt (Nat.lt_of_lt_of_le (by have := World.block_lt_of_cell? _ _ hx431_0; first | rwa [add_block] at this | exact this) GW420.out)
                        have hn431_2 : ad421.block ≠ gb420 := Nat.ne_of_lt (Nat.lt_of_lt_of_le (by have := World.block_lt_of_cell? _ _ hx431_0; first | rwa [add_block] at this | exact this) GW420.out)
                        have hn431_3 : ad421.block ≠ gb420 := Nat.ne_of_lt (Nat.lt_of_lt_of_le (by have := World.block_lt_of_cell? _ _ hx431_0; first | rwa [add_block] at this | exact this) GW420.out)
                        replace hx431_0 := (HB.out.cell (World.block_lt_of_cell? w _ hx431_0)).trans hx431_0
                        replace hx431_1 := (HB.out.cell (World.block_lt_of_cell? w _ hx431_1)).trans hx431_1
                        replace hx431_2 := (HB.out.cell (World.block_lt_of_cell? w _ hx431_2)).trans hx431_2
                        replace hx431_0 := (cell_far (p := ⟨gb420, 0, none⟩) (by first | (rw [add_block]; exact hn431_0) | (show (Addr.add _ _).block ≠ _; rw [add_block]; exact hn431_0) | exact hn431_0) (.bool t427)).trans hx431_0
                        replace hx431_1 := (cell_far (p := ⟨gb420, 0, none⟩) (by first | (rw [add_block]; exact hn431_0) | (show (Addr.add _ _).block ≠ _; rw [add_block]; exact hn431_0) | exact hn431_0) (.bool t427)).trans hx431_1
                        replace hx431_2 := (cell_far (p := ⟨gb420, 0, none⟩) (by first | (rw [add_block]; exact hn431_0) | (show (Addr.add _ _).block ≠ _; rw [add_block]; exact hn431_0) | exact hn431_0) (.bool t427)).trans hx431_2
                        replace hx431_0 := (cell_far (p := ⟨gb420, 1, none⟩) (by first | (rw [add_block]; exact hn431_1) | (show (Addr.add _ _).block ≠ _; rw [add_block]; exact hn431_1) | exact hn431_1) (.bool t428)).trans hx431_0
                        replace hx431_1 := (cell_far (p := ⟨gb420, 1, none⟩) (by first | (rw [add_block]; exact hn431_1) | (show (Addr.add _ _).block ≠ _; rw [add_block]; exact hn431_1) | exact hn431_1) (.bool t428)).trans hx431_1
                        replace hx431_2 := (cell_far (p := ⟨gb420, 1, none⟩) (by first | (rw [add_block]; exact hn431_1) | (show (Addr.add _ _).block ≠ _; rw [add_block]; exact hn431_1) | exact hn431_1) (.bool t428)).trans hx431_2
                        replace hx431_0 := (cell_far (p := ⟨gb420, 2, none⟩) (by first | (rw [add_block]; exact hn431_2) | (show (Addr.add _ _).block ≠ _; rw [add_block]; exact hn431_2) | exact hn431_2) (.int .i64 t429)).trans hx431_0
                        replace hx431_1 := (cell_far (p := ⟨gb420, 2, none⟩) (by first | (rw [add_block]; exact hn431_2) | (show (Addr.add _ _).block ≠ _; rw [add_block]; exact hn431_2) | exact hn431_2) (.int .i64 t429)).trans hx431_1
                        replace hx431_2 := (cell_far (p := ⟨gb420, 2, none⟩) (by first | (rw [add_block]; exact hn431_2) | (show (Addr.add _ _).block ≠ _; rw [add_block]; exact hn431_2) | exact hn431_2) (.int .i64 t429)).trans hx431_2
                        replace hx431_0 := (cell_far (p := ⟨gb420, 3, none⟩) (by first | (rw [add_block]; exact hn431_3) | (show (Addr.add _ _).block ≠ _; rw [add_block]; exact hn431_3) | exact hn431_3) (.bool t430)).trans hx431_0
                        replace hx431_1 := (cell_far (p := ⟨gb420, 3, none⟩) (by first | (rw [add_block]; exact hn431_3) | (show (Addr.add _ _).block ≠ _; rw [add_block]; exact hn431_3) | exact hn431_3) (.bool t430)).trans hx431_1
                        replace hx431_2 := (cell_far (p := ⟨gb420, 3, none⟩) (by first | (rw [add_block]; exact hn431_3) | (show (Addr.add _ _).block ≠ _; rw [add_block]; exact hn431_3) | exact hn431_3) (.bool t430)).trans hx431_2
                        clear hn431_0
                        clear hn431_1
                        clear hn431_2
                        clear hn431_3
                        replace p431 := eq_true p431
                        replace q431 := eq_true q431
                        have p432 : 0 ≤ (x11_1 : Int) := of_decide_eq_true (by first | (with_reducible assumption) | assumption)
                        have q432 : x11_1 < (l2.length : Int) := of_decide_eq_true (by first | (with_reducible assumption) | assumption)
                        obtain ⟨ad432, e432, hx432_0, hx432_1, hx432_2⟩ := at_T47 HR2.out x11_1 p432 q432
                        obtain rfl : ad421 = ad432 := (by injection e432)
                        have hn432_0 : ad421.block ≠ gb420 := Nat.ne_of_lt (Nat.lt_of_lt_of_le (by have := World.block_lt_of_cell? _ _ hx432_0; first | rwa [add_block] at this | exact this) GW420.out)
                        have hn432_1 : ad421.block ≠ gb420 := Nat.ne_of_lt (Nat.lt_of_lt_of_le (by have := World.block_lt_of_cell? _ _ hx432_0; first | rwa [add_block] at this | exact this) GW420.out)
                        have hn432_2 : ad421.block ≠ gb420 := Nat.ne_of_lt (Nat.lt_of_lt_of_le (by have := World.block_lt_of_cell? _ _ hx432_0; first | rwa [add_block] at this | exact this) GW420.out)
                        have hn432_3 : ad421.block ≠ gb420 := Nat.ne_of_lt (Nat.lt_of_lt_of_le (by have := World.block_lt_of_cell? _ _ hx432_0; first | rwa [add_block] at this | exact this) GW420.out)
                        replace hx432_0 := (HB.out.cell (World.block_lt_of_cell? w _ hx432_0)).trans hx432_0
                        replace hx432_1 := (HB.out.cell (World.block_lt_of_cell? w _ hx432_1)).trans hx432_1
                        replace hx432_2 := (HB.out.cell (World.block_lt_of_cell? w _ hx432_2)).trans hx432_2
                        replace hx432_0 := (cell_far (p := ⟨gb420, 0, none⟩) (by first | (rw [add_block]; exact hn432_0) | (show (Addr.add _ _).block ≠ _; rw [add_block]; exact hn432_0) | exact hn432_0) (.bool t427)).trans hx432_0
                        replace hx432_1 := (cell_far (p := ⟨gb420, 0, none⟩) (by first | (rw [add_block]; exact hn432_0) | (show (Addr.add _ _).block ≠ _; rw [add_block]; exact hn432_0) | exact hn432_0) (.bool t427)).trans hx432_1
                        replace hx432_2 := (cell_far (p := ⟨gb420, 0, none⟩) (by first | (rw [add_block]; exact hn432_0) | (show (Addr.add _ _).block ≠ _; rw [add_block]; exact hn432_0) | exact hn432_0) (.bool t427)).trans hx432_2
                        replace hx432_0 := (cell_far (p := ⟨gb420, 1, none⟩) (by first | (rw [add_block]; exact hn432_1) | (show (Addr.add _ _).block ≠ _; rw [add_block]; exact hn432_1) | exact hn432_1) (.bool t428)).trans hx432_0
                        replace hx432_1 := (cell_far (p := ⟨gb420, 1, none⟩) (by first | (rw [add_block]; exact hn432_1) | (show (Addr.add _ _).block ≠ _; rw [add_block]; exact hn432_1) | exact hn432_1) (.bool t428)).trans hx432_1
                        replace hx432_2 := (cell_far (p := ⟨gb420, 1, none⟩) (by first | (rw [add_block]; exact hn432_1) | (show (Addr.add _ _).block ≠ _; rw [add_block]; exact hn432_1) | exact hn432_1) (.bool t428)).trans hx432_2
                        replace hx432_0 := (cell_far (p := ⟨gb420, 2, none⟩) (by first | (rw [add_block]; exact hn432_2) | (show (Addr.add _ _).block ≠ _; rw [add_block]; exact hn432_2) | exact hn432_2) (.int .i64 t429)).trans hx432_0
                        replace hx432_1 := (cell_far (p := ⟨gb420, 2, none⟩) (by first | (rw [add_block]; exact hn432_2) | (show (Addr.add _ _).block ≠ _; rw [add_block]; exact hn432_2) | exact hn432_2) (.int .i64 t429)).trans hx432_1
                        replace hx432_2 := (cell_far (p := ⟨gb420, 2, none⟩) (by first | (rw [add_block]; exact hn432_2) | (show (Addr.add _ _).block ≠ _; rw [add_block]; exact hn432_2) | exact hn432_2) (.int .i64 t429)).trans hx432_2
                        replace hx432_0 := (cell_far (p := ⟨gb420, 3, none⟩) (by first | (rw [add_block]; exact hn432_3) | (show (Addr.add _ _).block ≠ _; rw [add_block]; exact hn432_3) | exact hn432_3) (.bool t430)).trans hx432_0
                        replace hx432_1 := (cell_far (p := ⟨gb420, 3, none⟩) (by first | (rw [add_block]; exact hn432_3) | (show (Addr.add _ _).block ≠ _; rw [add_block]; exact hn432_3) | exact hn432_3) (.bool t430)).trans hx432_1
                        replace hx432_2 := (cell_far (p := ⟨gb420, 3, none⟩) (by first | (rw [add_block]; exact hn432_3) | (show (Addr.add _ _).block ≠ _; rw [add_block]; exact hn432_3) | exact hn432_3) (.bool t430)).trans hx432_2
                        clear hn432_0
                        clear hn432_1
                        clear hn432_2
                        clear hn432_3
                        replace p432 := eq_true p432
                        replace q432 := eq_true q432
                        have hcz54_0 : w44.cell? ⟨gb410, 0, none⟩ = some (.bool x411000_1) := (blk_cell BK410.out 0).trans rfl
                        have hcz54_1 : w44.cell? ⟨gb410, 1, none⟩ = some (.bool x411001_1) := (blk_cell BK410.out 1).trans rfl
                        have hcz54_2 : w44.cell? ⟨gb410, 2, none⟩ = some (.int .i64 x411002_1) := (blk_cell BK410.out 2).trans rfl
                        have hcz54_3 : w44.cell? ⟨gb410, 3, none⟩ = some (.bool x411003_1) := (blk_cell BK410.out 3).trans rfl
                        have hfz54_0 := blk_frozen BK410.out 0
                        have hfz54_1 := blk_frozen BK410.out 1
                        have hfz54_2 := blk_frozen BK410.out 2
                        have hfz54_3 := blk_frozen BK410.out 3
                        try go_wp2_with (first | ((with_reducible refine gate_callee (f := 35) rfl ?_); refine goesL_ (some 76) rfl rfl Try.func35 (by kernel_rfl) rfl #[.agg #[.bool x411000_1, .bool x411001_1, .int .i64 x411002_1, .bool x411003_1], .bool ((rd_T47 l2 x11_1).f1), .bool ((rd_T47 l2 x11_1).f1)] rfl (by (try simp only [List.map_toArray, List.map_cons, List.map_nil]); first | done | rfl | (simp only [List.length_drop, List.length_take]; rfl)) ?_; (with_reducible refine (dualchannel_Observe.calls x411000_1 x411001_1 x411002_1 x411003_1 ((rd_T47 l2 x11_1).f1) ((rd_T47 l2 x11_1).f1) t433 t434 t435 false _ A34.out).mono ?_); rintro e w55 ⟨rfl, hb⟩; refine ⟨_, rfl, ?_⟩; have n0_ := Aside0.mk (blk_below (g := gb410) (o := .cells #[.bool x411000_1, .bool x411001_1, .int .i64 x411002_1, .bool x411003_1] 44 (0, 0)) (by (with_reducible repeat (first | refine blk_drewN ?_ _ | refine blk_drew ?_ | refine blk_alloc ?_ _)); refine blk_far ?_ NB410_420.out _; (with_reducible repeat (first | refine blk_drewN ?_ _ | refine blk_drew ?_ | refine blk_alloc ?_ _)); refine blk_far ?_ NB410_420.out _; (with_reducible repeat (first | refine blk_drewN ?_ _ | refine blk_drew ?_ | refine blk_alloc ?_ _)); refine blk_far ?_ NB410_420.out _; (with_reducible repeat (first | refine blk_drewN ?_ _ | refine blk_drew ?_ | refine blk_alloc ?_ _)); refine blk_far ?_ NB410_420.out _; (with_reducible repeat (first | refine blk_drewN ?_ _ | refine blk_drew ?_ | refine blk_alloc ?_ _)); exact BK410.out) hb); have n1_ := Aside0.mk (blk_below (g := gb415) (o := .cells #[.bool t422, .bool t423, .int .i64 t424, .bool t425] 44 (0, 0)) (by (with_reducible repeat (first | refine blk_drewN ?_ _ | refine blk_drew ?_ | refine blk_alloc ?_ _)); refine blk_far ?_ NB415_420.out _; (with_reducible repeat (first | refine blk_drewN ?_ _ | refine blk_drew ?_ | refine blk_alloc ?_ _)); refine blk_far ?_ NB415_420.out _; (with_reducible repeat (first | refine blk_drewN ?_ _ | refine blk_drew ?_ | refine blk_alloc ?_ _)); refine blk_far ?_ NB415_420.out _; (with_reducible repeat (first | refine blk_drewN ?_ _ | refine blk_drew ?_ | refine blk_alloc ?_ _)); refine blk_far ?_ NB415_420.out _; (with_reducible repeat (first | refine blk_drewN ?_ _ | refine blk_drew ?_ | refine blk_alloc ?_ _)); exact BK415.out) hb); have n2_ := Aside0.mk (blk_below (g := gb420) (o := .cells #[.bool t427, .bool t428, .int .i64 t429, .bool t430] 44 (0, 0)) (by (with_reducible repeat (first | refine blk_drewN ?_ _ | refine blk_drew ?_ | refine blk_alloc ?_ _)); refine blk_put (cs := #[.bool t427, .bool t428, .int .i64 t429, .bool x421003_1]) ?_ 3 _ rfl; (with_reducible repeat (first | refine blk_drewN ?_ _ | refine blk_drew ?_ | refine blk_alloc ?_ _)); refine blk_put (cs := #[.bool t427, .bool t428, .int .i64 x421002_1, .bool x421003_1]) ?_ 2 _ rfl; (with_reducible repeat (first | refine blk_drewN ?_ _ | refine blk_drew ?_ | refine blk_alloc ?_ _)); refine blk_put (cs := #[.bool t427, .bool x421001_1, .int .i64 x421002_1, .bool x421003_1]) ?_ 1 _ rfl; (with_reducible repeat (first | refine blk_drewN ?_ _ | refine blk_drew ?_ | refine blk_alloc ?_ _)); refine blk_put (cs := #[.bool x421000_1, .bool x421001_1, .int .i64 x421002_1, .bool x421003_1]) ?_ 0 _ rfl; (with_reducible repeat (first | refine blk_drewN ?_ _ | refine blk_drew ?_ | refine blk_alloc ?_ _)); exact BK420.out) hb); have n3_ := Aside0.mk (below_step (by repeat (first | (with_reducible first | exact HB.out | apply below_alloc | apply pw_below_drewN | apply below_drew1 | refine below_set ?_ GE410.out | refine below_set ?_ GE415.out | refine below_set ?_ GE420.out) | exact HB.out)) hb); clear BK410; clear BK415; clear BK420; clear HB; have BK410 := n0_; have BK415 := n1_; have BK420 := n2_; have HB := n3_; clear n0_ n1_ n2_ n3_; (try clear hb); (try clear hb2); (try clear hk); (try clear hi); have hcz56_0 : w55.cell? ⟨gb410, 0, none⟩ = some (.bool x411000_1) := (blk_cell BK410.out 0).trans rfl; have hcz56_1 : w55.cell? ⟨gb410, 1, none⟩ = some (.bool x411001_1) := (blk_cell BK410.out 1).trans rfl; have hcz56_2 : w55.cell? ⟨gb410, 2, none⟩ = some (.int .i64 x411002_1) := (blk_cell BK410.out 2).trans rfl; have hcz56_3 : w55.cell? ⟨gb410, 3, none⟩ = some (.bool x411003_1) := (blk_cell BK410.out 3).trans rfl; have hfz56_0 := blk_frozen BK410.out 0; have hfz56_1 := blk_frozen BK410.out 1; have hfz56_2 := blk_frozen BK410.out 2; have hfz56_3 := blk_frozen BK410.out 3))
                        go_roundg kj24
                        case measure => have := HK1.out; have := HJ24.out; omega
                        case rel => exact ⟨(wrap64 (x11_1 + 1)), (t433), (t434), (t435), (false), (t422), (t423), (t424), (t425), (t427), (t428), (t429), (t430), (by first | rfl | (simp; done) | (simp [*]; done)), H', ⟨by have := HK1.out; have := HJ24.out; omega⟩, ⟨by (with_reducible repeat (first | refine blk_drewN ?_ _ | refine blk_drew ?_ | refine blk_alloc ?_ _)); refine blk_put (cs := #[.bool t433, .bool t434, .int .i64 t435, .bool x411003_1]) ?_ 3 _ rfl; (with_reducible repeat (first | refine blk_drewN ?_ _ | refine blk_drew ?_ | refine blk_alloc ?_ _)); refine blk_put (cs := #[.bool t433, .bool t434, .int .i64 x411002_1, .bool x411003_1]) ?_ 2 _ rfl; (with_reducible repeat (first | refine blk_drewN ?_ _ | refine blk_drew ?_ | refine blk_alloc ?_ _)); refine blk_put (cs := #[.bool t433, .bool x411001_1, .int .i64 x411002_1, .bool x411003_1]) ?_ 1 _ rfl; (with_reducible repeat (first | refine blk_drewN ?_ _ | refine blk_drew ?_ | refine blk_alloc ?_ _)); refine blk_put (cs := #[.bool x411000_1, .bool x411001_1, .int .i64 x411002_1, .bool x411003_1]) ?_ 0 _ rfl; (with_reducible repeat (first | refine blk_drewN ?_ _ | refine blk_drew ?_ | refine blk_alloc ?_ _)); exact BK410.out⟩, ⟨by (with_reducible repeat (first | refine blk_drewN ?_ _ | refine blk_drew ?_ | refine blk_alloc ?_ _)); refine blk_far ?_ NB415_410.out _; (with_reducible repeat (first | refine blk_drewN ?_ _ | refine blk_drew ?_ | refine blk_alloc ?_ _)); refine blk_far ?_ NB415_410.out _; (with_reducible repeat (first | refine blk_drewN ?_ _ | refine blk_drew ?_ | refine blk_alloc ?_ _)); refine blk_far ?_ NB415_410.out _; (with_reducible repeat (first | refine blk_drewN ?_ _ | refine blk_drew ?_ | refine blk_alloc ?_ _)); refine blk_far ?_ NB415_410.out _; (with_reducible repeat (first | refine blk_drewN ?_ _ | refine blk_drew ?_ | refine blk_alloc ?_ _)); exact BK415.out⟩, ⟨by (with_reducible repeat (first | refine blk_drewN ?_ _ | refine blk_drew ?_ | refine blk_alloc ?_ _)); refine blk_far ?_ NB420_410.out _; (with_reducible repeat (first | refine blk_drewN ?_ _ | refine blk_drew ?_ | refine blk_alloc ?_ _)); refine blk_far ?_ NB420_410.out _; (with_reducible repeat (first | refine blk_drewN ?_ _ | refine blk_drew ?_ | refine blk_alloc ?_ _)); refine blk_far ?_ NB420_410.out _; (with_reducible repeat (first | refine blk_drewN ?_ _ | refine blk_drew ?_ | refine blk_alloc ?_ _)); refine blk_far ?_ NB420_410.out _; (with_reducible repeat (first | refine blk_drewN ?_ _ | refine blk_drew ?_ | refine blk_alloc ?_ _)); exact BK420.out⟩, ⟨by repeat (first | (with_reducible first | exact HB.out | apply below_alloc | apply pw_below_drewN | apply below_drew1 | refine below_set ?_ GE410.out | refine below_set ?_ GE415.out | refine below_set ?_ GE420.out) | exact HB.out)⟩⟩
                    · rw [if_neg c33] at H
                      have c33b0 : ((Int.tmod x11_1 4) == 3) = false := beq_eq_false_iff_ne.mpr c33
                      have c33b1 : ((Int.tmod x11_1 4) != 3) = true := bne_iff_ne.mpr c33
                      replace H := Option.bind_eq_some_iff.mp H
                      obtain ⟨⟨t437, t438, t439, t440⟩, A570, H⟩ := H
                      replace H : (if t440 = true then (some false) else (ambidexterlaw26_DualchannelAgreement.l0 kj24 l2 true (wrap64 (x11_1 + 1)) t437 t438 t439 t440 t422 t423 t424 t425 t427 t428 t429 t430)) = some r := H
                      have A57 := Aside0.mk A570
                      clear A570
                      by_cases c58 : t440 = true
                      · subst c58
                        have H1 : (some false) = some r := by rw [if_pos rfl] at H; exact H
                        clear H
                        have H := H1
                        clear H1
                        exact absurd HT.out (by rw [← Option.some.inj H]; decide)
                      · replace c58 := Bool.eq_false_iff.mpr c58
                        subst c58
                        have H1 : (ambidexterlaw26_DualchannelAgreement.l0 kj24 l2 true (wrap64 (x11_1 + 1)) t437 t438 t439 false t422 t423 t424 t425 t427 t428 t429 t430) = some r := by rw [if_neg (show ¬ (false = true) by decide)] at H; exact H
                        clear H
                        have H := H1
                        clear H1
                        have H' := Aside0.mk H
                        clear H
                        try go_wp2
                        have n0_ := Aside0.mk (blk_drew BK410.out)
                        have n1_ := Aside0.mk (blk_drew BK415.out)
                        have n2_ := Aside0.mk (blk_drew BK420.out)
                        have n3_ := Aside0.mk (below_drew1 HB.out)
                        clear BK410
                        clear BK415
                        clear BK420
                        clear HB
                        have BK410 := n0_
                        have BK415 := n1_
                        have BK420 := n2_
                        have HB := n3_
                        clear n0_ n1_ n2_ n3_
                        have p421 : 0 ≤ (x11_1 : Int) := of_decide_eq_true (by first | (with_reducible assumption) | assumption)
                        have q421 : x11_1 < (l2.length : Int) := of_decide_eq_true (by first | (with_reducible assumption) | assumption)
                        obtain ⟨ad421, e421, hx421_0, hx421_1, hx421_2⟩ := at_T47 HR2.out x11_1 p421 q421
                        have hw421_2 := hx421_2
                        have hw421_1 := hx421_1
                        have hw421_0 := hx421_0
                        cases e421
                        replace hx421_0 := (HB.out.cell (World.block_lt_of_cell? w _ hx421_0)).trans hx421_0
                        replace hx421_1 := (HB.out.cell (World.block_lt_of_cell? w _ hx421_1)).trans hx421_1
                        replace hx421_2 := (HB.out.cell (World.block_lt_of_cell? w _ hx421_2)).trans hx421_2
                        replace p421 := eq_true p421
                        replace q421 := eq_true q421
                        refine start_ (n := 7) (S := fun w' => w'.cell? ⟨gb415, 0, none⟩ = some (.bool x416000_1) ∧ w'.cell? ⟨gb415, 1, none⟩ = some (.bool x416001_1) ∧ w'.cell? ⟨gb415, 2, none⟩ = some (.int .i64 x416002_1) ∧ w'.cell? ⟨gb415, 3, none⟩ = some (.bool x416003_1) ∧ w'.cell? (ad421.add ((x11_1).toNat * 3)) = some (.int .u8 ((rd_T47 l2 x11_1).f0)) ∧ w'.cell? ⟨(ad421.add ((x11_1).toNat * 3)).block, (ad421.add ((x11_1).toNat * 3)).off + 1, none⟩ = some (.bool ((rd_T47 l2 x11_1).f1)) ∧ w'.cell? ⟨(ad421.add ((x11_1).toNat * 3)).block, (ad421.add ((x11_1).toNat * 3)).off + 2, none⟩ = some (.bool ((rd_T47 l2 x11_1).f2))) (ds := [6]) #[false, false, false, false, false, false, false] (by kernel_rfl) rfl rfl ⟨(blk_cell BK415.out 0).trans rfl, (blk_cell BK415.out 1).trans rfl, (blk_cell BK415.out 2).trans rfl, (blk_cell BK415.out 3).trans rfl, ((HB.out.cell (World.block_lt_of_cell? w _ hw421_0)).trans hw421_0), ((HB.out.cell (World.block_lt_of_cell? w _ hw421_1)).trans hw421_1), ((HB.out.cell (World.block_lt_of_cell? w _ hw421_2)).trans hw421_2)⟩ (fun hHeld => ?_)
                        generalize wc.drew = w59 at BK410 BK415 BK420 HB hx421_0 hx421_1 hx421_2 hHeld ⊢
                        refine pure_ (i := 1) (N := some 45) (v := ?_) (a' := ?_) #[false, true, false, false, false, false, false] rfl rfl (by kernel_rfl) (fun _ _ _ h => h) (Or.inl ⟨by rfl, ?_⟩) ?_ ?_
                        rotate_left
                        · intro w'
                          go_simp
                          with_reducible rfl
                        rotate_left
                        · simp only [Act.put, List.setIfInBounds_toArray, List.set_cons_zero, List.set_cons_succ, i64_w, i32_w]
                          rfl
                        refine pure_ (i := 2) (N := some 46) (v := ?_) (a' := ?_) #[false, true, true, false, false, false, false] rfl rfl (by kernel_rfl) (fun _ _ _ h => h) (Or.inl ⟨by rfl, ?_⟩) ?_ ?_
                        rotate_left
                        · intro w'
                          go_simp
                          with_reducible rfl
                        rotate_left
                        · simp only [Act.put, List.setIfInBounds_toArray, List.set_cons_zero, List.set_cons_succ, i64_w, i32_w]
                          rfl
                        refine pure_ (i := 3) (N := some 47) (v := ?_) (a' := ?_) #[false, true, true, true, false, false, false] rfl rfl (by kernel_rfl) (fun _ _ _ h => h) (Or.inl ⟨by rfl, ?_⟩) ?_ ?_
                        rotate_left
                        · intro w'
                          go_simp
                          with_reducible rfl
                        rotate_left
                        · simp only [Act.put, List.setIfInBounds_toArray, List.set_cons_zero, List.set_cons_succ, i64_w, i32_w]
                          rfl
                        refine take_ (i := 0) (N := some 44) (v := ?_) (a' := ?_) #[true, true, true, true, false, false, false] rfl rfl (by kernel_rfl) (fun _ _ _ h => h) (Or.inl ⟨by rfl, ?_⟩) hHeld ?_ ?_
                        rotate_left
                        · rintro w' ⟨s0, s1, s2, s3, s4, s5, s6⟩
                          go_simp
                          with_reducible rfl
                        rotate_left
                        · simp only [Act.put, List.setIfInBounds_toArray, List.set_cons_zero, List.set_cons_succ, i64_w, i32_w]
                          rfl
                        refine take_ (i := 4) (N := some 48) (v := ?_) (a' := ?_) #[true, true, true, true, true, false, false] rfl rfl (by kernel_rfl) (fun _ _ _ h => h) (Or.inl ⟨by rfl, ?_⟩) hHeld ?_ ?_
                        rotate_left
                        · rintro w' ⟨s0, s1, s2, s3, s4, s5, s6⟩
                          go_simp
                          with_reducible rfl
                        rotate_left
                        · simp only [Act.put, List.setIfInBounds_toArray, List.set_cons_zero, List.set_cons_succ, i64_w, i32_w]
                          rfl
                        refine one_ (i := 5) (N := some 49) #[true, true, true, true, true, true, false] rfl rfl (by kernel_rfl) (by decide) (fun K hK => ?_)
                        refine goes_ Try.func28 (by kernel_rfl) rfl #[.agg #[.bool x416000_1, .bool x416001_1, .int .i64 x416002_1, .bool x416003_1], .agg #[.int .u8 ((rd_T47 l2 x11_1).f0), .bool ((rd_T47 l2 x11_1).f1), .bool ((rd_T47 l2 x11_1).f2)]] (by rfl) rfl rfl (by (try simp only [List.map_toArray, List.map_cons, List.map_nil]); first | done | rfl | (simp only [List.length_drop, List.length_take]; rfl)) ?_
                        with_reducible refine (ambidexterlaw26_step.calls x416000_1 x416001_1 x416002_1 x416003_1 ((rd_T47 l2 x11_1).f0) ((rd_T47 l2 x11_1).f1) ((rd_T47 l2 x11_1).f2) t422 t423 t424 t425 _ A30.out).mono ?_
                        rintro e w60 ⟨rfl, hb⟩
                        refine ⟨_, rfl, ?_⟩
                        have n0_ := Aside0.mk (blk_below (g := gb410) (o := .cells #[.bool x411000_1, .bool x411001_1, .int .i64 x411002_1, .bool x411003_1] 44 (0, 0)) (by (with_reducible repeat (first | refine blk_drewN ?_ _ | refine blk_drew ?_ | refine blk_alloc ?_ _)); exact BK410.out) hb)
                        have n1_ := Aside0.mk (blk_below (g := gb415) (o := .cells #[.bool x416000_1, .bool x416001_1, .int .i64 x416002_1, .bool x416003_1] 44 (0, 0)) (by (with_reducible repeat (first | refine blk_drewN ?_ _ | refine blk_drew ?_ | refine blk_alloc ?_ _)); exact BK415.out) hb)
                        have n2_ := Aside0.mk (blk_below (g := gb420) (o := .cells #[.bool x421000_1, .bool x421001_1, .int .i64 x421002_1, .bool x421003_1] 44 (0, 0)) (by (with_reducible repeat (first | refine blk_drewN ?_ _ | refine blk_drew ?_ | refine blk_alloc ?_ _)); exact BK420.out) hb)
                        have n3_ := Aside0.mk (below_step (by repeat (first | (with_reducible first | exact HB.out | apply below_alloc | apply pw_below_drewN | apply below_drew1 | refine below_set ?_ GE410.out | refine below_set ?_ GE415.out | refine below_set ?_ GE420.out) | exact HB.out)) hb)
                        clear BK410
                        clear BK415
                        clear BK420
                        clear HB
                        have BK410 := n0_
                        have BK415 := n1_
                        have BK420 := n2_
                        have HB := n3_
                        clear n0_ n1_ n2_ n3_
                        (try clear hb)
                        (try clear hb2)
                        (try clear hk)
                        (try clear hi)
                        refine hK.out _ _ ⟨(blk_cell BK415.out 0).trans rfl, (blk_cell BK415.out 1).trans rfl, (blk_cell BK415.out 2).trans rfl, (blk_cell BK415.out 3).trans rfl, ((HB.out.cell (World.block_lt_of_cell? w _ hw421_0)).trans hw421_0), ((HB.out.cell (World.block_lt_of_cell? w _ hw421_1)).trans hw421_1), ((HB.out.cell (World.block_lt_of_cell? w _ hw421_2)).trans hw421_2)⟩ (fun hHeld => ?_)
                        clear hK K
                        refine norm_ (a' := ?_) ?_ ?_
                        rotate_left
                        · show Act.put _ (some 49) _ = _
                          simp only [Act.put, List.setIfInBounds_toArray, List.set_cons_zero, List.set_cons_succ, i64_w, i32_w]
                          rfl
                        refine last_ (i := 6) (N := none) #[true, true, true, true, true, true, true] rfl rfl (by kernel_rfl) (by decide) (fun K hK => ?_)
                        have hs61 : w60.cell? ⟨gb415, 0, none⟩ = some (.bool x416000_1) := (blk_cell BK415.out 0).trans rfl
                        have hfs61 := blk_frozen BK415.out 0
                        have hns61_0 := NB410_415.out
                        have hns61_2 := NB420_415.out
                        have hms61_0 := NB415_410.out
                        have hms61_2 := NB415_420.out
                        have hs62 : w60.cell? ⟨gb415, 1, none⟩ = some (.bool x416001_1) := (blk_cell BK415.out 1).trans rfl
                        have hfs62 := blk_frozen BK415.out 1
                        have hns62_0 := NB410_415.out
                        have hns62_2 := NB420_415.out
                        have hms62_0 := NB415_410.out
                        have hms62_2 := NB415_420.out
                        have hs63 : w60.cell? ⟨gb415, 2, none⟩ = some (.int .i64 x416002_1) := (blk_cell BK415.out 2).trans rfl
                        have hfs63 := blk_frozen BK415.out 2
                        have hns63_0 := NB410_415.out
                        have hns63_2 := NB420_415.out
                        have hms63_0 := NB415_410.out
                        have hms63_2 := NB415_420.out
                        have hs64 : w60.cell? ⟨gb415, 3, none⟩ = some (.bool x416003_1) := (blk_cell BK415.out 3).trans rfl
                        have hfs64 := blk_frozen BK415.out 3
                        have hns64_0 := NB410_415.out
                        have hns64_2 := NB420_415.out
                        have hms64_0 := NB415_410.out
                        have hms64_2 := NB415_420.out
                        refine skip_ (w1 := ?_) (by rfl) rfl ?_ ?_
                        rotate_left
                        · go_simp
                          rfl
                        refine hK.out _ _ ?_
                        clear hK K
                        refine done_ (by kernel_rfl) ?_
                        try go_wp2
                        have n0_ : Aside0 (((((w60.setCell ⟨gb415, 0, none⟩ (.bool t422)).setCell ⟨gb415, 1, none⟩ (.bool t423)).setCell ⟨gb415, 2, none⟩ (.int .i64 t424)).setCell ⟨gb415, 3, none⟩ (.bool t425)).heap[gb410]? = some (.cells #[.bool x411000_1, .bool x411001_1, .int .i64 x411002_1, .bool x411003_1] 44 (0, 0))) := ⟨by (with_reducible repeat (first | refine blk_drewN ?_ _ | refine blk_drew ?_ | refine blk_alloc ?_ _)); refine blk_far ?_ NB410_415.out _; (with_reducible repeat (first | refine blk_drewN ?_ _ | refine blk_drew ?_ | refine blk_alloc ?_ _)); refine blk_far ?_ NB410_415.out _; (with_reducible repeat (first | refine blk_drewN ?_ _ | refine blk_drew ?_ | refine blk_alloc ?_ _)); refine blk_far ?_ NB410_415.out _; (with_reducible repeat (first | refine blk_drewN ?_ _ | refine blk_drew ?_ | refine blk_alloc ?_ _)); refine blk_far ?_ NB410_415.out _; (with_reducible repeat (first | refine blk_drewN ?_ _ | refine blk_drew ?_ | refine blk_alloc ?_ _)); exact BK410.out⟩
                        have n1_ : Aside0 (((((w60.setCell ⟨gb415, 0, none⟩ (.bool t422)).setCell ⟨gb415, 1, none⟩ (.bool t423)).setCell ⟨gb415, 2, none⟩ (.int .i64 t424)).setCell ⟨gb415, 3, none⟩ (.bool t425)).heap[gb415]? = some (.cells #[.bool t422, .bool t423, .int .i64 t424, .bool t425] 44 (0, 0))) := ⟨by (with_reducible repeat (first | refine blk_drewN ?_ _ | refine blk_drew ?_ | refine blk_alloc ?_ _)); refine blk_put (cs := #[.bool t422, .bool t423, .int .i64 t424, .bool x416003_1]) ?_ 3 _ rfl; (with_reducible repeat (first | refine blk_drewN ?_ _ | refine blk_drew ?_ | refine blk_alloc ?_ _)); refine blk_put (cs := #[.bool t422, .bool t423, .int .i64 x416002_1, .bool x416003_1]) ?_ 2 _ rfl; (with_reducible repeat (first | refine blk_drewN ?_ _ | refine blk_drew ?_ | refine blk_alloc ?_ _)); refine blk_put (cs := #[.bool t422, .bool x416001_1, .int .i64 x416002_1, .bool x416003_1]) ?_ 1 _ rfl; (with_reducible repeat (first | refine blk_drewN ?_ _ | refine blk_drew ?_ | refine blk_alloc ?_ _)); refine blk_put (cs := #[.bool x416000_1, .bool x416001_1, .int .i64 x416002_1, .bool x416003_1]) ?_ 0 _ rfl; (with_reducible repeat (first | refine blk_drewN ?_ _ | refine blk_drew ?_ | refine blk_alloc ?_ _)); exact BK415.out⟩
                        have n2_ : Aside0 (((((w60.setCell ⟨gb415, 0, none⟩ (.bool t422)).setCell ⟨gb415, 1, none⟩ (.bool t423)).setCell ⟨gb415, 2, none⟩ (.int .i64 t424)).setCell ⟨gb415, 3, none⟩ (.bool t425)).heap[gb420]? = some (.cells #[.bool x421000_1, .bool x421001_1, .int .i64 x421002_1, .bool x421003_1] 44 (0, 0))) := ⟨by (with_reducible repeat (first | refine blk_drewN ?_ _ | refine blk_drew ?_ | refine blk_alloc ?_ _)); refine blk_far ?_ NB420_415.out _; (with_reducible repeat (first | refine blk_drewN ?_ _ | refine blk_drew ?_ | refine blk_alloc ?_ _)); refine blk_far ?_ NB420_415.out _; (with_reducible repeat (first | refine blk_drewN ?_ _ | refine blk_drew ?_ | refine blk_alloc ?_ _)); refine blk_far ?_ NB420_415.out _; (with_reducible repeat (first | refine blk_drewN ?_ _ | refine blk_drew ?_ | refine blk_alloc ?_ _)); refine blk_far ?_ NB420_415.out _; (with_reducible repeat (first | refine blk_drewN ?_ _ | refine blk_drew ?_ | refine blk_alloc ?_ _)); exact BK420.out⟩
                        have n3_ : Aside0 (Below w.heap.size w ((((w60.setCell ⟨gb415, 0, none⟩ (.bool t422)).setCell ⟨gb415, 1, none⟩ (.bool t423)).setCell ⟨gb415, 2, none⟩ (.int .i64 t424)).setCell ⟨gb415, 3, none⟩ (.bool t425))) := ⟨by repeat (first | (with_reducible first | exact HB.out | apply below_alloc | apply pw_below_drewN | apply below_drew1 | refine below_set ?_ GE410.out | refine below_set ?_ GE415.out | refine below_set ?_ GE420.out) | exact HB.out)⟩
                        (try clear BK410)
                        (try clear BK415)
                        (try clear BK420)
                        (try clear HB)
                        generalize ((((w60.setCell ⟨gb415, 0, none⟩ (.bool t422)).setCell ⟨gb415, 1, none⟩ (.bool t423)).setCell ⟨gb415, 2, none⟩ (.int .i64 t424)).setCell ⟨gb415, 3, none⟩ (.bool t425)) = w65 at n0_ n1_ n2_ n3_ ⊢
                        have BK410 := n0_
                        have BK415 := n1_
                        have BK420 := n2_
                        have HB := n3_
                        clear n0_ n1_ n2_ n3_
                        have n0_ := Aside0.mk (blk_drew BK410.out)
                        have n1_ := Aside0.mk (blk_drew BK415.out)
                        have n2_ := Aside0.mk (blk_drew BK420.out)
                        have n3_ := Aside0.mk (below_drew1 HB.out)
                        clear BK410
                        clear BK415
                        clear BK420
                        clear HB
                        have BK410 := n0_
                        have BK415 := n1_
                        have BK420 := n2_
                        have HB := n3_
                        clear n0_ n1_ n2_ n3_
                        have p426 : 0 ≤ (x11_1 : Int) := of_decide_eq_true (by first | (with_reducible assumption) | assumption)
                        have q426 : x11_1 < (l2.length : Int) := of_decide_eq_true (by first | (with_reducible assumption) | assumption)
                        obtain ⟨ad426, e426, hx426_0, hx426_1, hx426_2⟩ := at_T47 HR2.out x11_1 p426 q426
                        have hw426_2 := hx426_2
                        have hw426_1 := hx426_1
                        have hw426_0 := hx426_0
                        obtain rfl : ad421 = ad426 := (by injection e426)
                        replace hx426_0 := (HB.out.cell (World.block_lt_of_cell? w _ hx426_0)).trans hx426_0
                        replace hx426_1 := (HB.out.cell (World.block_lt_of_cell? w _ hx426_1)).trans hx426_1
                        replace hx426_2 := (HB.out.cell (World.block_lt_of_cell? w _ hx426_2)).trans hx426_2
                        replace p426 := eq_true p426
                        replace q426 := eq_true q426
                        refine start_ (n := 7) (S := fun w' => w'.cell? ⟨gb420, 0, none⟩ = some (.bool x421000_1) ∧ w'.cell? ⟨gb420, 1, none⟩ = some (.bool x421001_1) ∧ w'.cell? ⟨gb420, 2, none⟩ = some (.int .i64 x421002_1) ∧ w'.cell? ⟨gb420, 3, none⟩ = some (.bool x421003_1) ∧ w'.cell? (ad421.add ((x11_1).toNat * 3)) = some (.int .u8 ((rd_T47 l2 x11_1).f0)) ∧ w'.cell? ⟨(ad421.add ((x11_1).toNat * 3)).block, (ad421.add ((x11_1).toNat * 3)).off + 1, none⟩ = some (.bool ((rd_T47 l2 x11_1).f1)) ∧ w'.cell? ⟨(ad421.add ((x11_1).toNat * 3)).block, (ad421.add ((x11_1).toNat * 3)).off + 2, none⟩ = some (.bool ((rd_T47 l2 x11_1).f2))) (ds := [6]) #[false, false, false, false, false, false, false] (by kernel_rfl) rfl rfl ⟨(blk_cell BK420.out 0).trans rfl, (blk_cell BK420.out 1).trans rfl, (blk_cell BK420.out 2).trans rfl, (blk_cell BK420.out 3).trans rfl, ((HB.out.cell (World.block_lt_of_cell? w _ hw426_0)).trans hw426_0), ((HB.out.cell (World.block_lt_of_cell? w _ hw426_1)).trans hw426_1), ((HB.out.cell (World.block_lt_of_cell? w _ hw426_2)).trans hw426_2)⟩ (fun hHeld => ?_)
                        generalize w65.drew = w66 at BK410 BK415 BK420 HB hx426_0 hx426_1 hx426_2 hHeld ⊢
                        refine pure_ (i := 1) (N := some 51) (v := ?_) (a' := ?_) #[false, true, false, false, false, false, false] rfl rfl (by kernel_rfl) (fun _ _ _ h => h) (Or.inl ⟨by rfl, ?_⟩) ?_ ?_
                        rotate_left
                        · intro w'
                          go_simp
                          with_reducible rfl
                        rotate_left
                        · simp only [Act.put, List.setIfInBounds_toArray, List.set_cons_zero, List.set_cons_succ, i64_w, i32_w]
                          rfl
                        refine pure_ (i := 2) (N := some 52) (v := ?_) (a' := ?_) #[false, true, true, false, false, false, false] rfl rfl (by kernel_rfl) (fun _ _ _ h => h) (Or.inl ⟨by rfl, ?_⟩) ?_ ?_
                        rotate_left
                        · intro w'
                          go_simp
                          with_reducible rfl
                        rotate_left
                        · simp only [Act.put, List.setIfInBounds_toArray, List.set_cons_zero, List.set_cons_succ, i64_w, i32_w]
                          rfl
                        refine pure_ (i := 3) (N := some 53) (v := ?_) (a' := ?_) #[false, true, true, true, false, false, false] rfl rfl (by kernel_rfl) (fun _ _ _ h => h) (Or.inl ⟨by rfl, ?_⟩) ?_ ?_
                        rotate_left
                        · intro w'
                          go_simp
                          with_reducible rfl
                        rotate_left
                        · simp only [Act.put, List.setIfInBounds_toArray, List.set_cons_zero, List.set_cons_succ, i64_w, i32_w]
                          rfl
                        refine take_ (i := 0) (N := some 50) (v := ?_) (a' := ?_) #[true, true, true, true, false, false, false] rfl rfl (by kernel_rfl) (fun _ _ _ h => h) (Or.inl ⟨by rfl, ?_⟩) hHeld ?_ ?_
                        rotate_left
                        · rintro w' ⟨s0, s1, s2, s3, s4, s5, s6⟩
                          go_simp
                          with_reducible rfl
                        rotate_left
                        · simp only [Act.put, List.setIfInBounds_toArray, List.set_cons_zero, List.set_cons_succ, i64_w, i32_w]
                          rfl
                        refine take_ (i := 4) (N := some 54) (v := ?_) (a' := ?_) #[true, true, true, true, true, false, false] rfl rfl (by kernel_rfl) (fun _ _ _ h => h) (Or.inl ⟨by rfl, ?_⟩) hHeld ?_ ?_
                        rotate_left
                        · rintro w' ⟨s0, s1, s2, s3, s4, s5, s6⟩
                          go_simp
                          with_reducible rfl
                        rotate_left
                        · simp only [Act.put, List.setIfInBounds_toArray, List.set_cons_zero, List.set_cons_succ, i64_w, i32_w]
                          rfl
                        refine one_ (i := 5) (N := some 55) #[true, true, true, true, true, true, false] rfl rfl (by kernel_rfl) (by decide) (fun K hK => ?_)
                        refine goes_ Try.func28 (by kernel_rfl) rfl #[.agg #[.bool x421000_1, .bool x421001_1, .int .i64 x421002_1, .bool x421003_1], .agg #[.int .u8 ((rd_T47 l2 x11_1).f0), .bool ((rd_T47 l2 x11_1).f1), .bool ((rd_T47 l2 x11_1).f2)]] (by rfl) rfl rfl (by (try simp only [List.map_toArray, List.map_cons, List.map_nil]); first | done | rfl | (simp only [List.length_drop, List.length_take]; rfl)) ?_
                        with_reducible refine (ambidexterlaw26_step.calls x421000_1 x421001_1 x421002_1 x421003_1 ((rd_T47 l2 x11_1).f0) ((rd_T47 l2 x11_1).f1) ((rd_T47 l2 x11_1).f2) t427 t428 t429 t430 _ A31.out).mono ?_
                        rintro e w67 ⟨rfl, hb⟩
                        refine ⟨_, rfl, ?_⟩
                        have n0_ := Aside0.mk (blk_below (g := gb410) (o := .cells #[.bool x411000_1, .bool x411001_1, .int .i64 x411002_1, .bool x411003_1] 44 (0, 0)) (by (with_reducible repeat (first | refine blk_drewN ?_ _ | refine blk_drew ?_ | refine blk_alloc ?_ _)); exact BK410.out) hb)
                        have n1_ := Aside0.mk (blk_below (g := gb415) (o := .cells #[.bool t422, .bool t423, .int .i64 t424, .bool t425] 44 (0, 0)) (by (with_reducible repeat (first | refine blk_drewN ?_ _ | refine blk_drew ?_ | refine blk_alloc ?_ _)); exact BK415.out) hb)
                        have n2_ := Aside0.mk (blk_below (g := gb420) (o := .cells #[.bool x421000_1, .bool x421001_1, .int .i64 x421002_1, .bool x421003_1] 44 (0, 0)) (by (with_reducible repeat (first | refine blk_drewN ?_ _ | refine blk_drew ?_ | refine blk_alloc ?_ _)); exact BK420.out) hb)
                        have n3_ := Aside0.mk (below_step (by repeat (first | (with_reducible first | exact HB.out | apply below_alloc | apply pw_below_drewN | apply below_drew1 | refine below_set ?_ GE410.out | refine below_set ?_ GE415.out | refine below_set ?_ GE420.out) | exact HB.out)) hb)
                        clear BK410
                        clear BK415
                        clear BK420
                        clear HB
                        have BK410 := n0_
                        have BK415 := n1_
                        have BK420 := n2_
                        have HB := n3_
                        clear n0_ n1_ n2_ n3_
                        (try clear hb)
                        (try clear hb2)
                        (try clear hk)
                        (try clear hi)
                        refine hK.out _ _ ⟨(blk_cell BK420.out 0).trans rfl, (blk_cell BK420.out 1).trans rfl, (blk_cell BK420.out 2).trans rfl, (blk_cell BK420.out 3).trans rfl, ((HB.out.cell (World.block_lt_of_cell? w _ hw426_0)).trans hw426_0), ((HB.out.cell (World.block_lt_of_cell? w _ hw426_1)).trans hw426_1), ((HB.out.cell (World.block_lt_of_cell? w _ hw426_2)).trans hw426_2)⟩ (fun hHeld => ?_)
                        clear hK K
                        refine norm_ (a' := ?_) ?_ ?_
                        rotate_left
                        · show Act.put _ (some 55) _ = _
                          simp only [Act.put, List.setIfInBounds_toArray, List.set_cons_zero, List.set_cons_succ, i64_w, i32_w]
                          rfl
                        refine last_ (i := 6) (N := none) #[true, true, true, true, true, true, true] rfl rfl (by kernel_rfl) (by decide) (fun K hK => ?_)
                        have hs68 : w67.cell? ⟨gb420, 0, none⟩ = some (.bool x421000_1) := (blk_cell BK420.out 0).trans rfl
                        have hfs68 := blk_frozen BK420.out 0
                        have hns68_0 := NB410_420.out
                        have hns68_1 := NB415_420.out
                        have hms68_0 := NB420_410.out
                        have hms68_1 := NB420_415.out
                        have hs69 : w67.cell? ⟨gb420, 1, none⟩ = some (.bool x421001_1) := (blk_cell BK420.out 1).trans rfl
                        have hfs69 := blk_frozen BK420.out 1
                        have hns69_0 := NB410_420.out
                        have hns69_1 := NB415_420.out
                        have hms69_0 := NB420_410.out
                        have hms69_1 := NB420_415.out
                        have hs70 : w67.cell? ⟨gb420, 2, none⟩ = some (.int .i64 x421002_1) := (blk_cell BK420.out 2).trans rfl
                        have hfs70 := blk_frozen BK420.out 2
                        have hns70_0 := NB410_420.out
                        have hns70_1 := NB415_420.out
                        have hms70_0 := NB420_410.out
                        have hms70_1 := NB420_415.out
                        have hs71 : w67.cell? ⟨gb420, 3, none⟩ = some (.bool x421003_1) := (blk_cell BK420.out 3).trans rfl
                        have hfs71 := blk_frozen BK420.out 3
                        have hns71_0 := NB410_420.out
                        have hns71_1 := NB415_420.out
                        have hms71_0 := NB420_410.out
                        have hms71_1 := NB420_415.out
                        refine skip_ (w1 := ?_) (by rfl) rfl ?_ ?_
                        rotate_left
                        · go_simp
                          rfl
                        refine hK.out _ _ ?_
                        clear hK K
                        refine done_ (by kernel_rfl) ?_
                        have hnb72 := NB415_410.out
                        have hnc72 := NB410_415.out
                        have hnb73 := NB415_420.out
                        have hnc73 := NB420_415.out
                        have hcz74_0 : w67.cell? ⟨gb415, 0, none⟩ = some (.bool t422) := (blk_cell BK415.out 0).trans rfl
                        have hcz74_1 : w67.cell? ⟨gb415, 1, none⟩ = some (.bool t423) := (blk_cell BK415.out 1).trans rfl
                        have hcz74_2 : w67.cell? ⟨gb415, 2, none⟩ = some (.int .i64 t424) := (blk_cell BK415.out 2).trans rfl
                        have hcz74_3 : w67.cell? ⟨gb415, 3, none⟩ = some (.bool t425) := (blk_cell BK415.out 3).trans rfl
                        have hfz74_0 := blk_frozen BK415.out 0
                        have hfz74_1 := blk_frozen BK415.out 1
                        have hfz74_2 := blk_frozen BK415.out 2
                        have hfz74_3 := blk_frozen BK415.out 3
                        have hnb75 := NB420_410.out
                        have hnc75 := NB410_420.out
                        have hcz76_0 : w67.cell? ⟨gb420, 0, none⟩ = some (.bool x421000_1) := (blk_cell BK420.out 0).trans rfl
                        have hcz76_1 : w67.cell? ⟨gb420, 1, none⟩ = some (.bool x421001_1) := (blk_cell BK420.out 1).trans rfl
                        have hcz76_2 : w67.cell? ⟨gb420, 2, none⟩ = some (.int .i64 x421002_1) := (blk_cell BK420.out 2).trans rfl
                        have hcz76_3 : w67.cell? ⟨gb420, 3, none⟩ = some (.bool x421003_1) := (blk_cell BK420.out 3).trans rfl
                        have hfz76_0 := blk_frozen BK420.out 0
                        have hfz76_1 := blk_frozen BK420.out 1
                        have hfz76_2 := blk_frozen BK420.out 2
                        have hfz76_3 := blk_frozen BK420.out 3
                        have p431 : 0 ≤ (x11_1 : Int) := of_decide_eq_true (by first | (with_reducible assumption) | assumption)
                        have q431 : x11_1 < (l2.length : Int) := of_decide_eq_true (by first | (with_reducible assumption) | assumption)
                        obtain ⟨ad431, e431, hx431_0, hx431_1, hx431_2⟩ := at_T47 HR2.out x11_1 p431 q431
                        obtain rfl : ad421 = ad431 := (by injection e431)
                        have hn431_0 : ad421.block ≠ gb420 := Nat.ne_of_lt (Nat.lt_of_lt_of_le (by have := World.block_lt_of_cell? _ _ hx431_0; first | rwa [add_block] at this | exact this) GW420.out)
                        have hn431_1 : ad421.block ≠ gb420 := Nat.ne_of_lt (Nat.lt_of_lt_of_le (by have := World.block_lt_of_cell? _ _ hx431_0; first | rwa [add_block] at this | exact this) GW420.out)
                        have hn431_2 : ad421.block ≠ gb420 := Nat.ne_of_lt (Nat.lt_of_lt_of_le (by have := World.block_lt_of_cell? _ _ hx431_0; first | rwa [add_block] at this | exact this) GW420.out)
                        have hn431_3 : ad421.block ≠ gb420 := Nat.ne_of_lt (Nat.lt_of_lt_of_le (by have := World.block_lt_of_cell? _ _ hx431_0; first | rwa [add_block] at this | exact this) GW420.out)
                        replace hx431_0 := (HB.out.cell (World.block_lt_of_cell? w _ hx431_0)).trans hx431_0
                        replace hx431_1 := (HB.out.cell (World.block_lt_of_cell? w _ hx431_1)).trans hx431_1
                        replace hx431_2 := (HB.out.cell (World.block_lt_of_cell? w _ hx431_2)).trans hx431_2
                        replace hx431_0 := (cell_far (p := ⟨gb420, 0, none⟩) (by first | (rw [add_block]; exact hn431_0) | (show (Addr.add _ _).block ≠ _; rw [add_block]; exact hn431_0) | exact hn431_0) (.bool t427)).trans hx431_0
                        replace hx431_1 := (cell_far (p := ⟨gb420, 0, none⟩) (by first | (rw [add_block]; exact hn431_0) | (show (Addr.add _ _).block ≠ _; rw [add_block]; exact hn431_0) | exact hn431_0) (.bool t427)).trans hx431_1
                        replace hx431_2 := (cell_far (p := ⟨gb420, 0, none⟩) (by first | (rw [add_block]; exact hn431_0) | (show (Addr.add _ _).block ≠ _; rw [add_block]; exact hn431_0) | exact hn431_0) (.bool t427)).trans hx431_2
                        replace hx431_0 := (cell_far (p := ⟨gb420, 1, none⟩) (by first | (rw [add_block]; exact hn431_1) | (show (Addr.add _ _).block ≠ _; rw [add_block]; exact hn431_1) | exact hn431_1) (.bool t428)).trans hx431_0
                        replace hx431_1 := (cell_far (p := ⟨gb420, 1, none⟩) (by first | (rw [add_block]; exact hn431_1) | (show (Addr.add _ _).block ≠ _; rw [add_block]; exact hn431_1) | exact hn431_1) (.bool t428)).trans hx431_1
                        replace hx431_2 := (cell_far (p := ⟨gb420, 1, none⟩) (by first | (rw [add_block]; exact hn431_1) | (show (Addr.add _ _).block ≠ _; rw [add_block]; exact hn431_1) | exact hn431_1) (.bool t428)).trans hx431_2
                        replace hx431_0 := (cell_far (p := ⟨gb420, 2, none⟩) (by first | (rw [add_block]; exact hn431_2) | (show (Addr.add _ _).block ≠ _; rw [add_block]; exact hn431_2) | exact hn431_2) (.int .i64 t429)).trans hx431_0
                        replace hx431_1 := (cell_far (p := ⟨gb420, 2, none⟩) (by first | (rw [add_block]; exact hn431_2) | (show (Addr.add _ _).block ≠ _; rw [add_block]; exact hn431_2) | exact hn431_2) (.int .i64 t429)).trans hx431_1
                        replace hx431_2 := (cell_far (p := ⟨gb420, 2, none⟩) (by first | (rw [add_block]; exact hn431_2) | (show (Addr.add _ _).block ≠ _; rw [add_block]; exact hn431_2) | exact hn431_2) (.int .i64 t429)).trans hx431_2
                        replace hx431_0 := (cell_far (p := ⟨gb420, 3, none⟩) (by first | (rw [add_block]; exact hn431_3) | (show (Addr.add _ _).block ≠ _; rw [add_block]; exact hn431_3) | exact hn431_3) (.bool t430)).trans hx431_0
                        replace hx431_1 := (cell_far (p := ⟨gb420, 3, none⟩) (by first | (rw [add_block]; exact hn431_3) | (show (Addr.add _ _).block ≠ _; rw [add_block]; exact hn431_3) | exact hn431_3) (.bool t430)).trans hx431_1
                        replace hx431_2 := (cell_far (p := ⟨gb420, 3, none⟩) (by first | (rw [add_block]; exact hn431_3) | (show (Addr.add _ _).block ≠ _; rw [add_block]; exact hn431_3) | exact hn431_3) (.bool t430)).trans hx431_2
                        clear hn431_0
                        clear hn431_1
                        clear hn431_2
                        clear hn431_3
                        replace p431 := eq_true p431
                        replace q431 := eq_true q431
                        have p432 : 0 ≤ (x11_1 : Int) := of_decide_eq_true (by first | (with_reducible assumption) | assumption)
                        have q432 : x11_1 < (l2.length : Int) := of_decide_eq_true (by first | (with_reducible assumption) | assumption)
                        obtain ⟨ad432, e432, hx432_0, hx432_1, hx432_2⟩ := at_T47 HR2.out x11_1 p432 q432
                        obtain rfl : ad421 = ad432 := (by injection e432)
                        have hn432_0 : ad421.block ≠ gb420 := Nat.ne_of_lt (Nat.lt_of_lt_of_le (by have := World.block_lt_of_cell? _ _ hx432_0; first | rwa [add_block] at this | exact this) GW420.out)
                        have hn432_1 : ad421.block ≠ gb420 := Nat.ne_of_lt (Nat.lt_of_lt_of_le (by have := World.block_lt_of_cell? _ _ hx432_0; first | rwa [add_block] at this | exact this) GW420.out)
                        have hn432_2 : ad421.block ≠ gb420 := Nat.ne_of_lt (Nat.lt_of_lt_of_le (by have := World.block_lt_of_cell? _ _ hx432_0; first | rwa [add_block] at this | exact this) GW420.out)
                        have hn432_3 : ad421.block ≠ gb420 := Nat.ne_of_lt (Nat.lt_of_lt_of_le (by have := World.block_lt_of_cell? _ _ hx432_0; first | rwa [add_block] at this | exact this) GW420.out)
                        replace hx432_0 := (HB.out.cell (World.block_lt_of_cell? w _ hx432_0)).trans hx432_0
                        replace hx432_1 := (HB.out.cell (World.block_lt_of_cell? w _ hx432_1)).trans hx432_1
                        replace hx432_2 := (HB.out.cell (World.block_lt_of_cell? w _ hx432_2)).trans hx432_2
                        replace hx432_0 := (cell_far (p := ⟨gb420, 0, none⟩) (by first | (rw [add_block]; exact hn432_0) | (show (Addr.add _ _).block ≠ _; rw [add_block]; exact hn432_0) | exact hn432_0) (.bool t427)).trans hx432_0
                        replace hx432_1 := (cell_far (p := ⟨gb420, 0, none⟩) (by first | (rw [add_block]; exact hn432_0) | (show (Addr.add _ _).block ≠ _; rw [add_block]; exact hn432_0) | exact hn432_0) (.bool t427)).trans hx432_1
                        replace hx432_2 := (cell_far (p := ⟨gb420, 0, none⟩) (by first | (rw [add_block]; exact hn432_0) | (show (Addr.add _ _).block ≠ _; rw [add_block]; exact hn432_0) | exact hn432_0) (.bool t427)).trans hx432_2
                        replace hx432_0 := (cell_far (p := ⟨gb420, 1, none⟩) (by first | (rw [add_block]; exact hn432_1) | (show (Addr.add _ _).block ≠ _; rw [add_block]; exact hn432_1) | exact hn432_1) (.bool t428)).trans hx432_0
                        replace hx432_1 := (cell_far (p := ⟨gb420, 1, none⟩) (by first | (rw [add_block]; exact hn432_1) | (show (Addr.add _ _).block ≠ _; rw [add_block]; exact hn432_1) | exact hn432_1) (.bool t428)).trans hx432_1
                        replace hx432_2 := (cell_far (p := ⟨gb420, 1, none⟩) (by first | (rw [add_block]; exact hn432_1) | (show (Addr.add _ _).block ≠ _; rw [add_block]; exact hn432_1) | exact hn432_1) (.bool t428)).trans hx432_2
                        replace hx432_0 := (cell_far (p := ⟨gb420, 2, none⟩) (by first | (rw [add_block]; exact hn432_2) | (show (Addr.add _ _).block ≠ _; rw [add_block]; exact hn432_2) | exact hn432_2) (.int .i64 t429)).trans hx432_0
                        replace hx432_1 := (cell_far (p := ⟨gb420, 2, none⟩) (by first | (rw [add_block]; exact hn432_2) | (show (Addr.add _ _).block ≠ _; rw [add_block]; exact hn432_2) | exact hn432_2) (.int .i64 t429)).trans hx432_1
                        replace hx432_2 := (cell_far (p := ⟨gb420, 2, none⟩) (by first | (rw [add_block]; exact hn432_2) | (show (Addr.add _ _).block ≠ _; rw [add_block]; exact hn432_2) | exact hn432_2) (.int .i64 t429)).trans hx432_2
                        replace hx432_0 := (cell_far (p := ⟨gb420, 3, none⟩) (by first | (rw [add_block]; exact hn432_3) | (show (Addr.add _ _).block ≠ _; rw [add_block]; exact hn432_3) | exact hn432_3) (.bool t430)).trans hx432_0
                        replace hx432_1 := (cell_far (p := ⟨gb420, 3, none⟩) (by first | (rw [add_block]; exact hn432_3) | (show (Addr.add _ _).block ≠ _; rw [add_block]; exact hn432_3) | exact hn432_3) (.bool t430)).trans hx432_1
                        replace hx432_2 := (cell_far (p := ⟨gb420, 3, none⟩) (by first | (rw [add_block]; exact hn432_3) | (show (Addr.add _ _).block ≠ _; rw [add_block]; exact hn432_3) | exact hn432_3) (.bool t430)).trans hx432_2
                        clear hn432_0
                        clear hn432_1
                        clear hn432_2
                        clear hn432_3
                        replace p432 := eq_true p432
                        replace q432 := eq_true q432
                        have hcz77_0 : w67.cell? ⟨gb410, 0, none⟩ = some (.bool x411000_1) := (blk_cell BK410.out 0).trans rfl
                        have hcz77_1 : w67.cell? ⟨gb410, 1, none⟩ = some (.bool x411001_1) := (blk_cell BK410.out 1).trans rfl
                        have hcz77_2 : w67.cell? ⟨gb410, 2, none⟩ = some (.int .i64 x411002_1) := (blk_cell BK410.out 2).trans rfl
                        have hcz77_3 : w67.cell? ⟨gb410, 3, none⟩ = some (.bool x411003_1) := (blk_cell BK410.out 3).trans rfl
                        have hfz77_0 := blk_frozen BK410.out 0
                        have hfz77_1 := blk_frozen BK410.out 1
                        have hfz77_2 := blk_frozen BK410.out 2
                        have hfz77_3 := blk_frozen BK410.out 3
                        try go_wp2_with (first | ((with_reducible refine gate_callee (f := 35) rfl ?_); refine goesL_ (some 76) rfl rfl Try.func35 (by kernel_rfl) rfl #[.agg #[.bool x411000_1, .bool x411001_1, .int .i64 x411002_1, .bool x411003_1], .bool ((rd_T47 l2 x11_1).f1), .bool ((rd_T47 l2 x11_1).f2)] rfl (by (try simp only [List.map_toArray, List.map_cons, List.map_nil]); first | done | rfl | (simp only [List.length_drop, List.length_take]; rfl)) ?_; (with_reducible refine (dualchannel_Observe.calls x411000_1 x411001_1 x411002_1 x411003_1 ((rd_T47 l2 x11_1).f1) ((rd_T47 l2 x11_1).f2) t437 t438 t439 false _ A57.out).mono ?_); rintro e w78 ⟨rfl, hb⟩; refine ⟨_, rfl, ?_⟩; have n0_ := Aside0.mk (blk_below (g := gb410) (o := .cells #[.bool x411000_1, .bool x411001_1, .int .i64 x411002_1, .bool x411003_1] 44 (0, 0)) (by (with_reducible repeat (first | refine blk_drewN ?_ _ | refine blk_drew ?_ | refine blk_alloc ?_ _)); refine blk_far ?_ NB410_420.out _; (with_reducible repeat (first | refine blk_drewN ?_ _ | refine blk_drew ?_ | refine blk_alloc ?_ _)); refine blk_far ?_ NB410_420.out _; (with_reducible repeat (first | refine blk_drewN ?_ _ | refine blk_drew ?_ | refine blk_alloc ?_ _)); refine blk_far ?_ NB410_420.out _; (with_reducible repeat (first | refine blk_drewN ?_ _ | refine blk_drew ?_ | refine blk_alloc ?_ _)); refine blk_far ?_ NB410_420.out _; (with_reducible repeat (first | refine blk_drewN ?_ _ | refine blk_drew ?_ | refine blk_alloc ?_ _)); exact BK410.out) hb); have n1_ := Aside0.mk (blk_below (g := gb415) (o := .cells #[.bool t422, .bool t423, .int .i64 t424, .bool t425] 44 (0, 0)) (by (with_reducible repeat (first | refine blk_drewN ?_ _ | refine blk_drew ?_ | refine blk_alloc ?_ _)); refine blk_far ?_ NB415_420.out _; (with_reducible repeat (first | refine blk_drewN ?_ _ | refine blk_drew ?_ | refine blk_alloc ?_ _)); refine blk_far ?_ NB415_420.out _; (with_reducible repeat (first | refine blk_drewN ?_ _ | refine blk_drew ?_ | refine blk_alloc ?_ _)); refine blk_far ?_ NB415_420.out _; (with_reducible repeat (first | refine blk_drewN ?_ _ | refine blk_drew ?_ | refine blk_alloc ?_ _)); refine blk_far ?_ NB415_420.out _; (with_reducible repeat (first | refine blk_drewN ?_ _ | refine blk_drew ?_ | refine blk_alloc ?_ _)); exact BK415.out) hb); have n2_ := Aside0.mk (blk_below (g := gb420) (o := .cells #[.bool t427, .bool t428, .int .i64 t429, .bool t430] 44 (0, 0)) (by (with_reducible repeat (first | refine blk_drewN ?_ _ | refine blk_drew ?_ | refine blk_alloc ?_ _)); refine blk_put (cs := #[.bool t427, .bool t428, .int .i64 t429, .bool x421003_1]) ?_ 3 _ rfl; (with_reducible repeat (first | refine blk_drewN ?_ _ | refine blk_drew ?_ | refine blk_alloc ?_ _)); refine blk_put (cs := #[.bool t427, .bool t428, .int .i64 x421002_1, .bool x421003_1]) ?_ 2 _ rfl; (with_reducible repeat (first | refine blk_drewN ?_ _ | refine blk_drew ?_ | refine blk_alloc ?_ _)); refine blk_put (cs := #[.bool t427, .bool x421001_1, .int .i64 x421002_1, .bool x421003_1]) ?_ 1 _ rfl; (with_reducible repeat (first | refine blk_drewN ?_ _ | refine blk_drew ?_ | refine blk_alloc ?_ _)); refine blk_put (cs := #[.bool x421000_1, .bool x421001_1, .int .i64 x421002_1, .bool x421003_1]) ?_ 0 _ rfl; (with_reducible repeat (first | refine blk_drewN ?_ _ | refine blk_drew ?_ | refine blk_alloc ?_ _)); exact BK420.out) hb); have n3_ := Aside0.mk (below_step (by repeat (first | (with_reducible first | exact HB.out | apply below_alloc | apply pw_below_drewN | apply below_drew1 | refine below_set ?_ GE410.out | refine below_set ?_ GE415.out | refine below_set ?_ GE420.out) | exact HB.out)) hb); clear BK410; clear BK415; clear BK420; clear HB; have BK410 := n0_; have BK415 := n1_; have BK420 := n2_; have HB := n3_; clear n0_ n1_ n2_ n3_; (try clear hb); (try clear hb2); (try clear hk); (try clear hi); have hcz79_0 : w78.cell? ⟨gb410, 0, none⟩ = some (.bool x411000_1) := (blk_cell BK410.out 0).trans rfl; have hcz79_1 : w78.cell? ⟨gb410, 1, none⟩ = some (.bool x411001_1) := (blk_cell BK410.out 1).trans rfl; have hcz79_2 : w78.cell? ⟨gb410, 2, none⟩ = some (.int .i64 x411002_1) := (blk_cell BK410.out 2).trans rfl; have hcz79_3 : w78.cell? ⟨gb410, 3, none⟩ = some (.bool x411003_1) := (blk_cell BK410.out 3).trans rfl; have hfz79_0 := blk_frozen BK410.out 0; have hfz79_1 := blk_frozen BK410.out 1; have hfz79_2 := blk_frozen BK410.out 2; have hfz79_3 := blk_frozen BK410.out 3))
                        go_roundg kj24
                        case measure => have := HK1.out; have := HJ24.out; omega
                        case rel => exact ⟨(wrap64 (x11_1 + 1)), (t437), (t438), (t439), (false), (t422), (t423), (t424), (t425), (t427), (t428), (t429), (t430), (by first | rfl | (simp; done) | (simp [*]; done)), H', ⟨by have := HK1.out; have := HJ24.out; omega⟩, ⟨by (with_reducible repeat (first | refine blk_drewN ?_ _ | refine blk_drew ?_ | refine blk_alloc ?_ _)); refine blk_put (cs := #[.bool t437, .bool t438, .int .i64 t439, .bool x411003_1]) ?_ 3 _ rfl; (with_reducible repeat (first | refine blk_drewN ?_ _ | refine blk_drew ?_ | refine blk_alloc ?_ _)); refine blk_put (cs := #[.bool t437, .bool t438, .int .i64 x411002_1, .bool x411003_1]) ?_ 2 _ rfl; (with_reducible repeat (first | refine blk_drewN ?_ _ | refine blk_drew ?_ | refine blk_alloc ?_ _)); refine blk_put (cs := #[.bool t437, .bool x411001_1, .int .i64 x411002_1, .bool x411003_1]) ?_ 1 _ rfl; (with_reducible repeat (first | refine blk_drewN ?_ _ | refine blk_drew ?_ | refine blk_alloc ?_ _)); refine blk_put (cs := #[.bool x411000_1, .bool x411001_1, .int .i64 x411002_1, .bool x411003_1]) ?_ 0 _ rfl; (with_reducible repeat (first | refine blk_drewN ?_ _ | refine blk_drew ?_ | refine blk_alloc ?_ _)); exact BK410.out⟩, ⟨by (with_reducible repeat (first | refine blk_drewN ?_ _ | refine blk_drew ?_ | refine blk_alloc ?_ _)); refine blk_far ?_ NB415_410.out _; (with_reducible repeat (first | refine blk_drewN ?_ _ | refine blk_drew ?_ | refine blk_alloc ?_ _)); refine blk_far ?_ NB415_410.out _; (with_reducible repeat (first | refine blk_drewN ?_ _ | refine blk_drew ?_ | refine blk_alloc ?_ _)); refine blk_far ?_ NB415_410.out _; (with_reducible repeat (first | refine blk_drewN ?_ _ | refine blk_drew ?_ | refine blk_alloc ?_ _)); refine blk_far ?_ NB415_410.out _; (with_reducible repeat (first | refine blk_drewN ?_ _ | refine blk_drew ?_ | refine blk_alloc ?_ _)); exact BK415.out⟩, ⟨by (with_reducible repeat (first | refine blk_drewN ?_ _ | refine blk_drew ?_ | refine blk_alloc ?_ _)); refine blk_far ?_ NB420_410.out _; (with_reducible repeat (first | refine blk_drewN ?_ _ | refine blk_drew ?_ | refine blk_alloc ?_ _)); refine blk_far ?_ NB420_410.out _; (with_reducible repeat (first | refine blk_drewN ?_ _ | refine blk_drew ?_ | refine blk_alloc ?_ _)); refine blk_far ?_ NB420_410.out _; (with_reducible repeat (first | refine blk_drewN ?_ _ | refine blk_drew ?_ | refine blk_alloc ?_ _)); refine blk_far ?_ NB420_410.out _; (with_reducible repeat (first | refine blk_drewN ?_ _ | refine blk_drew ?_ | refine blk_alloc ?_ _)); exact BK420.out⟩, ⟨by repeat (first | (with_reducible first | exact HB.out | apply below_alloc | apply pw_below_drewN | apply below_drew1 | refine below_set ?_ GE410.out | refine below_set ?_ GE415.out | refine below_set ?_ GE420.out) | exact HB.out)⟩⟩
                · rw [if_neg c29] at H
                  exact absurd H (by simp)
              · rw [if_neg c28] at H
                exact absurd H (by simp)
            · replace c27 := Bool.eq_false_iff.mpr c27
              subst c27
              have H1 : (some true) = some r := by rw [if_neg (show ¬ (false = true) by decide)] at H; exact H
              clear H
              have H := H1
              clear H1
              obtain rfl := Option.some.inj H
              go_wp2
              go_ret
              exact ⟨by first | rfl | (simp [errW_none, errW_some] <;> rfl) | (simp [*, errW_none, errW_some] <;> rfl), by repeat (first | (with_reducible first | exact HB.out | apply below_alloc | apply pw_below_drewN | apply below_drew1 | refine below_set ?_ GE410.out | refine below_set ?_ GE415.out | refine below_set ?_ GE420.out) | exact HB.out)⟩

end Go.Proofs.Ythnbcedpdjingaa.P
