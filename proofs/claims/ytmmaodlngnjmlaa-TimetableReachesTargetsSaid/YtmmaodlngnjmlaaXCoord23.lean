/- timetable.Coordinated at the two schedules of the head's examples. -/
import Derived.Test.YtmmaodlngnjmlaaP4
import Derived.Test.YtmmaodlngnjmlaaP1
import Derived.LoopN
import Derived.Deep.RegionHeld3
import Derived.Test.YtmmaodlngnjmlaaXShorts2
namespace Go.Proofs.Ytmmaodlngnjmlaa.Coord
set_option linter.unusedVariables false
set_option linter.unusedSimpArgs false
open Go Go.RowKit Go.Proofs.Ytmmaodlngnjmlaa Go.Proofs.YtmmaodlngnjmlaaW.PrintWords Go.Proofs.YtmmaodlngnjmlaaW.PrintMore Go.Proofs.YtmmaodlngnjmlaaW.PrintLast Go.Proofs.Ytmmaodlngnjmlaa.P
theorem of0 : ∃ k, timetable_of.f k 0 [(⟨0, 0, 1⟩ : S63)] = some true := ⟨3, by kernel_rfl⟩
theorem of1 : timetable_of.f 3 1 ([] : List S63) = some true := by kernel_rfl
theorem of2 : timetable_of.f 3 1 [(⟨1, 0, 1⟩ : S63)] = some true := by kernel_rfl
theorem of3 : timetable_of.f 3 0 [(⟨0, 0, 1⟩ : S63)] = some true := by kernel_rfl
theorem valid : profile_ValidLimits.f 8 4 2 = some true := by kernel_rfl
theorem blk_in {W W' : World} {b : Nat} {o : Obj} (h : W.heap[b]? = some o) (hB : Below W.heap.size W W') : W'.heap[b]? = some o := (hB.block b (Array.getElem?_eq_some_iff.1 h).1).trans h
theorem blk_al {W : World} {b : Nat} {o : Obj} (h : W.heap[b]? = some o) (o' : Obj) : (W.alloc o').heap[b]? = some o := (Below.heap_alloc W o' b (Array.getElem?_eq_some_iff.1 h).1).trans h
theorem cell_in {W W' : World} {p : Addr} {v : Value} (h : W.cell? p = some v) (hB : Below W.heap.size W W') : W'.cell? p = some v := (hB.cell (World.block_lt_of_cell? W _ h)).trans h
theorem cell_al {W : World} {p : Addr} {v : Value} (h : W.cell? p = some v) (o : Obj) : (W.alloc o).cell? p = some v := (World.cell?_of_block (Below.heap_alloc W o _ (World.block_lt_of_cell? W _ h))).trans h
theorem below_al {w W W' : World} {o : Obj} (h : Below w.heap.size w W) (hB : Below (W.alloc o).heap.size (W.alloc o) W') : Below w.heap.size w W' := (h.alloc h.size o).trans (hB.mono (h.alloc h.size o).size)
theorem blk_gr {W W' : World} {b r : Nat} {o : Obj} (h : W.heap[b]? = some o) (hg : W.grownBy W' (some r)) (hne : b ≠ r) : W'.heap[b]? = some o := (hg.block b (Array.getElem?_eq_some_iff.1 h).1 (fun e => hne (Option.some.inj e))).trans h
theorem below_tr {w W W' : World} (h : Below w.heap.size w W) (hB : Below W.heap.size W W') : Below w.heap.size w W' := h.trans (hB.mono h.size)
set_option maxRecDepth 100000 in
set_option maxHeartbeats 8000000 in
theorem bad_run (A1 : Option Addr) (c1 : Nat) (A2 : Option Addr) (c2 : Nat) (A3 : Option Addr) (c3 : Nat) (w : World) (hr1 : Kd.C k63 w A1 1 [(⟨0, 0, 1⟩ : S63)]) (hc1 : 1 ≤ c1) (hr2 : Kd.C k63 w A2 0 []) (hc2 : 0 ≤ c2) (hr3 : Kd.C k91 w A3 2 [(⟨false, false⟩ : S91), (⟨true, false⟩ : S91)]) :
    Calls Try.prog 33 #[.agg #[.int .i64 8, .int .i64 4, .int .i64 2, .int .i64 8, .int .i64 4, .int .i64 2], .slice A1 1 c1, .slice A2 0 c2, .slice A3 2 c3] w fun e w' => e = .returned (.tuple #[.slice none 0 0, .int .i64 1]) ∧ Below w.heap.size w w' := by
  obtain ⟨ad, eA, z0, z1⟩ := at_T91 hr3 0 (by omega) (by decide)
  cases eA
  have z0' : w.cell? ad = some (.bool false) := by have h_ : w.cell? (ad.add 0) = some (.bool false) := z0; rwa [Addr.add_zero'] at h_
  have z1' : w.cell? ⟨ad.block, ad.off + 1, none⟩ = some (.bool false) := by have h_ : w.cell? ⟨(ad.add 0).block, (ad.add 0).off + 1, none⟩ = some (.bool false) := z1; rwa [Addr.add_zero'] at h_
  have Z0 := Aside0.mk z0'
  have Z1 := Aside0.mk z1'
  have HR1 := Aside0.mk hr1
  have HR2 := Aside0.mk hr2
  clear hr1 hr2 hr3 z0 z1 z0' z1'
  go_enter Try.func33, Try.ntmps33
  go_wp2_with (first
    | (go_at_call 48; have hx_ := HBw1; refine (profile_ValidLimits.calls 8 4 2 true _ valid).mono ?_; rintro e w2 ⟨rfl, hb_w2⟩; have Bw2 := blk_in Bw1 hb_w2; have HBw2 := below_tr HBw1 hb_w2; have w2c0 : w2.cell? ⟨w.heap.size, 0, none⟩ = some (.int .i64 8) := (blk_cell Bw2 0).trans rfl; have w2c1 : w2.cell? ⟨w.heap.size, 1, none⟩ = some (.int .i64 4) := (blk_cell Bw2 1).trans rfl; have w2c2 : w2.cell? ⟨w.heap.size, 2, none⟩ = some (.int .i64 2) := (blk_cell Bw2 2).trans rfl; have w2c3 : w2.cell? ⟨w.heap.size, 3, none⟩ = some (.int .i64 8) := (blk_cell Bw2 3).trans rfl; have w2c4 : w2.cell? ⟨w.heap.size, 4, none⟩ = some (.int .i64 4) := (blk_cell Bw2 4).trans rfl; have w2c5 : w2.cell? ⟨w.heap.size, 5, none⟩ = some (.int .i64 2) := (blk_cell Bw2 5).trans rfl; clear hb_w2)
    | (go_at_call 48; refine (profile_ValidLimits.calls 8 4 2 true _ valid).mono ?_; rintro e w1 ⟨rfl, hb_w1⟩; have Bw1 := blk_in (heap_alloc_new w (.cells #[.int .i64 8, .int .i64 4, .int .i64 2, .int .i64 8, .int .i64 4, .int .i64 2] 72 (0, 0))) hb_w1; have HBw1 := below_al (Below.refl w.heap.size w) hb_w1; have w1c0 : w1.cell? ⟨w.heap.size, 0, none⟩ = some (.int .i64 8) := (blk_cell Bw1 0).trans rfl; have w1c1 : w1.cell? ⟨w.heap.size, 1, none⟩ = some (.int .i64 4) := (blk_cell Bw1 1).trans rfl; have w1c2 : w1.cell? ⟨w.heap.size, 2, none⟩ = some (.int .i64 2) := (blk_cell Bw1 2).trans rfl; have w1c3 : w1.cell? ⟨w.heap.size, 3, none⟩ = some (.int .i64 8) := (blk_cell Bw1 3).trans rfl; have w1c4 : w1.cell? ⟨w.heap.size, 4, none⟩ = some (.int .i64 4) := (blk_cell Bw1 4).trans rfl; have w1c5 : w1.cell? ⟨w.heap.size, 5, none⟩ = some (.int .i64 2) := (blk_cell Bw1 5).trans rfl; clear hb_w1)
    | (go_at_call 68; have hx_ := HBw3; refine (timetable_of.calls 3 1 A2 c2 [] true _ (Kd.C_below HR2.out HBw3) hc2 of1).mono ?_; rintro e w4 ⟨rfl, hb_w4⟩; have Bw4 := blk_in Bw3 hb_w4; have HBw4 := below_tr HBw3 hb_w4; have z0 := (HBw4.cell (World.block_lt_of_cell? w _ Z0.out)).trans Z0.out; have z1 := (HBw4.cell (World.block_lt_of_cell? w _ Z1.out)).trans Z1.out; clear hb_w4)
    | (go_at_call 68; have hx_ := HBw2; refine (timetable_of.calls 3 0 A1 c1 [(⟨0, 0, 1⟩ : S63)] true _ (Kd.C_below HR1.out HBw2) hc1 of3).mono ?_; rintro e w3 ⟨rfl, hb_w3⟩; have Bw3 := blk_in Bw2 hb_w3; have HBw3 := below_tr HBw2 hb_w3; clear hb_w3))
  have y0 := cell_al (cell_al z0 (.cells #[.slice A1 1 c1, .slice A2 0 c2] 123 (0, 0))) (.cells #[.int .i64 0, .int .i64 0] 124 (0, 0))
  have y1 := cell_al (cell_al z1 (.cells #[.slice A1 1 c1, .slice A2 0 c2] 123 (0, 0))) (.cells #[.int .i64 0, .int .i64 0] 124 (0, 0))
  refine wp_loop_rounds 1 ?_
  rw [rounds_succ]
  go_wp2
  refine bodyPost_ret (v := .tuple #[.slice none 0 0, .int .i64 1]) (by simp [results, Try.results33, go_sem]) rfl ?_
  exact ⟨rfl, ((HBw4.alloc HBw4.size _).alloc (by have := HBw4.size; simp; omega) _).alloc (by have := HBw4.size; simp; omega) _⟩
theorem far6 {W : World} {p : Addr} {u : Value} (h : W.cell? p = some u) {B : Nat} (hne : B ≠ p.block) (a b c d e f : Value) : ((((((W.setCell ⟨B, 0, none⟩ a).setCell ⟨B, 1, none⟩ b).setCell ⟨B, 2, none⟩ c).setCell ⟨B, 3, none⟩ d).setCell ⟨B, 4, none⟩ e).setCell ⟨B, 5, none⟩ f).cell? p = some u := by
  rw [World.cell?_setCell_far _ _ _ _ hne, World.cell?_setCell_far _ _ _ _ hne, World.cell?_setCell_far _ _ _ _ hne, World.cell?_setCell_far _ _ _ _ hne, World.cell?_setCell_far _ _ _ _ hne, World.cell?_setCell_far _ _ _ _ hne, h]
theorem setS {W : World} {R t : Nat} {x0 x1 x2 x3 x4 x5 : Value} (h : W.heap[R]? = some (.cells #[x0, x1, x2, x3, x4, x5] t (0, 0))) (a b c d e f : Value) :
    ∃ W', (((((W.setCell ⟨R, 0, none⟩ a).setCell ⟨R, 1, none⟩ b).setCell ⟨R, 2, none⟩ c).setCell ⟨R, 3, none⟩ d).setCell ⟨R, 4, none⟩ e).setCell ⟨R, 5, none⟩ f = W' ∧
      W'.heap[R]? = some (.cells #[a, b, c, d, e, f] t (0, 0)) ∧ W.grownBy W' (some R) := by
  refine ⟨_, rfl, ?_, ?_⟩
  · have h0 := blk_set h 0 a
    have h1 := blk_set h0 1 b
    have h2 := blk_set h1 2 c
    have h3 := blk_set h2 3 d
    have h4 := blk_set h3 4 e
    have h5 := blk_set h4 5 f
    simpa using h5
  · exact (((((Ticks.grown_set W R 0 _).trans (Ticks.grown_set _ R 1 _)).trans (Ticks.grown_set _ R 2 _)).trans (Ticks.grown_set _ R 3 _)).trans (Ticks.grown_set _ R 4 _)).trans (Ticks.grown_set _ R 5 _)
theorem ends_h {J : List Int} (hl : J.length ≤ 1000) (a : Int) : timetable_ends.f a 0 1 1 0 J = some (J.length : Int) := by
  unfold timetable_ends.f
  rw [show wrap64 (0 + (J.length : Int)) = (J.length : Int) from by unfold wrap64; omega]
theorem slot_h {J : List Int} {K : Nat} (hJ : mintime_Profile.f K 8 4 2 12 = some (J, true)) (hl : J.length ≤ 1000) (a : Int) : timetable_slot.f K 8 4 2 a 0 1 1 0 = some (a, 0, 1, 1, 0, J, true) := by
  unfold timetable_slot.f
  have e : wrap64 (1 * 12) = 12 := by unfold wrap64; omega
  have e2 : decide (wrap64 (0 + (J.length : Int)) ≤ 2000) = true := decide_eq_true (by unfold wrap64; omega)
  rw [if_neg (by decide), e, hJ, Option.bind_some, if_pos rfl, e2]
theorem eqA2 (d : Nat) (w : World) (x0 y0 x1 y1 : Int) :
    (Op.equalIn (d + 2) 124 (.agg #[.int .i64 x0, .int .i64 x1]) (.agg #[.int .i64 y0, .int .i64 y1])).run Try.prog w = .ok (x0 == y0 && (x1 == y1)) w := by
  refine eqArr Try.underlying124 (e := 3) (n := 1) (by kernel_rfl) (by kernel_rfl) ?_
  show (Op.eqItems _ 3 1 _ _ [0, 1]).run _ _ = _
  refine eqi_cons (by go_simp; rfl) (by go_simp; rfl) (by go_simp) ?_
  exact eqi_last (by go_simp; rfl) (by go_simp; rfl) (by go_simp)
theorem idxB_0 (w : World) (x0 x1 : Bool) : Sem.run Try.prog (Instr.index 125 (.agg #[.bool x0, .bool x1]) (.int .i64 0)) w = .ok (.bool x0) w := by kernel_rfl
theorem idxB_1 (w : World) (x0 x1 : Bool) : Sem.run Try.prog (Instr.index 125 (.agg #[.bool x0, .bool x1]) (.int .i64 1)) w = .ok (.bool x1) w := by kernel_rfl
attribute [local go_sem high] eqA2 idxB_0 idxB_1
set_option maxRecDepth 100000 in
set_option maxHeartbeats 8000000 in
theorem good_run (J : List Int) (K : Nat) (hJ : mintime_Profile.f K 8 4 2 12 = some (J, true)) (hl : J.length ≤ 1000) (hp : 0 < J.length) (A1 : Option Addr) (c1 : Nat) (A2 : Option Addr) (c2 : Nat) (A3 : Option Addr) (c3 : Nat) (w : World) (hr1 : Kd.C k63 w A1 1 [(⟨0, 0, 1⟩ : S63)]) (hc1 : 1 ≤ c1) (hr2 : Kd.C k63 w A2 1 [(⟨1, 0, 1⟩ : S63)]) (hc2 : 1 ≤ c2) (hr3 : Kd.C k91 w A3 1 [(⟨true, true⟩ : S91)]) :
    Calls Try.prog 33 #[.agg #[.int .i64 8, .int .i64 4, .int .i64 2, .int .i64 8, .int .i64 4, .int .i64 2], .slice A1 1 c1, .slice A2 1 c2, .slice A3 1 c3] w fun e w' => ∃ v0_ : Value, e = .returned (.tuple #[v0_, .int .i64 0]) ∧ Kd.S k67 67 w' w.heap.size (fun _ => True) v0_ [(⟨⟨⟨0, 0, 1⟩, 1⟩, 0, J⟩ : S67), (⟨⟨⟨1, 0, 1⟩, 1⟩, 0, J⟩ : S67)] ∧ Below w.heap.size w w' := by
  obtain ⟨ad, eA, z0, z1⟩ := at_T91 hr3 0 (by omega) (by decide)
  cases eA
  have Z0 : Aside0 (w.cell? ad = some (.bool true)) := ⟨by have h_ : w.cell? (ad.add 0) = some (.bool true) := z0; rwa [Addr.add_zero'] at h_⟩
  have Z1 : Aside0 (w.cell? ⟨ad.block, ad.off + 1, none⟩ = some (.bool true)) := ⟨by have h_ : w.cell? ⟨(ad.add 0).block, (ad.add 0).off + 1, none⟩ = some (.bool true) := z1; rwa [Addr.add_zero'] at h_⟩
  have HR1 := Aside0.mk hr1
  have HR2 := Aside0.mk hr2
  have HJ := Aside0.mk hJ
  have HL := Aside0.mk hl
  have p1 : (0 : Int) < (J.length : Int) := by omega
  have p3 : decide ((0 : Int) < (J.length : Int)) = true := decide_eq_true p1
  have p4 : decide (0 < J.length) = true := decide_eq_true hp
  clear hr1 hr2 hr3 z0 z1 hJ hl
  go_enter Try.func33, Try.ntmps33
  go_wp2_with (first
    | (go_at_call 48; have hx_ := HBw1; refine (profile_ValidLimits.calls 8 4 2 true _ valid).mono ?_; rintro e w2 ⟨rfl, hb_w2⟩; have Bw2 := blk_in Bw1 hb_w2; have HBw2 := below_tr HBw1 hb_w2; have w2c0 : w2.cell? ⟨w.heap.size, 0, none⟩ = some (.int .i64 8) := (blk_cell Bw2 0).trans rfl; have w2c1 : w2.cell? ⟨w.heap.size, 1, none⟩ = some (.int .i64 4) := (blk_cell Bw2 1).trans rfl; have w2c2 : w2.cell? ⟨w.heap.size, 2, none⟩ = some (.int .i64 2) := (blk_cell Bw2 2).trans rfl; have w2c3 : w2.cell? ⟨w.heap.size, 3, none⟩ = some (.int .i64 8) := (blk_cell Bw2 3).trans rfl; have w2c4 : w2.cell? ⟨w.heap.size, 4, none⟩ = some (.int .i64 4) := (blk_cell Bw2 4).trans rfl; have w2c5 : w2.cell? ⟨w.heap.size, 5, none⟩ = some (.int .i64 2) := (blk_cell Bw2 5).trans rfl; clear hb_w2)
    | (go_at_call 48; refine (profile_ValidLimits.calls 8 4 2 true _ valid).mono ?_; rintro e w1 ⟨rfl, hb_w1⟩; have Bw1 := blk_in (heap_alloc_new w (.cells #[.int .i64 8, .int .i64 4, .int .i64 2, .int .i64 8, .int .i64 4, .int .i64 2] 72 (0, 0))) hb_w1; have HBw1 := below_al (Below.refl w.heap.size w) hb_w1; have w1c0 : w1.cell? ⟨w.heap.size, 0, none⟩ = some (.int .i64 8) := (blk_cell Bw1 0).trans rfl; have w1c1 : w1.cell? ⟨w.heap.size, 1, none⟩ = some (.int .i64 4) := (blk_cell Bw1 1).trans rfl; have w1c2 : w1.cell? ⟨w.heap.size, 2, none⟩ = some (.int .i64 2) := (blk_cell Bw1 2).trans rfl; have w1c3 : w1.cell? ⟨w.heap.size, 3, none⟩ = some (.int .i64 8) := (blk_cell Bw1 3).trans rfl; have w1c4 : w1.cell? ⟨w.heap.size, 4, none⟩ = some (.int .i64 4) := (blk_cell Bw1 4).trans rfl; have w1c5 : w1.cell? ⟨w.heap.size, 5, none⟩ = some (.int .i64 2) := (blk_cell Bw1 5).trans rfl; clear hb_w1)
    | (go_at_call 68; have hx_ := HBw3; refine (timetable_of.calls 3 1 A2 c2 [(⟨1, 0, 1⟩ : S63)] true _ (Kd.C_below HR2.out HBw3) hc2 of2).mono ?_; rintro e w4 ⟨rfl, hb_w4⟩; have Bw4 := blk_in Bw3 hb_w4; have HBw4 := below_tr HBw3 hb_w4; have z0 := Z0.out; have z1 := Z1.out; clear hb_w4)
    | (go_at_call 68; have hx_ := HBw2; refine (timetable_of.calls 3 0 A1 c1 [(⟨0, 0, 1⟩ : S63)] true _ (Kd.C_below HR1.out HBw2) hc1 of3).mono ?_; rintro e w3 ⟨rfl, hb_w3⟩; have Bw3 := blk_in Bw2 hb_w3; have HBw3 := below_tr HBw2 hb_w3; clear hb_w3))
  have BOX := Aside0.mk Bw4
  obtain ⟨W, hW⟩ : ∃ W, W = (w4.alloc (.cells #[.slice A1 1 c1, .slice A2 1 c2] 123 (0, 0))).alloc (.cells #[.int .i64 0, .int .i64 0] 124 (0, 0)) := ⟨_, rfl⟩
  have BL : Aside0 (W.heap[w4.heap.size]? = some (.cells #[.slice A1 1 c1, .slice A2 1 c2] 123 (0, 0))) := ⟨by rw [hW]; exact blk_al (heap_alloc_new w4 (.cells #[.slice A1 1 c1, .slice A2 1 c2] 123 (0, 0))) _⟩
  have BN : Aside0 (W.heap[w4.heap.size + 1]? = some (.cells #[.int .i64 0, .int .i64 0] 124 (0, 0))) := ⟨by rw [hW]; have h_ := heap_alloc_new (w4.alloc (.cells #[.slice A1 1 c1, .slice A2 1 c2] 123 (0, 0))) (.cells #[.int .i64 0, .int .i64 0] 124 (0, 0)); rwa [World.size_alloc] at h_⟩
  have BW : Aside0 (Below w.heap.size w W) := ⟨by rw [hW]; exact (HBw4.alloc HBw4.size _).alloc (by have := HBw4.size; simp; omega) _⟩
  have BX : Aside0 (W.heap[w.heap.size]? = some (.cells #[.int .i64 8, .int .i64 4, .int .i64 2, .int .i64 8, .int .i64 4, .int .i64 2] 72 (0, 0))) := ⟨by rw [hW]; exact blk_al (blk_al BOX.out _) _⟩
  have SZ : Aside0 (W.heap.size = w4.heap.size + 2) := ⟨by rw [hW]; simp⟩
  have S4 : Aside0 (w.heap.size < w4.heap.size) := ⟨(Array.getElem?_eq_some_iff.1 BOX.out).1⟩
  rw [← hW]
  clear hW HBw1 HBw2 HBw3 HBw4 Bw1 Bw2 Bw3 Bw4 BOX z0 z1 w1c0 w1c1 w1c2 w1c3 w1c4 w1c5 w2c0 w2c1 w2c2 w2c3 w2c4 w2c5
  have z0 : W.cell? ad = some (.bool true) := (BW.out.cell (World.block_lt_of_cell? w _ Z0.out)).trans Z0.out
  have z1 : W.cell? ⟨ad.block, ad.off + 1, none⟩ = some (.bool true) := (BW.out.cell (World.block_lt_of_cell? w _ Z1.out)).trans Z1.out
  have n0 : (W.alloc (.cells #[.bool true, .bool true] 91 (0, 0))).cell? ⟨w4.heap.size + 1, 0, none⟩ = some (.int .i64 0) := (blk_cell (blk_al BN.out _) 0).trans rfl
  have n1 : (W.alloc (.cells #[.bool true, .bool true] 91 (0, 0))).cell? ⟨w4.heap.size + 1, 1, none⟩ = some (.int .i64 0) := (blk_cell (blk_al BN.out _) 1).trans rfl
  have f0 := blk_frozen (blk_al BN.out (.cells #[.bool true, .bool true] 91 (0, 0))) 0
  have f1 := blk_frozen (blk_al BN.out (.cells #[.bool true, .bool true] 91 (0, 0))) 1
  refine wp_loop_rounds 2 ?_
  rw [rounds_succ]
  go_wp2
  refine wp_loop_rounds 3 ?_
  rw [rounds_succ]
  go_wp2
  rw [rounds_succ]
  go_wp2
  rw [rounds_succ]
  go_wp2
  rw [rounds_succ]
  go_wp2
  clear z0 z1 n0 n1 f0 f1
  have G1 := (Ticks.grown_set (W.alloc (.cells #[.bool true, .bool true] 91 (0, 0))) (w4.heap.size + 1) 0 (.int .i64 1)).trans (Ticks.grown_set _ (w4.heap.size + 1) 1 (.int .i64 1))
  obtain ⟨V, hV⟩ : ∃ V, V = (((W.alloc (.cells #[.bool true, .bool true] 91 (0, 0))).setCell ⟨w4.heap.size + 1, 0, none⟩ (.int .i64 1)).setCell ⟨w4.heap.size + 1, 1, none⟩ (.int .i64 1)) := ⟨_, rfl⟩
  rw [← hV] at G1
  have VL : Aside0 (V.heap[w4.heap.size]? = some (.cells #[.slice A1 1 c1, .slice A2 1 c2] 123 (0, 0))) := ⟨blk_gr (blk_al BL.out _) G1 (by omega)⟩
  have VX : Aside0 (V.heap[w.heap.size]? = some (.cells #[.int .i64 8, .int .i64 4, .int .i64 2, .int .i64 8, .int .i64 4, .int .i64 2] 72 (0, 0))) := ⟨blk_gr (blk_al BX.out _) G1 (by have := S4.out; omega)⟩
  have VW : Aside0 (Below w.heap.size w V) := ⟨Ticks.below_grown (BW.out.alloc BW.out.size _) G1 (by have := S4.out; omega)⟩
  have SV : Aside0 (w4.heap.size + 1 < V.heap.size) := ⟨by have h_ := G1.size; have := SZ.out; simp at h_; omega⟩
  rw [← hV]
  clear hV G1
  have z0 : V.cell? ad = some (.bool true) := (VW.out.cell (World.block_lt_of_cell? w _ Z0.out)).trans Z0.out
  have z1 : V.cell? ⟨ad.block, ad.off + 1, none⟩ = some (.bool true) := (VW.out.cell (World.block_lt_of_cell? w _ Z1.out)).trans Z1.out
  refine wp_loop_rounds 2 ?_
  rw [rounds_succ]
  go_wp2
  refine wp_loop_rounds 3 ?_
  rw [rounds_succ]
  go_upto_region 29 with (fail)
  obtain ⟨U, hU⟩ : ∃ U, U = V.alloc (.cells #[.bool true, .bool true] 91 (0, 0)) := ⟨_, rfl⟩
  have UL : Aside0 (U.heap[w4.heap.size]? = some (.cells #[.slice A1 1 c1, .slice A2 1 c2] 123 (0, 0))) := ⟨by rw [hU]; exact blk_al VL.out _⟩
  have UX : Aside0 (U.heap[w.heap.size]? = some (.cells #[.int .i64 8, .int .i64 4, .int .i64 2, .int .i64 8, .int .i64 4, .int .i64 2] 72 (0, 0))) := ⟨by rw [hU]; exact blk_al VX.out _⟩
  have UW : Aside0 (Below w.heap.size w U) := ⟨by rw [hU]; exact VW.out.alloc VW.out.size _⟩
  have SU : Aside0 (w4.heap.size + 1 < U.heap.size) := ⟨by rw [hU]; have := SV.out; simp; omega⟩
  have HO : Aside0 (Kd.S k67 67 U w.heap.size (fun _ => True) (.slice none 0 0) []) := ⟨Kd.S_nil _ _ _ _ _⟩
  have SL0 := Aside0.mk (slot_h HJ.out HL.out 0)
  have SL1 := Aside0.mk (slot_h HJ.out HL.out 1)
  rw [← hU]
  clear hU z0 z1 Z0 Z1 VL VX VW SV
  obtain ⟨am0, eA1, m0, m1, m2⟩ := at_T63 HR1.out 0 (by omega) (by decide)
  cases eA1
  have M0 : Aside0 (w.cell? am0 = some (.int .i64 0)) := ⟨by have h_ : w.cell? (am0.add 0) = some (.int .i64 0) := m0; rwa [Addr.add_zero'] at h_⟩
  have M1 : Aside0 (w.cell? ⟨am0.block, am0.off + 1, none⟩ = some (.int .i64 0)) := ⟨by have h_ : w.cell? ⟨(am0.add 0).block, (am0.add 0).off + 1, none⟩ = some (.int .i64 0) := m1; rwa [Addr.add_zero'] at h_⟩
  have M2 : Aside0 (w.cell? ⟨am0.block, am0.off + 2, none⟩ = some (.int .i64 1)) := ⟨by have h_ : w.cell? ⟨(am0.add 0).block, (am0.add 0).off + 2, none⟩ = some (.int .i64 1) := m2; rwa [Addr.add_zero'] at h_⟩
  clear m0 m1 m2
  go_cut [23, 24] (fun v23 v24 wd => ∃ (Bs co : Nat) (Ao : Option Addr), v23 = .pointer (some ⟨Bs, 0, none⟩) ∧ v24 = .bool true ∧ Aside0 (w4.heap.size + 1 < Bs) ∧ Aside0 (wd.heap[Bs]? = some (.cells #[.int .i64 0, .int .i64 0, .int .i64 1, .int .i64 1, .int .i64 0, .slice Ao J.length co] 67 (0, 0))) ∧ Aside0 (Kd.R (Kd.int .i64) 3 wd w.heap.size (fun k => k ≠ Bs) (.slice Ao J.length co : Value) J) ∧ Aside0 (Kd.S k67 67 wd w.heap.size (fun k => some k ≠ (.slice Ao J.length co : Value).ownBlock ∧ k ≠ Bs) (.slice none 0 0) []) ∧ Aside0 (wd.heap[w4.heap.size]? = some (.cells #[.slice (some am0) 1 c1, .slice A2 1 c2] 123 (0, 0))) ∧ Aside0 (wd.heap[w.heap.size]? = some (.cells #[.int .i64 8, .int .i64 4, .int .i64 2, .int .i64 8, .int .i64 4, .int .i64 2] 72 (0, 0))) ∧ Aside0 (Below w.heap.size w wd))
  case first =>
    have y0 : U.cell? ⟨w.heap.size, 0, none⟩ = some (.int .i64 8) := (blk_cell UX.out 0).trans rfl
    have y1 : U.cell? ⟨w.heap.size, 1, none⟩ = some (.int .i64 4) := (blk_cell UX.out 1).trans rfl
    have y2 : U.cell? ⟨w.heap.size, 2, none⟩ = some (.int .i64 2) := (blk_cell UX.out 2).trans rfl
    have y3 : U.cell? ⟨w4.heap.size, 0, none⟩ = some (.slice (some am0) 1 c1) := (blk_cell UL.out 0).trans rfl
    have y4 : U.cell? am0 = some (.int .i64 0) := (UW.out.cell (World.block_lt_of_cell? w _ M0.out)).trans M0.out
    have y5 : U.cell? ⟨am0.block, am0.off + 1, none⟩ = some (.int .i64 0) := (UW.out.cell (World.block_lt_of_cell? w _ M1.out)).trans M1.out
    have y6 : U.cell? ⟨am0.block, am0.off + 2, none⟩ = some (.int .i64 1) := (UW.out.cell (World.block_lt_of_cell? w _ M2.out)).trans M2.out
    have yd0 : U.drew.cell? ⟨w.heap.size, 0, none⟩ = some (.int .i64 8) := y0
    have ya0 : (U.alloc (.cells #[.int .i64 0, .int .i64 0, .int .i64 0, .int .i64 0, .int .i64 0, .slice none 0 0] 67 (0, 0))).drew.cell? ⟨w.heap.size, 0, none⟩ = some (.int .i64 8) := cell_al y0 _
    have ns0 : U.heap.size ≠ (⟨w.heap.size, 0, none⟩ : Addr).block := Nat.ne_of_gt (World.block_lt_of_cell? U _ y0)
    have yd1 : U.drew.cell? ⟨w.heap.size, 1, none⟩ = some (.int .i64 4) := y1
    have ya1 : (U.alloc (.cells #[.int .i64 0, .int .i64 0, .int .i64 0, .int .i64 0, .int .i64 0, .slice none 0 0] 67 (0, 0))).drew.cell? ⟨w.heap.size, 1, none⟩ = some (.int .i64 4) := cell_al y1 _
    have ns1 : U.heap.size ≠ (⟨w.heap.size, 1, none⟩ : Addr).block := Nat.ne_of_gt (World.block_lt_of_cell? U _ y1)
    have yd2 : U.drew.cell? ⟨w.heap.size, 2, none⟩ = some (.int .i64 2) := y2
    have ya2 : (U.alloc (.cells #[.int .i64 0, .int .i64 0, .int .i64 0, .int .i64 0, .int .i64 0, .slice none 0 0] 67 (0, 0))).drew.cell? ⟨w.heap.size, 2, none⟩ = some (.int .i64 2) := cell_al y2 _
    have ns2 : U.heap.size ≠ (⟨w.heap.size, 2, none⟩ : Addr).block := Nat.ne_of_gt (World.block_lt_of_cell? U _ y2)
    have yd3 : U.drew.cell? ⟨w4.heap.size, 0, none⟩ = some (.slice (some am0) 1 c1) := y3
    have ya3 : (U.alloc (.cells #[.int .i64 0, .int .i64 0, .int .i64 0, .int .i64 0, .int .i64 0, .slice none 0 0] 67 (0, 0))).drew.cell? ⟨w4.heap.size, 0, none⟩ = some (.slice (some am0) 1 c1) := cell_al y3 _
    have ns3 : U.heap.size ≠ (⟨w4.heap.size, 0, none⟩ : Addr).block := Nat.ne_of_gt (World.block_lt_of_cell? U _ y3)
    have yd4 : U.drew.cell? am0 = some (.int .i64 0) := y4
    have ya4 : (U.alloc (.cells #[.int .i64 0, .int .i64 0, .int .i64 0, .int .i64 0, .int .i64 0, .slice none 0 0] 67 (0, 0))).drew.cell? am0 = some (.int .i64 0) := cell_al y4 _
    have ns4 : U.heap.size ≠ (am0 : Addr).block := Nat.ne_of_gt (World.block_lt_of_cell? U _ y4)
    have yd5 : U.drew.cell? ⟨am0.block, am0.off + 1, none⟩ = some (.int .i64 0) := y5
    have ya5 : (U.alloc (.cells #[.int .i64 0, .int .i64 0, .int .i64 0, .int .i64 0, .int .i64 0, .slice none 0 0] 67 (0, 0))).drew.cell? ⟨am0.block, am0.off + 1, none⟩ = some (.int .i64 0) := cell_al y5 _
    have ns5 : U.heap.size ≠ (⟨am0.block, am0.off + 1, none⟩ : Addr).block := Nat.ne_of_gt (World.block_lt_of_cell? U _ y5)
    have yd6 : U.drew.cell? ⟨am0.block, am0.off + 2, none⟩ = some (.int .i64 1) := y6
    have ya6 : (U.alloc (.cells #[.int .i64 0, .int .i64 0, .int .i64 0, .int .i64 0, .int .i64 0, .slice none 0 0] 67 (0, 0))).drew.cell? ⟨am0.block, am0.off + 2, none⟩ = some (.int .i64 1) := cell_al y6 _
    have ns6 : U.heap.size ≠ (⟨am0.block, am0.off + 2, none⟩ : Addr).block := Nat.ne_of_gt (World.block_lt_of_cell? U _ y6)
    (first | (go_region_held3 (fun w' => w'.cell? ⟨w.heap.size, 0, none⟩ = some (.int .i64 8) ∧ w'.cell? ⟨w.heap.size, 1, none⟩ = some (.int .i64 4) ∧ w'.cell? ⟨w.heap.size, 2, none⟩ = some (.int .i64 2) ∧ w'.cell? ⟨w4.heap.size, 0, none⟩ = some (.slice (some am0) 1 c1) ∧ w'.cell? am0 = some (.int .i64 0) ∧ w'.cell? ⟨am0.block, am0.off + 1, none⟩ = some (.int .i64 0) ∧ w'.cell? ⟨am0.block, am0.off + 2, none⟩ = some (.int .i64 1)) (first | with_reducible exact ⟨yd0, yd1, yd2, yd3, yd4, yd5, yd6⟩ | with_reducible exact ⟨ya0, ya1, ya2, ya3, ya4, ya5, ya6⟩ | with_reducible exact ⟨v0, v1, v2, v3, v4, v5, v6⟩ | with_reducible exact ⟨cell_al v0 _, cell_al v1 _, cell_al v2 _, cell_al v3 _, cell_al v4 _, cell_al v5 _, cell_al v6 _⟩ | with_reducible exact ⟨cell_al y0 _, cell_al y1 _, cell_al y2 _, cell_al y3 _, cell_al y4 _, cell_al y5 _, cell_al y6 _⟩ | exact ⟨far6 v0 ns0 _ _ _ _ _ _, far6 v1 ns1 _ _ _ _ _ _, far6 v2 ns2 _ _ _ _ _ _, far6 v3 ns3 _ _ _ _ _ _, far6 v4 ns4 _ _ _ _ _ _, far6 v5 ns5 _ _ _ _ _ _, far6 v6 ns6 _ _ _ _ _ _⟩) (first
      | (go_at_call 61; (with_reducible refine (timetable_slot.calls K 8 4 2 0 0 1 1 0 0 0 1 1 0 J true U.drew SL0.out).mono ?_); rintro e w7 ⟨v5_, rfl, hR5, hb7⟩; obtain ⟨Ao, co, eo⟩ := Kd.R_slice hR5; subst eo; have v0 := cell_in yd0 hb7; have v1 := cell_in yd1 hb7; have v2 := cell_in yd2 hb7; have v3 := cell_in yd3 hb7; have v4 := cell_in yd4 hb7; have v5 := cell_in yd5 hb7; have v6 := cell_in yd6 hb7; have HO7 := Aside0.mk (Kd.S_elder' (Kd.S_drew HO.out) (Kd.R_base hR5) hb7); have HR7 := Aside0.mk hR5; have HB7 := Aside0.mk hb7; clear hR5 hb7)
      | (go_at_call 61; (with_reducible refine (timetable_slot.calls K 8 4 2 0 0 1 1 0 0 0 1 1 0 J true (U.alloc (.cells #[.int .i64 0, .int .i64 0, .int .i64 0, .int .i64 0, .int .i64 0, .slice none 0 0] 67 (0, 0))).drew SL0.out).mono ?_); rintro e w7 ⟨v5_, rfl, hR5, hb7⟩; obtain ⟨Ao, co, eo⟩ := Kd.R_slice hR5; subst eo; have v0 := cell_in ya0 hb7; have v1 := cell_in ya1 hb7; have v2 := cell_in ya2 hb7; have v3 := cell_in ya3 hb7; have v4 := cell_in ya4 hb7; have v5 := cell_in ya5 hb7; have v6 := cell_in ya6 hb7; have HO7 := Aside0.mk (Kd.S_elder' (Kd.S_drew (Kd.S_alloc (Kd.S_elderB HO.out U.heap.size (Nat.le_refl _)) (.cells #[.int .i64 0, .int .i64 0, .int .i64 0, .int .i64 0, .int .i64 0, .slice none 0 0] 67 (0, 0)))) (Kd.R_base hR5) hb7); have hn7 := blk_in (show ((U.alloc (.cells #[.int .i64 0, .int .i64 0, .int .i64 0, .int .i64 0, .int .i64 0, .slice none 0 0] 67 (0, 0))).drew).heap[U.heap.size]? = some (.cells #[.int .i64 0, .int .i64 0, .int .i64 0, .int .i64 0, .int .i64 0, .slice none 0 0] 67 (0, 0)) from heap_alloc_new U (.cells #[.int .i64 0, .int .i64 0, .int .i64 0, .int .i64 0, .int .i64 0, .slice none 0 0] 67 (0, 0))) hb7; have HN7 := Aside0.mk hn7; have n0 : w7.cell? ⟨U.heap.size, 0, none⟩ = some (.int .i64 0) := (blk_cell hn7 0).trans rfl; have n1 : w7.cell? ⟨U.heap.size, 1, none⟩ = some (.int .i64 0) := (blk_cell hn7 1).trans rfl; have n2 : w7.cell? ⟨U.heap.size, 2, none⟩ = some (.int .i64 0) := (blk_cell hn7 2).trans rfl; have n3 : w7.cell? ⟨U.heap.size, 3, none⟩ = some (.int .i64 0) := (blk_cell hn7 3).trans rfl; have n4 : w7.cell? ⟨U.heap.size, 4, none⟩ = some (.int .i64 0) := (blk_cell hn7 4).trans rfl; have n5 : w7.cell? ⟨U.heap.size, 5, none⟩ = some (.slice none 0 0) := (blk_cell hn7 5).trans rfl; have f0 := blk_frozen hn7 0; have f1 := blk_frozen hn7 1; have f2 := blk_frozen hn7 2; have f3 := blk_frozen hn7 3; have f4 := blk_frozen hn7 4; have f5 := blk_frozen hn7 5; clear hn7; have HR7 := Aside0.mk hR5; have HB7 := Aside0.mk hb7; clear hR5 hb7))) | (fail "no"))
    all_goals
      first
        | (obtain ⟨W9, e9, b9, g9⟩ := setS HN7.out (.int .i64 0) (.int .i64 0) (.int .i64 1) (.int .i64 1) (.int .i64 0) (.slice Ao J.length co); rw [e9]; go_wp2; go_meet; case rel => exact ⟨U.heap.size, co, Ao, rfl, rfl, SU, ⟨b9⟩, ⟨Kd.R_mono (Kd.R_grown (Kd.R_types (Kd.R_lower HR7.out (show w.heap.size ≤ ((U.alloc (.cells #[.int .i64 0, .int .i64 0, .int .i64 0, .int .i64 0, .int .i64 0, .slice none 0 0] 67 (0, 0))).drew).heap.size from (UW.out.alloc UW.out.size (.cells #[.int .i64 0, .int .i64 0, .int .i64 0, .int .i64 0, .int .i64 0, .slice none 0 0] 67 (0, 0))).drew.size)) HN7.out (by decide)) g9 (fun k h_ e_ => h_.2 (Option.some.inj e_))) (fun _ h_ => h_.2)⟩, ⟨Kd.S_mono (Kd.S_grown HO7.out g9 (fun k h_ e_ => h_.1.2 (Option.some.inj e_))) (fun _ h_ => ⟨h_.2, h_.1.2⟩)⟩, ⟨blk_gr (blk_in (W := (U.alloc (.cells #[.int .i64 0, .int .i64 0, .int .i64 0, .int .i64 0, .int .i64 0, .slice none 0 0] 67 (0, 0))).drew) (blk_al UL.out _) HB7.out) g9 (by have := SU.out; omega)⟩, ⟨blk_gr (blk_in (W := (U.alloc (.cells #[.int .i64 0, .int .i64 0, .int .i64 0, .int .i64 0, .int .i64 0, .slice none 0 0] 67 (0, 0))).drew) (blk_al UX.out _) HB7.out) g9 (by have := SU.out; have := S4.out; omega)⟩, ⟨Ticks.below_grown (below_tr (W := (U.alloc (.cells #[.int .i64 0, .int .i64 0, .int .i64 0, .int .i64 0, .int .i64 0, .slice none 0 0] 67 (0, 0))).drew) (UW.out.alloc UW.out.size (.cells #[.int .i64 0, .int .i64 0, .int .i64 0, .int .i64 0, .int .i64 0, .slice none 0 0] 67 (0, 0))).drew HB7.out) g9 UW.out.size⟩⟩)
        | (go_wp2; go_meet; case rel => exact ⟨w7.heap.size, co, Ao, rfl, rfl, ⟨Nat.lt_of_lt_of_le SU.out HB7.out.size⟩, ⟨heap_alloc_new w7 _⟩, ⟨Kd.R_alloc (Kd.R_mono (Kd.R_elderB (Kd.R_lower HR7.out UW.out.size) w7.heap.size (Nat.le_refl _)) (fun _ h_ => h_.2)) _⟩, ⟨Kd.S_alloc (Kd.S_mono (Kd.S_elderB HO7.out w7.heap.size (Nat.le_refl _)) (fun _ h_ => ⟨h_.1.2, h_.2⟩)) _⟩, ⟨blk_al (blk_in (W := U.drew) UL.out HB7.out) _⟩, ⟨blk_al (blk_in (W := U.drew) UX.out HB7.out) _⟩, ⟨(below_tr (W := U.drew) UW.out.drew HB7.out).alloc (below_tr (W := U.drew) UW.out.drew HB7.out).size _⟩⟩)
  case rest =>
    obtain ⟨Bs, co, Ao, rfl, rfl, hLT, hSB, hRJ, hHO, hUL, hUX, hUW⟩ := hcut
    clear UL UX UW SU HO M0 M1 M2
    obtain ⟨i0_, hi0_, _, hsz_, _⟩ := info_parts info63
    obtain ⟨qa0, qn0, qc0, hq0⟩ : ∃ qa qn qc, ∀ W : World, (Instr.slice 50 (.slice (some am0) 1 c1) (some (.int .i64 1)) none none).run Try.prog W = .ok (.slice qa qn qc) W := ⟨_, _, _, cut_from (P := Try.prog) 50 63 .i64 Try.underlying50 hi0_ 3 hsz_ (some am0) 1 c1 1 (by omega) (by omega)⟩
    have gT := Ticks.grown_set wc w4.heap.size 0 (.slice qa0 qn0 qc0)
    have szT : (wc.setCell ⟨w4.heap.size, 0, none⟩ (.slice qa0 qn0 qc0)).heap.size = wc.heap.size := by simp
    have neB : Bs ≠ w4.heap.size := by have := hLT.out; omega
    have TR := Aside0.mk (Kd.R_mono (ok' := fun k => k ≠ Bs) (Kd.R_grown (Kd.R_types hRJ.out hUL.out (by decide)) gT (fun k h_ e_ => h_.2 (Option.some.inj e_))) (fun _ h_ => h_.1))
    have TS := Aside0.mk (Kd.S_mono (ok' := fun k => some k ≠ (.slice Ao J.length co : Value).ownBlock ∧ k ≠ Bs) (Kd.S_grown (Kd.S_types hHO.out hUL.out (by decide)) gT (fun k h_ e_ => h_.2 (Option.some.inj e_))) (fun _ h_ => h_.1))
    have TB := Aside0.mk (blk_gr hSB.out gT neB)
    have TL : Aside0 ((wc.setCell ⟨w4.heap.size, 0, none⟩ (.slice qa0 qn0 qc0)).heap[w4.heap.size]? = some (.cells #[.slice qa0 qn0 qc0, .slice A2 1 c2] 123 (0, 0))) := ⟨by have h_ := blk_set hUL.out 0 (.slice qa0 qn0 qc0); simpa using h_⟩
    have TX := Aside0.mk (blk_gr hUX.out gT (by have := S4.out; omega))
    have TW := Aside0.mk (Ticks.below_grown hUW.out gT (by have := S4.out; omega))
    have TA := Aside0.mk (Kd.R_apart' TR.out (Kd.S_typed TS.out) (by decide))
    have y0 : wc.cell? ⟨w4.heap.size, 0, none⟩ = some (.slice (some am0) 1 c1) := (blk_cell hUL.out 0).trans rfl
    have yf := blk_frozen hUL.out 0
    have s0 : (wc.setCell ⟨w4.heap.size, 0, none⟩ (.slice qa0 qn0 qc0)).cell? ⟨Bs, 0, none⟩ = some (.int .i64 0) := (blk_cell TB.out 0).trans rfl
    have s1 : (wc.setCell ⟨w4.heap.size, 0, none⟩ (.slice qa0 qn0 qc0)).cell? ⟨Bs, 1, none⟩ = some (.int .i64 0) := (blk_cell TB.out 1).trans rfl
    have s2 : (wc.setCell ⟨w4.heap.size, 0, none⟩ (.slice qa0 qn0 qc0)).cell? ⟨Bs, 2, none⟩ = some (.int .i64 1) := (blk_cell TB.out 2).trans rfl
    have s3 : (wc.setCell ⟨w4.heap.size, 0, none⟩ (.slice qa0 qn0 qc0)).cell? ⟨Bs, 3, none⟩ = some (.int .i64 1) := (blk_cell TB.out 3).trans rfl
    have s4 : (wc.setCell ⟨w4.heap.size, 0, none⟩ (.slice qa0 qn0 qc0)).cell? ⟨Bs, 4, none⟩ = some (.int .i64 0) := (blk_cell TB.out 4).trans rfl
    have s5 : (wc.setCell ⟨w4.heap.size, 0, none⟩ (.slice qa0 qn0 qc0)).cell? ⟨Bs, 5, none⟩ = some (.slice Ao J.length co) := (blk_cell TB.out 5).trans rfl
    have NE := Aside0.mk (Kd.S_away TS.out (fun _ h_ => h_.2))
    have NL := Aside0.mk (Kd.S_ne TS.out TL.out (by decide))
    have NX := Aside0.mk (Kd.S_ne TS.out TX.out (by decide))
    have HBs := Aside0.mk ((Array.getElem?_eq_some_iff.1 TB.out).1)
    clear gT hSB hRJ hHO hUL hUX hUW
    go_step
    go_wp2_with (first
      | ((with_reducible refine gate_builtin (b := .append) (xs := #[.tmp 127, .tmp 129]) rfl ?_); at_builtin; refine Kd.S_append k67 (w0 := w) w.heap.size rfl (.tmp 127) (.tmp 129) 53 67 (.agg #[(.int .i64 0), (.int .i64 0), (.int .i64 0), (.int .i64 0), (.int .i64 0), (.slice none 0 0)]) 64 rfl Try.underlying53 info67 rfl (by decide) (by omega) (.slice none 0 0) [] (⟨⟨⟨0, 0, 1⟩, 1⟩, 0, J⟩ : S67) [.int .i64 0, .int .i64 0, .int .i64 1, .int .i64 1, .int .i64 0, .slice Ao J.length co] (fun _ => True) (fun k_ => some k_ = (.slice Ao J.length co : Value).ownBlock) rfl (by rw [szT]; rfl) (k67_mkM _ _ _ (⟨⟨⟨0, 0, 1⟩, 1⟩, 0, J⟩ : S67) (Kd.R_tight rfl TR.out)) (fun k_ hk_ => ⟨trivial, (TA.out.1 k_ hk_.symm).2⟩) (fun _ _ => trivial) (Kd.S_mono TS.out (fun _ h_ => ⟨trivial, h_.1⟩)) TW.out TW.out.size (by simp) ?_; intro ov0 w8 ho hb hg hat; have AB := Aside0.mk ((hg.block Bs HBs.out NE.out).trans TB.out); have AL := Aside0.mk ((hg.block w4.heap.size (Array.getElem?_eq_some_iff.1 TL.out).1 NL.out).trans TL.out); have AX := Aside0.mk ((hg.block w.heap.size (Array.getElem?_eq_some_iff.1 TX.out).1 NX.out).trans TX.out); have AJ := Aside0.mk (Kd.R_grown TA.out hg (fun k h_ => h_.2)); have AO := Aside0.mk ho; have AW := Aside0.mk hb; have u0 : w8.cell? ⟨Bs, 0, none⟩ = some (.int .i64 0) := (blk_cell AB.out 0).trans rfl; have u1 : w8.cell? ⟨Bs, 1, none⟩ = some (.int .i64 0) := (blk_cell AB.out 1).trans rfl; have u2 : w8.cell? ⟨Bs, 2, none⟩ = some (.int .i64 1) := (blk_cell AB.out 2).trans rfl; have u3 : w8.cell? ⟨Bs, 3, none⟩ = some (.int .i64 1) := (blk_cell AB.out 3).trans rfl; have u4 : w8.cell? ⟨Bs, 4, none⟩ = some (.int .i64 0) := (blk_cell AB.out 4).trans rfl; have u5 : w8.cell? ⟨Bs, 5, none⟩ = some (.slice Ao J.length co) := (blk_cell AB.out 5).trans rfl; clear ho hb hg hat)
      | (go_at_call 62; refine (timetable_ends.calls 0 0 1 1 0 Ao co J (J.length : Int) _ (Kd.R_reads' AJ.out).2.2 (Kd.R_reads' AJ.out).2.1 (ends_h HL.out 0)).mono ?_; rintro e w9_0 ⟨rfl, hb9⟩; have UL := Aside0.mk (blk_in AL.out hb9); have UX := Aside0.mk (blk_in AX.out hb9); have UW := Aside0.mk (below_tr AW.out hb9); have SU : Aside0 (w4.heap.size + 1 < w9_0.heap.size) := ⟨by have h1_ := (Array.getElem?_eq_some_iff.1 (blk_in AB.out hb9)).1; have := hLT.out; omega⟩; have HO := Aside0.mk (Kd.S_below AO.out hb9); clear hb9))
    rw [rounds_succ]
    go_upto_region 29 with (fail)
    obtain ⟨am1, eA2, m0, m1, m2⟩ := at_T63 HR2.out 0 (by omega) (by decide)
    cases eA2
    have M0 : Aside0 (w.cell? am1 = some (.int .i64 1)) := ⟨by have h_ : w.cell? (am1.add 0) = some (.int .i64 1) := m0; rwa [Addr.add_zero'] at h_⟩
    have M1 : Aside0 (w.cell? ⟨am1.block, am1.off + 1, none⟩ = some (.int .i64 0)) := ⟨by have h_ : w.cell? ⟨(am1.add 0).block, (am1.add 0).off + 1, none⟩ = some (.int .i64 0) := m1; rwa [Addr.add_zero'] at h_⟩
    have M2 : Aside0 (w.cell? ⟨am1.block, am1.off + 2, none⟩ = some (.int .i64 1)) := ⟨by have h_ : w.cell? ⟨(am1.add 0).block, (am1.add 0).off + 2, none⟩ = some (.int .i64 1) := m2; rwa [Addr.add_zero'] at h_⟩
    clear m0 m1 m2
    go_cut [23, 24] (fun v23 v24 wd => ∃ (Bs co : Nat) (Ao : Option Addr), v23 = .pointer (some ⟨Bs, 0, none⟩) ∧ v24 = .bool true ∧ Aside0 (w4.heap.size + 1 < Bs) ∧ Aside0 (wd.heap[Bs]? = some (.cells #[.int .i64 1, .int .i64 0, .int .i64 1, .int .i64 1, .int .i64 0, .slice Ao J.length co] 67 (0, 0))) ∧ Aside0 (Kd.R (Kd.int .i64) 3 wd w.heap.size (fun k => k ≠ Bs) (.slice Ao J.length co : Value) J) ∧ Aside0 (Kd.S k67 67 wd w.heap.size (fun k => some k ≠ (.slice Ao J.length co : Value).ownBlock ∧ k ≠ Bs) (ov0) [(⟨⟨⟨0, 0, 1⟩, 1⟩, 0, J⟩ : S67)]) ∧ Aside0 (wd.heap[w4.heap.size]? = some (.cells #[.slice qa0 qn0 qc0, .slice (some am1) 1 c2] 123 (0, 0))) ∧ Aside0 (wd.heap[w.heap.size]? = some (.cells #[.int .i64 8, .int .i64 4, .int .i64 2, .int .i64 8, .int .i64 4, .int .i64 2] 72 (0, 0))) ∧ Aside0 (Below w.heap.size w wd))
    case first =>
      have y0 : w9_0.cell? ⟨w.heap.size, 3, none⟩ = some (.int .i64 8) := (blk_cell UX.out 3).trans rfl
      have y1 : w9_0.cell? ⟨w.heap.size, 4, none⟩ = some (.int .i64 4) := (blk_cell UX.out 4).trans rfl
      have y2 : w9_0.cell? ⟨w.heap.size, 5, none⟩ = some (.int .i64 2) := (blk_cell UX.out 5).trans rfl
      have y3 : w9_0.cell? ⟨w4.heap.size, 1, none⟩ = some (.slice (some am1) 1 c2) := (blk_cell UL.out 1).trans rfl
      have y4 : w9_0.cell? am1 = some (.int .i64 1) := (UW.out.cell (World.block_lt_of_cell? w _ M0.out)).trans M0.out
      have y5 : w9_0.cell? ⟨am1.block, am1.off + 1, none⟩ = some (.int .i64 0) := (UW.out.cell (World.block_lt_of_cell? w _ M1.out)).trans M1.out
      have y6 : w9_0.cell? ⟨am1.block, am1.off + 2, none⟩ = some (.int .i64 1) := (UW.out.cell (World.block_lt_of_cell? w _ M2.out)).trans M2.out
      have yd0 : w9_0.drew.cell? ⟨w.heap.size, 3, none⟩ = some (.int .i64 8) := y0
      have ya0 : (w9_0.alloc (.cells #[.int .i64 0, .int .i64 0, .int .i64 0, .int .i64 0, .int .i64 0, .slice none 0 0] 67 (0, 0))).drew.cell? ⟨w.heap.size, 3, none⟩ = some (.int .i64 8) := cell_al y0 _
      have ns0 : w9_0.heap.size ≠ (⟨w.heap.size, 3, none⟩ : Addr).block := Nat.ne_of_gt (World.block_lt_of_cell? w9_0 _ y0)
      have yd1 : w9_0.drew.cell? ⟨w.heap.size, 4, none⟩ = some (.int .i64 4) := y1
      have ya1 : (w9_0.alloc (.cells #[.int .i64 0, .int .i64 0, .int .i64 0, .int .i64 0, .int .i64 0, .slice none 0 0] 67 (0, 0))).drew.cell? ⟨w.heap.size, 4, none⟩ = some (.int .i64 4) := cell_al y1 _
      have ns1 : w9_0.heap.size ≠ (⟨w.heap.size, 4, none⟩ : Addr).block := Nat.ne_of_gt (World.block_lt_of_cell? w9_0 _ y1)
      have yd2 : w9_0.drew.cell? ⟨w.heap.size, 5, none⟩ = some (.int .i64 2) := y2
      have ya2 : (w9_0.alloc (.cells #[.int .i64 0, .int .i64 0, .int .i64 0, .int .i64 0, .int .i64 0, .slice none 0 0] 67 (0, 0))).drew.cell? ⟨w.heap.size, 5, none⟩ = some (.int .i64 2) := cell_al y2 _
      have ns2 : w9_0.heap.size ≠ (⟨w.heap.size, 5, none⟩ : Addr).block := Nat.ne_of_gt (World.block_lt_of_cell? w9_0 _ y2)
      have yd3 : w9_0.drew.cell? ⟨w4.heap.size, 1, none⟩ = some (.slice (some am1) 1 c2) := y3
      have ya3 : (w9_0.alloc (.cells #[.int .i64 0, .int .i64 0, .int .i64 0, .int .i64 0, .int .i64 0, .slice none 0 0] 67 (0, 0))).drew.cell? ⟨w4.heap.size, 1, none⟩ = some (.slice (some am1) 1 c2) := cell_al y3 _
      have ns3 : w9_0.heap.size ≠ (⟨w4.heap.size, 1, none⟩ : Addr).block := Nat.ne_of_gt (World.block_lt_of_cell? w9_0 _ y3)
      have yd4 : w9_0.drew.cell? am1 = some (.int .i64 1) := y4
      have ya4 : (w9_0.alloc (.cells #[.int .i64 0, .int .i64 0, .int .i64 0, .int .i64 0, .int .i64 0, .slice none 0 0] 67 (0, 0))).drew.cell? am1 = some (.int .i64 1) := cell_al y4 _
      have ns4 : w9_0.heap.size ≠ (am1 : Addr).block := Nat.ne_of_gt (World.block_lt_of_cell? w9_0 _ y4)
      have yd5 : w9_0.drew.cell? ⟨am1.block, am1.off + 1, none⟩ = some (.int .i64 0) := y5
      have ya5 : (w9_0.alloc (.cells #[.int .i64 0, .int .i64 0, .int .i64 0, .int .i64 0, .int .i64 0, .slice none 0 0] 67 (0, 0))).drew.cell? ⟨am1.block, am1.off + 1, none⟩ = some (.int .i64 0) := cell_al y5 _
      have ns5 : w9_0.heap.size ≠ (⟨am1.block, am1.off + 1, none⟩ : Addr).block := Nat.ne_of_gt (World.block_lt_of_cell? w9_0 _ y5)
      have yd6 : w9_0.drew.cell? ⟨am1.block, am1.off + 2, none⟩ = some (.int .i64 1) := y6
      have ya6 : (w9_0.alloc (.cells #[.int .i64 0, .int .i64 0, .int .i64 0, .int .i64 0, .int .i64 0, .slice none 0 0] 67 (0, 0))).drew.cell? ⟨am1.block, am1.off + 2, none⟩ = some (.int .i64 1) := cell_al y6 _
      have ns6 : w9_0.heap.size ≠ (⟨am1.block, am1.off + 2, none⟩ : Addr).block := Nat.ne_of_gt (World.block_lt_of_cell? w9_0 _ y6)
      (first | (go_region_held3 (fun w' => w'.cell? ⟨w.heap.size, 3, none⟩ = some (.int .i64 8) ∧ w'.cell? ⟨w.heap.size, 4, none⟩ = some (.int .i64 4) ∧ w'.cell? ⟨w.heap.size, 5, none⟩ = some (.int .i64 2) ∧ w'.cell? ⟨w4.heap.size, 1, none⟩ = some (.slice (some am1) 1 c2) ∧ w'.cell? am1 = some (.int .i64 1) ∧ w'.cell? ⟨am1.block, am1.off + 1, none⟩ = some (.int .i64 0) ∧ w'.cell? ⟨am1.block, am1.off + 2, none⟩ = some (.int .i64 1)) (first | with_reducible exact ⟨yd0, yd1, yd2, yd3, yd4, yd5, yd6⟩ | with_reducible exact ⟨ya0, ya1, ya2, ya3, ya4, ya5, ya6⟩ | with_reducible exact ⟨v0, v1, v2, v3, v4, v5, v6⟩ | with_reducible exact ⟨cell_al v0 _, cell_al v1 _, cell_al v2 _, cell_al v3 _, cell_al v4 _, cell_al v5 _, cell_al v6 _⟩ | with_reducible exact ⟨cell_al y0 _, cell_al y1 _, cell_al y2 _, cell_al y3 _, cell_al y4 _, cell_al y5 _, cell_al y6 _⟩ | exact ⟨far6 v0 ns0 _ _ _ _ _ _, far6 v1 ns1 _ _ _ _ _ _, far6 v2 ns2 _ _ _ _ _ _, far6 v3 ns3 _ _ _ _ _ _, far6 v4 ns4 _ _ _ _ _ _, far6 v5 ns5 _ _ _ _ _ _, far6 v6 ns6 _ _ _ _ _ _⟩) (first
        | (go_at_call 61; (with_reducible refine (timetable_slot.calls K 8 4 2 1 0 1 1 0 1 0 1 1 0 J true w9_0.drew SL1.out).mono ?_); rintro e w7 ⟨v5_, rfl, hR5, hb7⟩; obtain ⟨Ao, co, eo⟩ := Kd.R_slice hR5; subst eo; have v0 := cell_in yd0 hb7; have v1 := cell_in yd1 hb7; have v2 := cell_in yd2 hb7; have v3 := cell_in yd3 hb7; have v4 := cell_in yd4 hb7; have v5 := cell_in yd5 hb7; have v6 := cell_in yd6 hb7; have HO7 := Aside0.mk (Kd.S_elder' (Kd.S_drew HO.out) (Kd.R_base hR5) hb7); have HR7 := Aside0.mk hR5; have HB7 := Aside0.mk hb7; clear hR5 hb7)
        | (go_at_call 61; (with_reducible refine (timetable_slot.calls K 8 4 2 1 0 1 1 0 1 0 1 1 0 J true (w9_0.alloc (.cells #[.int .i64 0, .int .i64 0, .int .i64 0, .int .i64 0, .int .i64 0, .slice none 0 0] 67 (0, 0))).drew SL1.out).mono ?_); rintro e w7 ⟨v5_, rfl, hR5, hb7⟩; obtain ⟨Ao, co, eo⟩ := Kd.R_slice hR5; subst eo; have v0 := cell_in ya0 hb7; have v1 := cell_in ya1 hb7; have v2 := cell_in ya2 hb7; have v3 := cell_in ya3 hb7; have v4 := cell_in ya4 hb7; have v5 := cell_in ya5 hb7; have v6 := cell_in ya6 hb7; have HO7 := Aside0.mk (Kd.S_elder' (Kd.S_drew (Kd.S_alloc (Kd.S_elderB HO.out w9_0.heap.size (Nat.le_refl _)) (.cells #[.int .i64 0, .int .i64 0, .int .i64 0, .int .i64 0, .int .i64 0, .slice none 0 0] 67 (0, 0)))) (Kd.R_base hR5) hb7); have hn7 := blk_in (show ((w9_0.alloc (.cells #[.int .i64 0, .int .i64 0, .int .i64 0, .int .i64 0, .int .i64 0, .slice none 0 0] 67 (0, 0))).drew).heap[w9_0.heap.size]? = some (.cells #[.int .i64 0, .int .i64 0, .int .i64 0, .int .i64 0, .int .i64 0, .slice none 0 0] 67 (0, 0)) from heap_alloc_new w9_0 (.cells #[.int .i64 0, .int .i64 0, .int .i64 0, .int .i64 0, .int .i64 0, .slice none 0 0] 67 (0, 0))) hb7; have HN7 := Aside0.mk hn7; have n0 : w7.cell? ⟨w9_0.heap.size, 0, none⟩ = some (.int .i64 0) := (blk_cell hn7 0).trans rfl; have n1 : w7.cell? ⟨w9_0.heap.size, 1, none⟩ = some (.int .i64 0) := (blk_cell hn7 1).trans rfl; have n2 : w7.cell? ⟨w9_0.heap.size, 2, none⟩ = some (.int .i64 0) := (blk_cell hn7 2).trans rfl; have n3 : w7.cell? ⟨w9_0.heap.size, 3, none⟩ = some (.int .i64 0) := (blk_cell hn7 3).trans rfl; have n4 : w7.cell? ⟨w9_0.heap.size, 4, none⟩ = some (.int .i64 0) := (blk_cell hn7 4).trans rfl; have n5 : w7.cell? ⟨w9_0.heap.size, 5, none⟩ = some (.slice none 0 0) := (blk_cell hn7 5).trans rfl; have f0 := blk_frozen hn7 0; have f1 := blk_frozen hn7 1; have f2 := blk_frozen hn7 2; have f3 := blk_frozen hn7 3; have f4 := blk_frozen hn7 4; have f5 := blk_frozen hn7 5; clear hn7; have HR7 := Aside0.mk hR5; have HB7 := Aside0.mk hb7; clear hR5 hb7))) | (fail "no"))
      all_goals
        first
          | (obtain ⟨W9, e9, b9, g9⟩ := setS HN7.out (.int .i64 1) (.int .i64 0) (.int .i64 1) (.int .i64 1) (.int .i64 0) (.slice Ao J.length co); rw [e9]; go_wp2; go_meet; case rel => exact ⟨w9_0.heap.size, co, Ao, rfl, rfl, SU, ⟨b9⟩, ⟨Kd.R_mono (Kd.R_grown (Kd.R_types (Kd.R_lower HR7.out (show w.heap.size ≤ ((w9_0.alloc (.cells #[.int .i64 0, .int .i64 0, .int .i64 0, .int .i64 0, .int .i64 0, .slice none 0 0] 67 (0, 0))).drew).heap.size from (UW.out.alloc UW.out.size (.cells #[.int .i64 0, .int .i64 0, .int .i64 0, .int .i64 0, .int .i64 0, .slice none 0 0] 67 (0, 0))).drew.size)) HN7.out (by decide)) g9 (fun k h_ e_ => h_.2 (Option.some.inj e_))) (fun _ h_ => h_.2)⟩, ⟨Kd.S_mono (Kd.S_grown HO7.out g9 (fun k h_ e_ => h_.1.2 (Option.some.inj e_))) (fun _ h_ => ⟨h_.2, h_.1.2⟩)⟩, ⟨blk_gr (blk_in (W := (w9_0.alloc (.cells #[.int .i64 0, .int .i64 0, .int .i64 0, .int .i64 0, .int .i64 0, .slice none 0 0] 67 (0, 0))).drew) (blk_al UL.out _) HB7.out) g9 (by have := SU.out; omega)⟩, ⟨blk_gr (blk_in (W := (w9_0.alloc (.cells #[.int .i64 0, .int .i64 0, .int .i64 0, .int .i64 0, .int .i64 0, .slice none 0 0] 67 (0, 0))).drew) (blk_al UX.out _) HB7.out) g9 (by have := SU.out; have := S4.out; omega)⟩, ⟨Ticks.below_grown (below_tr (W := (w9_0.alloc (.cells #[.int .i64 0, .int .i64 0, .int .i64 0, .int .i64 0, .int .i64 0, .slice none 0 0] 67 (0, 0))).drew) (UW.out.alloc UW.out.size (.cells #[.int .i64 0, .int .i64 0, .int .i64 0, .int .i64 0, .int .i64 0, .slice none 0 0] 67 (0, 0))).drew HB7.out) g9 UW.out.size⟩⟩)
          | (go_wp2; go_meet; case rel => exact ⟨w7.heap.size, co, Ao, rfl, rfl, ⟨Nat.lt_of_lt_of_le SU.out HB7.out.size⟩, ⟨heap_alloc_new w7 _⟩, ⟨Kd.R_alloc (Kd.R_mono (Kd.R_elderB (Kd.R_lower HR7.out UW.out.size) w7.heap.size (Nat.le_refl _)) (fun _ h_ => h_.2)) _⟩, ⟨Kd.S_alloc (Kd.S_mono (Kd.S_elderB HO7.out w7.heap.size (Nat.le_refl _)) (fun _ h_ => ⟨h_.1.2, h_.2⟩)) _⟩, ⟨blk_al (blk_in (W := w9_0.drew) UL.out HB7.out) _⟩, ⟨blk_al (blk_in (W := w9_0.drew) UX.out HB7.out) _⟩, ⟨(below_tr (W := w9_0.drew) UW.out.drew HB7.out).alloc (below_tr (W := w9_0.drew) UW.out.drew HB7.out).size _⟩⟩)
    case rest =>
      obtain ⟨Bs, co, Ao, rfl, rfl, hLT, hSB, hRJ, hHO, hUL, hUX, hUW⟩ := hcut
      clear UL UX UW SU HO M0 M1 M2
      obtain ⟨i0_, hi0_, _, hsz_, _⟩ := info_parts info63
      obtain ⟨qa1, qn1, qc1, hq1⟩ : ∃ qa qn qc, ∀ W : World, (Instr.slice 50 (.slice (some am1) 1 c2) (some (.int .i64 1)) none none).run Try.prog W = .ok (.slice qa qn qc) W := ⟨_, _, _, cut_from (P := Try.prog) 50 63 .i64 Try.underlying50 hi0_ 3 hsz_ (some am1) 1 c2 1 (by omega) (by omega)⟩
      have gT := Ticks.grown_set wc w4.heap.size 1 (.slice qa1 qn1 qc1)
      have szT : (wc.setCell ⟨w4.heap.size, 1, none⟩ (.slice qa1 qn1 qc1)).heap.size = wc.heap.size := by simp
      have neB : Bs ≠ w4.heap.size := by have := hLT.out; omega
      have TR := Aside0.mk (Kd.R_mono (ok' := fun k => k ≠ Bs) (Kd.R_grown (Kd.R_types hRJ.out hUL.out (by decide)) gT (fun k h_ e_ => h_.2 (Option.some.inj e_))) (fun _ h_ => h_.1))
      have TS := Aside0.mk (Kd.S_mono (ok' := fun k => some k ≠ (.slice Ao J.length co : Value).ownBlock ∧ k ≠ Bs) (Kd.S_grown (Kd.S_types hHO.out hUL.out (by decide)) gT (fun k h_ e_ => h_.2 (Option.some.inj e_))) (fun _ h_ => h_.1))
      have TB := Aside0.mk (blk_gr hSB.out gT neB)
      have TL : Aside0 ((wc.setCell ⟨w4.heap.size, 1, none⟩ (.slice qa1 qn1 qc1)).heap[w4.heap.size]? = some (.cells #[.slice qa0 qn0 qc0, .slice qa1 qn1 qc1] 123 (0, 0))) := ⟨by have h_ := blk_set hUL.out 1 (.slice qa1 qn1 qc1); simpa using h_⟩
      have TX := Aside0.mk (blk_gr hUX.out gT (by have := S4.out; omega))
      have TW := Aside0.mk (Ticks.below_grown hUW.out gT (by have := S4.out; omega))
      have TA := Aside0.mk (Kd.R_apart' TR.out (Kd.S_typed TS.out) (by decide))
      have y0 : wc.cell? ⟨w4.heap.size, 1, none⟩ = some (.slice (some am1) 1 c2) := (blk_cell hUL.out 1).trans rfl
      have yf := blk_frozen hUL.out 1
      have s0 : (wc.setCell ⟨w4.heap.size, 1, none⟩ (.slice qa1 qn1 qc1)).cell? ⟨Bs, 0, none⟩ = some (.int .i64 1) := (blk_cell TB.out 0).trans rfl
      have s1 : (wc.setCell ⟨w4.heap.size, 1, none⟩ (.slice qa1 qn1 qc1)).cell? ⟨Bs, 1, none⟩ = some (.int .i64 0) := (blk_cell TB.out 1).trans rfl
      have s2 : (wc.setCell ⟨w4.heap.size, 1, none⟩ (.slice qa1 qn1 qc1)).cell? ⟨Bs, 2, none⟩ = some (.int .i64 1) := (blk_cell TB.out 2).trans rfl
      have s3 : (wc.setCell ⟨w4.heap.size, 1, none⟩ (.slice qa1 qn1 qc1)).cell? ⟨Bs, 3, none⟩ = some (.int .i64 1) := (blk_cell TB.out 3).trans rfl
      have s4 : (wc.setCell ⟨w4.heap.size, 1, none⟩ (.slice qa1 qn1 qc1)).cell? ⟨Bs, 4, none⟩ = some (.int .i64 0) := (blk_cell TB.out 4).trans rfl
      have s5 : (wc.setCell ⟨w4.heap.size, 1, none⟩ (.slice qa1 qn1 qc1)).cell? ⟨Bs, 5, none⟩ = some (.slice Ao J.length co) := (blk_cell TB.out 5).trans rfl
      have NE := Aside0.mk (Kd.S_away TS.out (fun _ h_ => h_.2))
      have NL := Aside0.mk (Kd.S_ne TS.out TL.out (by decide))
      have NX := Aside0.mk (Kd.S_ne TS.out TX.out (by decide))
      have HBs := Aside0.mk ((Array.getElem?_eq_some_iff.1 TB.out).1)
      clear gT hSB hRJ hHO hUL hUX hUW
      go_step
      go_wp2_with (first
        | ((with_reducible refine gate_builtin (b := .append) (xs := #[.tmp 127, .tmp 129]) rfl ?_); at_builtin; refine Kd.S_append k67 (w0 := w) w.heap.size rfl (.tmp 127) (.tmp 129) 53 67 (.agg #[(.int .i64 0), (.int .i64 0), (.int .i64 0), (.int .i64 0), (.int .i64 0), (.slice none 0 0)]) 64 rfl Try.underlying53 info67 rfl (by decide) (by omega) (ov0) [(⟨⟨⟨0, 0, 1⟩, 1⟩, 0, J⟩ : S67)] (⟨⟨⟨1, 0, 1⟩, 1⟩, 0, J⟩ : S67) [.int .i64 1, .int .i64 0, .int .i64 1, .int .i64 1, .int .i64 0, .slice Ao J.length co] (fun _ => True) (fun k_ => some k_ = (.slice Ao J.length co : Value).ownBlock) rfl (by rw [szT]; rfl) (k67_mkM _ _ _ (⟨⟨⟨1, 0, 1⟩, 1⟩, 0, J⟩ : S67) (Kd.R_tight rfl TR.out)) (fun k_ hk_ => ⟨trivial, (TA.out.1 k_ hk_.symm).2⟩) (fun _ _ => trivial) (Kd.S_mono TS.out (fun _ h_ => ⟨trivial, h_.1⟩)) TW.out TW.out.size (by simp) ?_; intro ov1 w8 ho hb hg hat; have AB := Aside0.mk ((hg.block Bs HBs.out NE.out).trans TB.out); have AL := Aside0.mk ((hg.block w4.heap.size (Array.getElem?_eq_some_iff.1 TL.out).1 NL.out).trans TL.out); have AX := Aside0.mk ((hg.block w.heap.size (Array.getElem?_eq_some_iff.1 TX.out).1 NX.out).trans TX.out); have AJ := Aside0.mk (Kd.R_grown TA.out hg (fun k h_ => h_.2)); have AO := Aside0.mk ho; have AW := Aside0.mk hb; have u0 : w8.cell? ⟨Bs, 0, none⟩ = some (.int .i64 1) := (blk_cell AB.out 0).trans rfl; have u1 : w8.cell? ⟨Bs, 1, none⟩ = some (.int .i64 0) := (blk_cell AB.out 1).trans rfl; have u2 : w8.cell? ⟨Bs, 2, none⟩ = some (.int .i64 1) := (blk_cell AB.out 2).trans rfl; have u3 : w8.cell? ⟨Bs, 3, none⟩ = some (.int .i64 1) := (blk_cell AB.out 3).trans rfl; have u4 : w8.cell? ⟨Bs, 4, none⟩ = some (.int .i64 0) := (blk_cell AB.out 4).trans rfl; have u5 : w8.cell? ⟨Bs, 5, none⟩ = some (.slice Ao J.length co) := (blk_cell AB.out 5).trans rfl; clear ho hb hg hat)
        | (go_at_call 62; refine (timetable_ends.calls 1 0 1 1 0 Ao co J (J.length : Int) _ (Kd.R_reads' AJ.out).2.2 (Kd.R_reads' AJ.out).2.1 (ends_h HL.out 1)).mono ?_; rintro e w9_1 ⟨rfl, hb9⟩; have UL := Aside0.mk (blk_in AL.out hb9); have UX := Aside0.mk (blk_in AX.out hb9); have UW := Aside0.mk (below_tr AW.out hb9); have SU : Aside0 (w4.heap.size + 1 < w9_1.heap.size) := ⟨by have h1_ := (Array.getElem?_eq_some_iff.1 (blk_in AB.out hb9)).1; have := hLT.out; omega⟩; have HO := Aside0.mk (Kd.S_below AO.out hb9); clear hb9))
      rw [rounds_succ]
      go_wp2
      rw [rounds_succ]
      go_wp2
      refine bodyPost_ret (v := .tuple #[ov1, .int .i64 0]) (by simp [results, Try.results33, go_sem]) rfl ?_
      exact ⟨ov1, rfl, HO.out, UW.out⟩
end Go.Proofs.Ytmmaodlngnjmlaa.Coord
