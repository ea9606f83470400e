/- The fixed examples ahead of the supervisor's laws. -/
import Derived.Test.YthmddbffhbfmeaaXPlain29
import Derived.Test.YthmddbffhbfmeaaP1
import Derived.Test.YthmddbffhbfmeaaP1
import Derived.Test.YthmddbffhbfmeaaP1
namespace Go.Proofs.Ythmddbffhbfmeaa.Sup
set_option linter.unusedVariables false
set_option linter.unusedSimpArgs false
open Go Go.RowKit Go.Proofs.YthmddbffhbfmeaaW.PrintWords Go.Proofs.YthmddbffhbfmeaaW.PrintMore Go.Proofs.Ythmddbffhbfmeaa.Ticks Go.Proofs.Ythmddbffhbfmeaa.P
def exT : List S31 := [⟨3, 3, -1⟩, ⟨4, 1, -2⟩, ⟨4, 0, -1⟩, ⟨4, 0, 0⟩]
theorem stop_ex : braking_StopMotion.f 100 8 4 1 0 4 0 1 = some exT := by kernel_rfl
theorem stop_ex_run (w : World) : Calls Try.prog 12 #[.agg #[.int .i64 8, .int .i64 4, .int .i64 1], .agg #[.int .i64 0, .int .i64 4, .int .i64 0], .int .i64 1] w fun e w' => ∃ (ad : Addr) (c : Nat), e = .returned (.slice (some ad) 4 c) ∧ w'.cell? ⟨ad.block, ad.off + 9 + 1, none⟩ = some (.int .i64 0) ∧ Below w.heap.size w w' := by
  refine (braking_StopMotion.calls 100 8 4 1 0 4 0 1 exT w stop_ex).mono ?_
  rintro e w' ⟨v, rfl, hR, hB⟩
  obtain ⟨A, c, rfl, _, hC⟩ := Kd.R_reads hR
  obtain ⟨ad, rfl, _, h1, _⟩ := at_T31 hC 3 (by omega) (by decide)
  exact ⟨ad, c, rfl, by have e : (rd_T31 exT 3).f1 = 0 := rfl; rw [e] at h1; simpa [Addr.add_succ'] using h1, hB⟩
theorem good_form {W : World} {cv : Value} (h : Good W cv) : ∃ A n c, cv = .slice A n c := h.form
theorem step_ex1 (W : World) : Calls Try.prog 20 #[.agg #[.int .i64 1, .int .i64 0, .int .i64 0, .slice none 0 0, .int .i64 0, .int .i64 0], .slice none 0 0, .int .i64 1, .bool true] W fun e W' =>
    ∃ A n c t0 t1, e = .returned (.tuple #[.agg #[.int .i64 2, .int .i64 0, .int .i64 0, .slice A n c, .int .i64 t0, .int .i64 t1], .int .i64 0]) ∧ Good W' (.slice A n c) ∧ Below W.heap.size W W' := by
  have hx : modeS 1 0 0 (callS [] 1) 1 true = (2, 0, 0) := by decide
  refine (step_run 1 0 0 (.slice none 0 0) 0 0 none 0 [] 1 true W (Good.nil W) ⟨fun _ => rfl, fun ad e => (by cases e)⟩ (by simp) (by omega) (by omega)).mono ?_
  rw [hx]
  rintro e W' ⟨cv, rfl, hg, hB⟩
  obtain ⟨A, n, c, rfl⟩ := hg.form
  exact ⟨A, n, c, _, _, rfl, hg, hB⟩
theorem step_ex2 (W : World) (A : Option Addr) (n c g : Nat) (t0 t1 : Int) (hg : Good W (.slice A n c)) (hb : W.heap[g]? = some (.cells #[.int .i64 2, .int .i64 0, .int .i64 0, .int .i64 0] 67 (0, 0))) : Calls Try.prog 20 #[.agg #[.int .i64 2, .int .i64 0, .int .i64 0, .slice A n c, .int .i64 t0, .int .i64 t1], .slice (some ⟨g, 0, none⟩) 1 1, .int .i64 0, .bool false] W fun e W' =>
    ∃ A n c t0 t1, e = .returned (.tuple #[.agg #[.int .i64 3, .int .i64 1, .int .i64 60, .slice A n c, .int .i64 t0, .int .i64 t1], .int .i64 0]) ∧ Below W.heap.size W W' := by
  have hx : modeS 2 0 0 (callS [(2, 0, 0, 0)] 0) 0 false = (3, 1, 60) := by decide
  have hV : VL W (some ⟨g, 0, none⟩) [(2, 0, 0, 0)] := ⟨fun e => (by cases e), fun ad e j x hj => by
    cases e
    match j, hj with
    | 0, hj =>
      obtain rfl : (2, 0, 0, 0) = x := by simpa using hj
      exact ⟨(blk_cell hb 0).trans rfl, (blk_cell hb 1).trans rfl, (blk_cell hb 2).trans rfl, (blk_cell hb 3).trans rfl⟩
    | k + 1, hj => simp at hj⟩
  refine (step_run 2 0 0 (.slice A n c) t0 t1 (some ⟨g, 0, none⟩) 1 [(2, 0, 0, 0)] 0 false W hg hV (by simp) (by omega) (by omega)).mono ?_
  rw [hx]
  rintro e W' ⟨cv, rfl, hg', hB⟩
  obtain ⟨A', n', c', rfl⟩ := hg'.form
  exact ⟨A', n', c', _, _, rfl, hB⟩
theorem obs_ex1 (w : World) : Calls Try.prog 26 #[.agg #[.bool false, .bool false, .int .i64 0, .bool false], .bool true, .bool true] w fun e w' => e = .returned (.agg #[.bool true, .bool true, .int .i64 0, .bool false]) ∧ Below w.heap.size w w' := dualchannel_Observe.calls _ _ _ _ _ _ _ _ _ _ w rfl
theorem obs_ex2 (w : World) : Calls Try.prog 26 #[.agg #[.bool true, .bool true, .int .i64 0, .bool false], .bool true, .bool false] w fun e w' => e = .returned (.agg #[.bool true, .bool false, .int .i64 1, .bool false]) ∧ Below w.heap.size w w' := dualchannel_Observe.calls _ _ _ _ _ _ _ _ _ _ w (by kernel_rfl)
theorem clo_ex1 (w : World) : Calls Try.prog 27 #[.agg #[.bool true, .bool true, .int .i64 0, .bool false]] w fun e w' => e = .returned (.bool true) ∧ Below w.heap.size w w' := dualchannel_Closed.calls _ _ _ _ _ w rfl
theorem clo_ex2 (w : World) : Calls Try.prog 27 #[.agg #[.bool true, .bool false, .int .i64 1, .bool false]] w fun e w' => e = .returned (.bool false) ∧ Below w.heap.size w w' := dualchannel_Closed.calls _ _ _ _ _ w rfl
theorem cmd_ex (A : Option Addr) (n c : Nat) (t0 t1 : Int) (w : World) : Calls Try.prog 23 #[.agg #[.int .i64 3, .int .i64 1, .int .i64 60, .slice A n c, .int .i64 t0, .int .i64 t1]] w fun e w' => e = .returned (.int .i64 1) ∧ Below w.heap.size w w' := command_run 3 1 60 A n c t0 t1 w
theorem blk_in {W W' : World} {b : Nat} {o : Obj} (h : W.heap[b]? = some o) (hB : Below W.heap.size W W') : W'.heap[b]? = some o := (hB.block b (Array.getElem?_eq_some_iff.1 h).1).trans h
theorem blk_al {W : World} {b : Nat} {o : Obj} (h : W.heap[b]? = some o) (o' : Obj) : (W.alloc o').heap[b]? = some o := (Below.heap_alloc W o' b (Array.getElem?_eq_some_iff.1 h).1).trans h
theorem cell_in {W W' : World} {p : Addr} {v : Value} (h : W.cell? p = some v) (hB : Below W.heap.size W W') : W'.cell? p = some v := (hB.cell (World.block_lt_of_cell? W _ h)).trans h
theorem cell_al {W : World} {p : Addr} {v : Value} (h : W.cell? p = some v) (o : Obj) : (W.alloc o).cell? p = some v := (World.cell?_of_block (Below.heap_alloc W o _ (World.block_lt_of_cell? W _ h))).trans h
theorem heap_new2 (W : World) (o1 o2 : Obj) : ((W.alloc o1).alloc o2).heap[W.heap.size + 1]? = some o2 := by
  have h := heap_alloc_new (W.alloc o1) o2
  rwa [World.size_alloc] at h
theorem below_al {w W W' : World} {o : Obj} (h : Below w.heap.size w W) (hB : Below (W.alloc o).heap.size (W.alloc o) W') : Below w.heap.size w W' := (h.alloc h.size o).trans (hB.mono (h.alloc h.size o).size)
theorem below_tr {w W W' : World} (h : Below w.heap.size w W) (hB : Below W.heap.size W W') : Below w.heap.size w W' := h.trans (hB.mono h.size)
set_option maxRecDepth 100000 in
set_option maxHeartbeats 4000000 in
theorem head_run (w : World) : Calls Try.prog 16 #[] w fun e w' => e = .returned (.bool true) ∧ Below w.heap.size w w' := by
  go_enter Try.func16, Try.ntmps16
  go_upto_region 2 with (first
    | (go_at_call 21; refine (new_run _).mono ?_; rintro e w1 ⟨rfl, hb1⟩; have HB1 := Aside0.mk hb1; clear hb1)
    | (go_at_call 20; refine (step_ex1 _).mono ?_; rintro e w2 ⟨A, n, c, t0, t1, rfl, hg, hb2⟩; have HG := Aside0.mk hg; have HB2 := Aside0.mk (below_tr HB1.out hb2); clear hg hb2))
  have G2 := Aside0.mk (show Good ((w2.alloc (.cells #[.int .i64 2, .int .i64 0, .int .i64 0, .slice A n c, .int .i64 t0, .int .i64 t1] 48 (0, 0))).alloc (.cells #[.int .i64 2, .int .i64 0, .int .i64 0, .int .i64 0] 67 (0, 0))) (.slice A n c) from HG.out.below (((Below.refl _ w2).alloc (Nat.le_refl _) _).alloc (by simp) _))
  have V2 := Aside0.mk (heap_new2 w2 (.cells #[.int .i64 2, .int .i64 0, .int .i64 0, .slice A n c, .int .i64 t0, .int .i64 t1] 48 (0, 0)) (.cells #[.int .i64 2, .int .i64 0, .int .i64 0, .int .i64 0] 67 (0, 0)))
  have M2 := Aside0.mk (show ((w2.alloc (.cells #[.int .i64 2, .int .i64 0, .int .i64 0, .slice A n c, .int .i64 t0, .int .i64 t1] 48 (0, 0))).alloc (.cells #[.int .i64 2, .int .i64 0, .int .i64 0, .int .i64 0] 67 (0, 0))).heap[w2.heap.size]? = _ from blk_al (heap_alloc_new w2 (.cells #[.int .i64 2, .int .i64 0, .int .i64 0, .slice A n c, .int .i64 t0, .int .i64 t1] 48 (0, 0))) (.cells #[.int .i64 2, .int .i64 0, .int .i64 0, .int .i64 0] 67 (0, 0)))
  have B2 := Aside0.mk (show Below w.heap.size w ((w2.alloc (.cells #[.int .i64 2, .int .i64 0, .int .i64 0, .slice A n c, .int .i64 t0, .int .i64 t1] 48 (0, 0))).alloc (.cells #[.int .i64 2, .int .i64 0, .int .i64 0, .int .i64 0] 67 (0, 0))) from (HB2.out.alloc HB2.out.size _).alloc (by have := HB2.out.size; simp; omega) _)
  go_upto_region 3 with (go_at_call 20; refine (step_ex2 _ A n c (w2.heap.size + 1) t0 t1 (by exact G2.out) (by exact V2.out)).mono ?_; rintro e w3 ⟨A3, n3, c3, s0, s1, rfl, hb3⟩; have M3 := Aside0.mk (blk_in M2.out hb3); have B3 := Aside0.mk (below_tr B2.out hb3); clear hb3)
  clear G2 V2 M2 B2 HG HB1 HB2
  have M4 := Aside0.mk (blk_al M3.out (.cells #[.int .i64 3, .int .i64 1, .int .i64 60, .slice A3 n3 c3, .int .i64 s0, .int .i64 s1] 48 (0, 0)))
  have X4 := Aside0.mk (heap_alloc_new w3 (.cells #[.int .i64 3, .int .i64 1, .int .i64 60, .slice A3 n3 c3, .int .i64 s0, .int .i64 s1] 48 (0, 0)))
  have B4 := Aside0.mk (B3.out.alloc B3.out.size (.cells #[.int .i64 3, .int .i64 1, .int .i64 60, .slice A3 n3 c3, .int .i64 s0, .int .i64 s1] 48 (0, 0)))
  go_upto_region 4 with (go_at_call 12; refine (stop_ex_run _).mono ?_; rintro e w4 ⟨ad, cs, rfl, hrow, hb4⟩; have M5 := Aside0.mk (blk_in M4.out hb4); have X5 := Aside0.mk (blk_in X4.out hb4); have B5 := Aside0.mk (below_tr B4.out hb4); have R5 := Aside0.mk hrow; clear hb4 hrow)
  clear M3 B3 M4 X4 B4
  go_upto_region 5 with (go_at_call 26; refine (obs_ex1 _).mono ?_; rintro e w5 ⟨rfl, hb5⟩; have M6 := Aside0.mk (blk_al (blk_in M5.out hb5) (.cells #[.bool true, .bool true, .int .i64 0, .bool false] 61 (0, 0))); have X6 := Aside0.mk (blk_al (blk_in X5.out hb5) (.cells #[.bool true, .bool true, .int .i64 0, .bool false] 61 (0, 0))); have B6 := Aside0.mk ((below_tr B5.out hb5).alloc (below_tr B5.out hb5).size (.cells #[.bool true, .bool true, .int .i64 0, .bool false] 61 (0, 0))); have R6 := Aside0.mk (cell_al (cell_in R5.out hb5) (.cells #[.bool true, .bool true, .int .i64 0, .bool false] 61 (0, 0))); have T6 := Aside0.mk (heap_alloc_new w5 (.cells #[.bool true, .bool true, .int .i64 0, .bool false] 61 (0, 0))); clear hb5)
  clear M5 X5 B5 R5
  go_upto_region 6 with (go_at_call 26; refine (obs_ex2 _).mono ?_; rintro e w6 ⟨rfl, hb6⟩; have M7 := Aside0.mk (blk_al (blk_in M6.out hb6) (.cells #[.bool true, .bool false, .int .i64 1, .bool false] 61 (0, 0))); have X7 := Aside0.mk (blk_al (blk_in X6.out hb6) (.cells #[.bool true, .bool false, .int .i64 1, .bool false] 61 (0, 0))); have B7 := Aside0.mk ((below_tr B6.out hb6).alloc (below_tr B6.out hb6).size (.cells #[.bool true, .bool false, .int .i64 1, .bool false] 61 (0, 0))); have R7 := Aside0.mk (cell_al (cell_in R6.out hb6) (.cells #[.bool true, .bool false, .int .i64 1, .bool false] 61 (0, 0))); have T7 := Aside0.mk (blk_al (blk_in T6.out hb6) (.cells #[.bool true, .bool false, .int .i64 1, .bool false] 61 (0, 0))); have U7 := Aside0.mk (heap_alloc_new w6 (.cells #[.bool true, .bool false, .int .i64 1, .bool false] 61 (0, 0))); clear hb6)
  clear M6 X6 B6 R6 T6
  generalize hwb : w6.alloc (.cells #[.bool true, .bool false, .int .i64 1, .bool false] 61 (0, 0)) = wb at *
  clear hwb
  have m0 : wb.cell? ⟨w2.heap.size, 0, none⟩ = some (.int .i64 2) := (blk_cell M7.out 0).trans rfl
  have x0 : wb.cell? ⟨w3.heap.size, 0, none⟩ = some (.int .i64 3) := (blk_cell X7.out 0).trans rfl
  have x1 : wb.cell? ⟨w3.heap.size, 1, none⟩ = some (.int .i64 1) := (blk_cell X7.out 1).trans rfl
  have x2 : wb.cell? ⟨w3.heap.size, 2, none⟩ = some (.int .i64 60) := (blk_cell X7.out 2).trans rfl
  have x3 : wb.cell? ⟨w3.heap.size, 3, none⟩ = some (.slice A3 n3 c3) := (blk_cell X7.out 3).trans rfl
  have x4 : wb.cell? ⟨w3.heap.size, 4, none⟩ = some (.int .i64 s0) := (blk_cell X7.out 4).trans rfl
  have x5 : wb.cell? ⟨w3.heap.size, 5, none⟩ = some (.int .i64 s1) := (blk_cell X7.out 5).trans rfl
  go_wp2_with (first
    | (go_at_call 23; refine (cmd_ex A3 n3 c3 s0 s1 _).mono ?_; rintro e w7 ⟨rfl, hb7⟩; have R8 := cell_in R7.out hb7; have T8 := blk_in T7.out hb7; have U8 := blk_in U7.out hb7; have t0 : w7.cell? ⟨w5.heap.size, 0, none⟩ = some (.bool true) := (blk_cell T8 0).trans rfl; have t1 : w7.cell? ⟨w5.heap.size, 1, none⟩ = some (.bool true) := (blk_cell T8 1).trans rfl; have t2 : w7.cell? ⟨w5.heap.size, 2, none⟩ = some (.int .i64 0) := (blk_cell T8 2).trans rfl; have t3 : w7.cell? ⟨w5.heap.size, 3, none⟩ = some (.bool false) := (blk_cell T8 3).trans rfl; have UU8 := Aside0.mk U8; have B8 := Aside0.mk (below_tr B7.out hb7); clear T8 U8 hb7)
    | (go_at_call 27; (with_reducible refine (clo_ex1 _).mono ?_); rintro e w8 ⟨rfl, hb8⟩; have U9 := blk_in UU8.out hb8; have u0 : w8.cell? ⟨w6.heap.size, 0, none⟩ = some (.bool true) := (blk_cell U9 0).trans rfl; have u1 : w8.cell? ⟨w6.heap.size, 1, none⟩ = some (.bool false) := (blk_cell U9 1).trans rfl; have u2 : w8.cell? ⟨w6.heap.size, 2, none⟩ = some (.int .i64 1) := (blk_cell U9 2).trans rfl; have u3 : w8.cell? ⟨w6.heap.size, 3, none⟩ = some (.bool false) := (blk_cell U9 3).trans rfl; have UU9 := Aside0.mk U9; have B9 := Aside0.mk (below_tr B8.out hb8); clear U9 hb8)
    | (go_at_call 27; (with_reducible refine (clo_ex2 _).mono ?_); rintro e w9 ⟨rfl, hb9⟩; have U10 := blk_in UU9.out hb9; have v2 : w9.cell? ⟨w6.heap.size, 2, none⟩ = some (.int .i64 1) := (blk_cell U10 2).trans rfl; have B10 := Aside0.mk (below_tr B9.out hb9); clear U10 hb9))
  go_ret
  exact ⟨rfl, B10.out⟩
end Go.Proofs.Ythmddbffhbfmeaa.Sup
