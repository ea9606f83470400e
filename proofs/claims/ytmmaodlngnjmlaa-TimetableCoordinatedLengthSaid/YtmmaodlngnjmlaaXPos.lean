/- timetable.PositionsAt: for every list of segments with moves of two arms and three joints. -/
import Derived.Test.YtmmaodlngnjmlaaXGone2
import Derived.Test.YtmmaodlngnjmlaaXFar2
namespace Go.Proofs.Ytmmaodlngnjmlaa.Gone
set_option linter.unusedVariables false
set_option linter.unusedSimpArgs false
open Go Go.RowKit Go.Shelf Go.Proofs.Ytmmaodlngnjmlaa.Rng2 Go.Proofs.YtmmaodlngnjmlaaW.PrintWords Go.Proofs.YtmmaodlngnjmlaaW.PrintMore Go.Proofs.Ytmmaodlngnjmlaa.P
open Go.Proofs.Ytmmaodlngnjmlaa.Ticks (grown_set)
attribute [local go_sem] Oper.semAt_some
/-- Six cells. -/
def cs6 (o : Nat → Int) : Array Value := #[.int .i64 (o 0), .int .i64 (o 1), .int .i64 (o 2), .int .i64 (o 3), .int .i64 (o 4), .int .i64 (o 5)]
def upd (o : Nat → Int) (i : Nat) (v : Int) : Nat → Int := fun k => if k = i then v else o k
theorem cs6_set (o : Nat → Int) (i : Nat) (hi : i < 6) (v : Int) : (cs6 o).setIfInBounds i (.int .i64 v) = cs6 (upd o i v) := by
  match i, hi with
  | 0, _ => rfl
  | 1, _ => rfl
  | 2, _ => rfl
  | 3, _ => rfl
  | 4, _ => rfl
  | 5, _ => rfl
  | k + 6, h => omega
theorem cs6_get (o : Nat → Int) (i : Nat) (hi : i < 6) : (cs6 o)[i]? = some (.int .i64 (o i)) := by
  match i, hi with
  | 0, _ => rfl
  | 1, _ => rfl
  | 2, _ => rfl
  | 3, _ => rfl
  | 4, _ => rfl
  | 5, _ => rfl
  | k + 6, h => omega
theorem enters_gone : Enters Try.prog 81 := enters_of Try.func81 (by kernel_rfl) rfl
/-- A move's place among the six. -/
def at6 (x : (Int × Int × Int) × Int) : Nat := x.1.1.toNat * 3 + x.1.2.1.toNat
def okMv (x : (Int × Int × Int) × Int) : Prop := (0 ≤ x.1.1 ∧ x.1.1 ≤ 1) ∧ 0 ≤ x.1.2.1 ∧ x.1.2.1 ≤ 2
def add6 (o : Nat → Int) (x : (Int × Int × Int) × Int) : Nat → Int := upd o (at6 x) (wrap64 (o (at6 x) + wrap64 (x.1.2.2 * x.2)))
theorem lies7 (w : World) (o1 o2 o3 o4 o5 o6 o7 : Obj) (W : World) (hW : ((((((w.alloc o1).alloc o2).alloc o3).alloc o4).alloc o5).alloc o6).alloc o7 = W) :
    W.heap[w.heap.size + 1]? = some o2 ∧ W.heap[w.heap.size + 1 + 1]? = some o3 ∧ W.heap[w.heap.size + 1 + 1 + 1 + 1 + 1]? = some o6 ∧ W.heap[w.heap.size + 1 + 1 + 1 + 1 + 1 + 1]? = some o7 ∧ W.heap.size = w.heap.size + 7 ∧ Below w.heap.size w W := by
  obtain ⟨a1, a2, a3, a4, s4, b4⟩ := Ticks.lies4 w o1 o2 o3 o4 _ rfl
  obtain ⟨a5, s5, k5, b5⟩ := Ticks.lies ((((w.alloc o1).alloc o2).alloc o3).alloc o4) o5 _ rfl
  obtain ⟨a6, s6, k6, b6⟩ := Ticks.lies (((((w.alloc o1).alloc o2).alloc o3).alloc o4).alloc o5) o6 _ rfl
  obtain ⟨a7, s7, k7, b7⟩ := Ticks.lies ((((((w.alloc o1).alloc o2).alloc o3).alloc o4).alloc o5).alloc o6) o7 W hW
  rw [s4] at a5 s5 k5
  rw [s5] at a6 s6 k6
  rw [s6] at a7 s7 k7
  refine ⟨by rw [k7 _ (by omega), k6 _ (by omega), k5 _ (by omega), a2], by rw [k7 _ (by omega), k6 _ (by omega), k5 _ (by omega)]; exact a3, ?_, ?_, by omega, ((b4.trans (b5 _ (by omega))).trans (b6 _ (by omega))).trans (b7 _ (by omega))⟩
  · rw [k7 _ (by omega)]; exact a6
  · exact a7
theorem set6 {W : World} {b t : Nat} {o : Nat → Int} (h : W.heap[b]? = some (.cells (cs6 o) t (0, 0))) (p : Nat → Int) :
    ∃ W', (((((W.setCell ⟨b, 0, none⟩ (.int .i64 (p 0))).setCell ⟨b, 1, none⟩ (.int .i64 (p 1))).setCell ⟨b, 2, none⟩ (.int .i64 (p 2))).setCell ⟨b, 3, none⟩ (.int .i64 (p 3))).setCell ⟨b, 4, none⟩ (.int .i64 (p 4))).setCell ⟨b, 5, none⟩ (.int .i64 (p 5)) = W' ∧
      W'.heap[b]? = some (.cells (cs6 p) t (0, 0)) ∧ W.grownBy W' (some b) := by
  refine ⟨_, rfl, ?_, ?_⟩
  · have h0 := blk_set h 0 (.int .i64 (p 0))
    have h1 := blk_set h0 1 (.int .i64 (p 1))
    have h2 := blk_set h1 2 (.int .i64 (p 2))
    have h3 := blk_set h2 3 (.int .i64 (p 3))
    have h4 := blk_set h3 4 (.int .i64 (p 4))
    have h5 := blk_set h4 5 (.int .i64 (p 5))
    simpa [cs6] using h5
  · exact (((((grown_set W b 0 _).trans (grown_set _ b 1 _)).trans (grown_set _ b 2 _)).trans (grown_set _ b 3 _)).trans (grown_set _ b 4 _)).trans (grown_set _ b 5 _)
theorem Abide.and {β : Type} {b c : Nat} {I J : β → World → Prop} (h : Abide b c I) (k : Abide b c J) : Abide b c (fun s W => I s W ∧ J s W) := fun s A B row hs hg hr => ⟨h s A B row hs.1 hg hr, k s A B row hs.2 hg hr⟩
theorem abide_below {β : Type} {w : World} {b c : Nat} (h : w.heap.size ≤ b) : Abide b c (fun (_ : β) W => Below w.heap.size w W) := fun _ A B row hs hg hr =>
  ⟨hg.os.trans hs.os, hg.tape.trans hs.tape, hg.output.trans hs.output, Nat.le_trans hs.size hg.size, fun k hk => (hg.block k (Nat.lt_of_lt_of_le hk hs.size) (fun e => by have := hr k e.symm; omega)).trans (hs.block k hk)⟩
theorem abide_block {β : Type} {b c b0 : Nat} {o : β → Obj} (hb : b0 < b) : Abide b c (fun (s : β) W => W.heap[b0]? = some (o s)) := fun _ A _ _ hs hg hr =>
  (hg.block b0 (Array.getElem?_eq_some_iff.1 hs).1 (fun e => by have := hr b0 e.symm; omega)).trans hs
theorem idxQ_0 (w : World) (x0 x1 x2 x3 x4 x5 : Int) : Sem.run Try.prog (Instr.index 59 (.agg #[.int .i64 x0, .int .i64 x1, .int .i64 x2, .int .i64 x3, .int .i64 x4, .int .i64 x5]) (.int .i64 0)) w = .ok (.agg #[.int .i64 x0, .int .i64 x1, .int .i64 x2]) w := by kernel_rfl
theorem idxQ_1 (w : World) (x0 x1 x2 x3 x4 x5 : Int) : Sem.run Try.prog (Instr.index 59 (.agg #[.int .i64 x0, .int .i64 x1, .int .i64 x2, .int .i64 x3, .int .i64 x4, .int .i64 x5]) (.int .i64 1)) w = .ok (.agg #[.int .i64 x3, .int .i64 x4, .int .i64 x5]) w := by kernel_rfl
theorem idxJ_0 (w : World) (x0 x1 x2 : Int) : Sem.run Try.prog (Instr.index 58 (.agg #[.int .i64 x0, .int .i64 x1, .int .i64 x2]) (.int .i64 0)) w = .ok (.int .i64 x0) w := by kernel_rfl
theorem idxJ_1 (w : World) (x0 x1 x2 : Int) : Sem.run Try.prog (Instr.index 58 (.agg #[.int .i64 x0, .int .i64 x1, .int .i64 x2]) (.int .i64 1)) w = .ok (.int .i64 x1) w := by kernel_rfl
theorem idxJ_2 (w : World) (x0 x1 x2 : Int) : Sem.run Try.prog (Instr.index 58 (.agg #[.int .i64 x0, .int .i64 x1, .int .i64 x2]) (.int .i64 2)) w = .ok (.int .i64 x2) w := by kernel_rfl
attribute [local go_sem high] idxQ_0 idxQ_1 idxJ_0 idxJ_1 idxJ_2
set_option maxRecDepth 100000 in
set_option maxHeartbeats 4000000 in
theorem posAt_in (n : Nat) (hn : 6 ≤ n) (q : Nat → Int) (tick : Int) (A : Option Addr) (l : List Seg) (cap : Nat) (w : World) (hC : Kd.C k67 w A l.length l) (hgood : ∀ s ∈ l, goodB tick s = true ∧ okMv (gOf tick s)) (hmax : l.length ≤ 9223372036854775807) :
    CallsIn Fence.wide n Try.prog 30 #[.agg (cs6 q), .slice A l.length cap, .int .i64 tick] w fun e W' =>
      e = .returned (.agg (cs6 ((l.map (gOf tick)).foldl add6 (fun k => wrap64 (q k * 12))))) ∧ Below w.heap.size w W' := by
  have h1 : 1 ≤ n := by omega
  have HC := Aside0.mk hC
  clear hC
  have HGD := Aside0.mk hgood
  clear hgood
  refine callsIn_of_wp_marks Try.func30 rfl trivial ?_ rfl
  simp only [Try.ntmps30, List.size_toArray, List.length_cons, List.length_nil, Nat.reduceAdd, Nat.reduceSub, Array.replicate_succ, Array.replicate_zero, List.push_toArray, List.append_toArray, List.nil_append, List.cons_append, cs6]
  gi_wp2
  refine wpIn_loop_rounds 3 ?_
  rw [roundsIn_succ]
  gi_wp2
  refine wpIn_loop_rounds 4 ?_
  rw [roundsIn_succ]
  gi_wp2
  rw [roundsIn_succ]
  gi_wp2
  rw [roundsIn_succ]
  gi_wp2
  rw [roundsIn_succ]
  gi_wp2
  rw [roundsIn_succ]
  gi_wp2
  refine wpIn_loop_rounds 4 ?_
  rw [roundsIn_succ]
  gi_wp2
  rw [roundsIn_succ]
  gi_wp2
  rw [roundsIn_succ]
  gi_wp2
  rw [roundsIn_succ]
  gi_wp2
  rw [roundsIn_succ]
  gi_wp2_with ((first | refine ⟨trivial, fun _ => by omega, ?_⟩ | refine ⟨trivial, ?_⟩); gi_at_call 63; refine (gone_in (n - 1) _ _ _ _ _).mono ?_; rintro e w' ⟨rfl, rfl⟩)
  have hL := lies7 w (Obj.cells #[Value.int IntKind.i64 (q 0), Value.int IntKind.i64 (q 1), Value.int IntKind.i64 (q 2), Value.int IntKind.i64 (q 3), Value.int IntKind.i64 (q 4), Value.int IntKind.i64 (q 5)] 59 (0, 0)) (Obj.cells #[Value.int IntKind.i64 0, Value.int IntKind.i64 0, Value.int IntKind.i64 0, Value.int IntKind.i64 0, Value.int IntKind.i64 0, Value.int IntKind.i64 0] 69 (0, 0)) (Obj.cells #[Value.int IntKind.i64 (wrap64 (q 0 * 12)), Value.int IntKind.i64 (wrap64 (q 1 * 12)), Value.int IntKind.i64 (wrap64 (q 2 * 12)), Value.int IntKind.i64 (wrap64 (q 3 * 12)), Value.int IntKind.i64 (wrap64 (q 4 * 12)), Value.int IntKind.i64 (wrap64 (q 5 * 12))] 69 (0, 0)) (Obj.cells #[Value.int IntKind.i64 (q 0), Value.int IntKind.i64 (q 1), Value.int IntKind.i64 (q 2)] 58 (0, 0)) (Obj.cells #[Value.int IntKind.i64 (q 3), Value.int IntKind.i64 (q 4), Value.int IntKind.i64 (q 5)] 58 (0, 0)) (Obj.cells #[Value.slice A l.length cap] 53 (0, 0)) (Obj.cells #[Value.int IntKind.i64 tick] 3 (0, 0)) _ rfl
  obtain ⟨W0, hW0⟩ : ∃ W0, (((((((w.alloc (Obj.cells #[Value.int IntKind.i64 (q 0), Value.int IntKind.i64 (q 1), Value.int IntKind.i64 (q 2), Value.int IntKind.i64 (q 3), Value.int IntKind.i64 (q 4), Value.int IntKind.i64 (q 5)] 59 (0, 0))).alloc (Obj.cells #[Value.int IntKind.i64 0, Value.int IntKind.i64 0, Value.int IntKind.i64 0, Value.int IntKind.i64 0, Value.int IntKind.i64 0, Value.int IntKind.i64 0] 69 (0, 0))).alloc (Obj.cells #[Value.int IntKind.i64 (wrap64 (q 0 * 12)), Value.int IntKind.i64 (wrap64 (q 1 * 12)), Value.int IntKind.i64 (wrap64 (q 2 * 12)), Value.int IntKind.i64 (wrap64 (q 3 * 12)), Value.int IntKind.i64 (wrap64 (q 4 * 12)), Value.int IntKind.i64 (wrap64 (q 5 * 12))] 69 (0, 0))).alloc (Obj.cells #[Value.int IntKind.i64 (q 0), Value.int IntKind.i64 (q 1), Value.int IntKind.i64 (q 2)] 58 (0, 0))).alloc (Obj.cells #[Value.int IntKind.i64 (q 3), Value.int IntKind.i64 (q 4), Value.int IntKind.i64 (q 5)] 58 (0, 0))).alloc (Obj.cells #[Value.slice A l.length cap] 53 (0, 0))).alloc (Obj.cells #[Value.int IntKind.i64 tick] 3 (0, 0))) = W0 := ⟨_, rfl⟩
  rw [hW0] at hL ⊢
  clear hW0
  obtain ⟨b1, b2, b5, b6, hsz, hB0⟩ := hL
  refine wpIn_range rfl h1 (gf := 81) (lb := #[.pointer (some ⟨w.heap.size + 1 + 1 + 1 + 1 + 1, 0, none⟩), .pointer (some ⟨w.heap.size + 1 + 1 + 1 + 1 + 1 + 1, 0, none⟩)]) rfl trivial enters_gone
    (gone_seq (n - 1) (by omega) _ _ (fun k => k < w.heap.size ∨ k = w.heap.size + 1 + 1 + 1 + 1 + 1 + 1) tick A l cap w W0 HC.out (fun s hs => (HGD.out s hs).1) b5 b6 (fun k hk => hk) (by omega) (fun k hk => hB0.block k hk) hB0.size hmax okMv (fun s hs => (HGD.out s hs).2)) (Below.refl _ _) (fun k hk => by omega) (fun _ => rfl)
    (fun pre W => (W.heap[w.heap.size + 1 + 1]? = some (.cells (cs6 (pre.foldl add6 (fun k => wrap64 (q k * 12)))) 69 (0, 0)) ∧ W.heap[w.heap.size + 1]? = some (.cells (cs6 (fun _ => 0)) 69 (0, 0))) ∧ Below w.heap.size w W)
    (fun _ _ _ => False)
    (fun x a' W => ∃ Bx, W0.heap.size + 2 < Bx ∧ W.heap[Bx]? = some (.cells #[.int .i64 x.1.1, .int .i64 x.1.2.1, .int .i64 x.1.2.2] 63 (0, 0)) ∧ a' = { tmps := #[.agg #[.int .i64 (q 0), .int .i64 (q 1), .int .i64 (q 2), .int .i64 (q 3), .int .i64 (q 4), .int .i64 (q 5)], .slice A l.length cap, .int .i64 tick, .pointer (some ⟨w.heap.size, 0, none⟩), undef, undef, .pointer (some ⟨w.heap.size + 1, 0, none⟩), .pointer (some ⟨w.heap.size + 1 + 1, 0, none⟩), .int .i64 1, .pointer (some ⟨w.heap.size + 1 + 1 + 1 + 1, 0, none⟩), .int .i64 2, .int .i64 (q 5), .pointer (some ⟨Bx, 0, none⟩), .int .i64 x.2, .agg #[.int .i64 (q 0), .int .i64 (q 1), .int .i64 (q 2), .int .i64 (q 3), .int .i64 (q 4), .int .i64 (q 5)], .int .i64 2, .bool false, .int .i64 1, .agg #[.int .i64 (q 3), .int .i64 (q 4), .int .i64 (q 5)], .agg #[.int .i64 (q 3), .int .i64 (q 4), .int .i64 (q 5)], .int .i64 3, .bool false, .int .i64 2, .int .i64 (q 5), .int .i64 1, .int .i64 2, .int .i64 (q 5), .int .i64 (wrap64 (q 5 * 12)), .pointer (some ⟨w.heap.size + 1 + 1, 3, none⟩), .pointer (some ⟨w.heap.size + 1 + 1, 5, none⟩), .int .i64 3, .int .i64 2, .slice A l.length cap, .int .i64 tick, .func (.func 81) #[] #[.pointer (some ⟨w.heap.size + 1 + 1 + 1 + 1 + 1, 0, none⟩), .pointer (some ⟨w.heap.size + 1 + 1 + 1 + 1 + 1 + 1, 0, none⟩)], .agg #[.int .i64 x.1.1, .int .i64 x.1.2.1, .int .i64 x.1.2.2], .int .i64 x.2, undef, undef, undef, undef, undef, undef, undef, undef, undef, undef, undef, undef, undef, undef, undef], defers := [] })
    (Abide.and (Abide.and (abide_block (by omega)) (abide_block (by omega))) (abide_below (by omega)))
    (fun _ => fun _ _ _ _ h _ _ => h)
    (fun x a' A B row hs hg hr => by obtain ⟨Bx, e1, e2, e3⟩ := hs; exact ⟨Bx, e1, (hg.block Bx (blk_lt e2) (fun e => by have := hr Bx e.symm; omega)).trans e2, e3⟩)
    ⟨⟨b2, b1⟩, hB0⟩ ?assign ?body ?done ?stop
  case assign =>
    rintro lb pre x W K hx ⟨⟨c0, c1⟩, hB1⟩ hlt hK
    dsimp only [gEnc]
    gi_wp2
    exact hK _ _ ((Keep.refl _ _ _ _).alloc _) ⟨⟨(Below.heap_alloc W _ _ (blk_lt c0)).trans c0, (Below.heap_alloc W _ _ (blk_lt c1)).trans c1⟩, hB1.alloc hB1.size _⟩ ⟨W.heap.size, hlt, heap_alloc_new W _, rfl⟩
  case body =>
    rintro lb pre x a' W hx ⟨⟨c0, c1⟩, hB1⟩ ⟨Bx, hBx, bX, rfl⟩ hlt _
    obtain ⟨⟨xa, xj, xb⟩, xd⟩ := x
    obtain ⟨⟨ha0, ha1⟩, hj0, hj1⟩ := hx
    dsimp only at ha0 ha1 hj0 hj1 bX ⊢
    obtain ⟨i, rfl⟩ := Int.eq_ofNat_of_zero_le ha0
    obtain ⟨j, rfl⟩ := Int.eq_ofNat_of_zero_le hj0
    have hij : i * 3 + j < 6 := by omega
    obtain ⟨o, ho⟩ : ∃ o, pre.foldl add6 (fun k => wrap64 (q k * 12)) = o := ⟨_, rfl⟩
    rw [ho] at c0
    have x0 : W.cell? ⟨Bx, 0, none⟩ = some (.int .i64 (i : Int)) := (blk_cell bX 0).trans rfl
    have x1 : W.cell? ⟨Bx, 1, none⟩ = some (.int .i64 (j : Int)) := (blk_cell bX 1).trans rfl
    have x2 : W.cell? ⟨Bx, 2, none⟩ = some (.int .i64 xb) := (blk_cell bX 2).trans rfl
    have y0 : W.cell? ⟨w.heap.size + 1 + 1, i * 3 + j, none⟩ = some (.int .i64 (o (i * 3 + j))) := (blk_cell c0 (i * 3 + j)).trans (cs6_get o _ hij)
    have f0 : W.frozen? ⟨w.heap.size + 1 + 1, i * 3 + j, none⟩ = false := blk_frozen c0 _
    have i1 : (i : Int) < 2 := by omega
    have j1 : (j : Int) < 3 := by omega
    have C0 := Aside0.mk c0
    have C1 := Aside0.mk c1
    have HB1 := Aside0.mk hB1
    have HO := Aside0.mk ho
    clear c0 c1 hB1 ho hij
    gi_wp2
    refine StillIn.wpIn_region_still_tail 14 (by kernel_rfl) (by kernel_rfl) (by kernel_rfl) ?_
    simp only [List.take_succ_cons, List.take_zero, List.drop_succ_cons, List.drop_zero]
    change wpStill _ _ (World.drew _) _ _ _
    repeat still_step
    refine wpStill_nil ?_
    gi_wp2
    have g1 := grown_set W.drew (w.heap.size + 1 + 1) (i * 3 + j) (.int .i64 (wrap64 (o (i * 3 + j) + wrap64 (xb * xd))))
    have g0 : W.grownBy (W.drew.setCell ⟨w.heap.size + 1 + 1, i * 3 + j, none⟩ (.int .i64 (wrap64 (o (i * 3 + j) + wrap64 (xb * xd))))) (some (w.heap.size + 1 + 1)) := ⟨g1.os, g1.tape, g1.output, g1.size, g1.block⟩
    refine ⟨Keep.of_grownBy g0 (fun r e => by cases e; omega), ⟨?_, (g0.block _ (blk_lt C1.out) (fun e => by have e' : w.heap.size + 1 = w.heap.size + 1 + 1 := Option.some.inj e; omega)).trans C1.out⟩, Ticks.below_grown HB1.out g0 (by omega)⟩
    have hs := blk_set (w := W.drew) C0.out (i * 3 + j) (.int .i64 (wrap64 (o (i * 3 + j) + wrap64 (xb * xd))))
    rw [cs6_set o _ (by omega)] at hs
    rw [List.foldl_append, HO.out]
    exact hs
  case done =>
    rintro ys W rfl ⟨⟨c0, c1⟩, hB1⟩ hK
    obtain ⟨o, ho⟩ : ∃ o, (l.map (gOf tick)).foldl add6 (fun k => wrap64 (q k * 12)) = o := ⟨_, rfl⟩
    rw [ho] at c0
    have k0 : W.cell? ⟨w.heap.size + 1 + 1, 0, none⟩ = some (.int .i64 (o 0)) := (blk_cell c0 0).trans rfl
    have k1 : W.cell? ⟨w.heap.size + 1 + 1, 1, none⟩ = some (.int .i64 (o 1)) := (blk_cell c0 1).trans rfl
    have k2 : W.cell? ⟨w.heap.size + 1 + 1, 2, none⟩ = some (.int .i64 (o 2)) := (blk_cell c0 2).trans rfl
    have k3 : W.cell? ⟨w.heap.size + 1 + 1, 3, none⟩ = some (.int .i64 (o 3)) := (blk_cell c0 3).trans rfl
    have k4 : W.cell? ⟨w.heap.size + 1 + 1, 4, none⟩ = some (.int .i64 (o 4)) := (blk_cell c0 4).trans rfl
    have k5 : W.cell? ⟨w.heap.size + 1 + 1, 5, none⟩ = some (.int .i64 (o 5)) := (blk_cell c0 5).trans rfl
    have y0 : W.cell? ⟨w.heap.size + 1, 0, none⟩ = some (.int .i64 0) := (blk_cell c1 0).trans rfl
    have y1 : W.cell? ⟨w.heap.size + 1, 1, none⟩ = some (.int .i64 0) := (blk_cell c1 1).trans rfl
    have y2 : W.cell? ⟨w.heap.size + 1, 2, none⟩ = some (.int .i64 0) := (blk_cell c1 2).trans rfl
    have y3 : W.cell? ⟨w.heap.size + 1, 3, none⟩ = some (.int .i64 0) := (blk_cell c1 3).trans rfl
    have y4 : W.cell? ⟨w.heap.size + 1, 4, none⟩ = some (.int .i64 0) := (blk_cell c1 4).trans rfl
    have y5 : W.cell? ⟨w.heap.size + 1, 5, none⟩ = some (.int .i64 0) := (blk_cell c1 5).trans rfl
    have f0 := blk_frozen c1 0
    have f1 := blk_frozen c1 1
    have f2 := blk_frozen c1 2
    have f3 := blk_frozen c1 3
    have f4 := blk_frozen c1 4
    have f5 := blk_frozen c1 5
    gi_wp2
    obtain ⟨W', e', m1, g1⟩ := set6 c1 o
    rw [e']
    have hK' := (g1.block _ (Array.getElem?_eq_some_iff.1 hK).1 (fun e => by have e' : W0.heap.size = w.heap.size + 1 := Option.some.inj e; omega)).trans hK
    have hB2 := Ticks.below_grown hB1 g1 (by omega)
    refine ⟨by simp, .inl ⟨_, _, rfl, run_takeDeferred hK', ?_⟩⟩
    have g2 := grownBy_putObj' W' W0.heap.size (.deferred none)
    have m2 : (W'.putObj W0.heap.size (.deferred none)).heap[w.heap.size + 1]? = some (.cells (cs6 o) 69 (0, 0)) := (g2.block _ (blk_lt m1) (fun e => by have e' : w.heap.size + 1 = W0.heap.size := Option.some.inj e; omega)).trans m1
    have z0 := (blk_cell m2 0).trans (cs6_get o 0 (by omega))
    have z1 := (blk_cell m2 1).trans (cs6_get o 1 (by omega))
    have z2 := (blk_cell m2 2).trans (cs6_get o 2 (by omega))
    have z3 := (blk_cell m2 3).trans (cs6_get o 3 (by omega))
    have z4 := (blk_cell m2 4).trans (cs6_get o 4 (by omega))
    have z5 := (blk_cell m2 5).trans (cs6_get o 5 (by omega))
    exact ⟨.agg (cs6 o), by simp [results, Try.results30, go_sem, z0, z1, z2, z3, z4, z5, cs6], by rw [← ho]; rfl, Ticks.below_grown hB2 g2 (by omega)⟩
  case stop =>
    rintro c pre W _ h _
    exact h.elim
end Go.Proofs.Ytmmaodlngnjmlaa.Gone
