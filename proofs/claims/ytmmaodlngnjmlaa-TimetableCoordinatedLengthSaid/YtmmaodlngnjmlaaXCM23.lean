/- The law of the targets: how counts and moves are reckoned; its walk. -/
import Derived.Test.YtmmaodlngnjmlaaP0
import Derived.LoopN
import Derived.KernelRfl
import Derived.Tactics
import Derived.Deep.RegionHeld3
import Derived.Test.YtmmaodlngnjmlaaXFar2
namespace Go.Proofs.Ytmmaodlngnjmlaa.Reach
set_option linter.unusedVariables false
set_option linter.unusedSimpArgs false
open Go Go.RowKit Go.Proofs.Ytmmaodlngnjmlaa Go.Proofs.YtmmaodlngnjmlaaW.PrintWords Go.Proofs.YtmmaodlngnjmlaaW.PrintMore Go.Proofs.YtmmaodlngnjmlaaW.PrintLast Go.Proofs.Ytmmaodlngnjmlaa.P
theorem blk_in {W W' : World} {b : Nat} {o : Obj} (h : W.heap[b]? = some o) (hB : Below W.heap.size W W') : W'.heap[b]? = some o := (hB.block b (Array.getElem?_eq_some_iff.1 h).1).trans h
theorem blk_al {W : World} {b : Nat} {o : Obj} (h : W.heap[b]? = some o) (o' : Obj) : (W.alloc o').heap[b]? = some o := (Below.heap_alloc W o' b (Array.getElem?_eq_some_iff.1 h).1).trans h
theorem below_tr {w W W' : World} (h : Below w.heap.size w W) (hB : Below W.heap.size W W') : Below w.heap.size w W' := h.trans (hB.mono h.size)
theorem below_al {w W W' : World} {o : Obj} (h : Below w.heap.size w W) (hB : Below (W.alloc o).heap.size (W.alloc o) W') : Below w.heap.size w W' := (h.alloc h.size o).trans (hB.mono (h.alloc h.size o).size)
theorem blk_far2 {W : World} {b g j : Nat} {o : Obj} {u : Value} (h : W.heap[b]? = some o) (hne : b ≠ g) : (W.setCell ⟨g, j, none⟩ u).heap[b]? = some o := (Below.heap_setCell W ⟨g, j, none⟩ u b hne).trans h
theorem pk_ {P : Program} {ops : Array Oper} {Q : Exit → Act → World → Prop} {md : Region.Mode} {S : World → Prop} {ds : List Nat} {i : Nat} {N : Option Tmp} {oi : Oper} {v : Value} {fuel : Nat} {l : Array Bool} {a a' : Act} {w : World} (l' : Array Bool)
  (h : wpAnyLast P md ops Q S ds fuel l' a' w) (hi : ops[i]? = some oi := by exact rfl) (hN : oi.dst = N := by exact rfl) (hc : anyB md ops l l' i = true := by kernel_rfl) (hQ : ∀ c a w, Q (.panic c) (a.put oi.dst v) w → Q (.panic c) a w := by exact fun _ _ _ h => h)
  (hy : Yields P ops oi v a := by refine Or.inl ⟨by rfl, ?_⟩; intro w'; go_simp; with_reducible rfl) (ha : a.put N v = a' := by simp only [Act.put, List.setIfInBounds_toArray, List.set_cons_zero, List.set_cons_succ, i64_w, i32_w]; rfl) :
  wpAnyLast P md ops Q S ds (fuel + 1) l a w := pure_ l' hi hN hc hQ hy ha h
abbrev I : Bool := true
abbrev O : Bool := false
/-- Six numbers as an array's items. -/
abbrev six (o : Nat → Int) : Array Value := #[.int .i64 (o 0), .int .i64 (o 1), .int .i64 (o 2), .int .i64 (o 3), .int .i64 (o 4), .int .i64 (o 5)]
def upd (o : Nat → Int) (i : Nat) (x : Int) : Nat → Int := fun j => if j = i then x else o j
theorem get6 (o : Nat → Int) {i : Nat} (hi : i < 6) : (six o)[i]? = some (.int .i64 (o i)) := by
 match i, hi with
 | 0, _ => rfl
 | 1, _ => rfl
 | 2, _ => rfl
 | 3, _ => rfl
 | 4, _ => rfl
 | 5, _ => rfl
 | k + 6, h => omega
theorem set6 (o : Nat → Int) {i : Nat} (hi : i < 6) (x : Int) : (six o).setIfInBounds i (.int .i64 x) = six (upd o i x) := by
 match i, hi with
 | 0, _ => rfl
 | 1, _ => rfl
 | 2, _ => rfl
 | 3, _ => rfl
 | 4, _ => rfl
 | 5, _ => rfl
 | k + 6, h => omega
theorem six_congr {o p : Nat → Int} (h : ∀ i, i < 6 → o i = p i) : six o = six p := by
 unfold six
 rw [h 0 (by decide), h 1 (by decide), h 2 (by decide), h 3 (by decide), h 4 (by decide), h 5 (by decide)]
/-- The counts of the first n places. -/
def cnt (q : Nat → Int) (n : Nat) : Nat → Int := fun j => if j < n then wrap64 (12 * q j) else 0
theorem put6 {W : World} {g : Nat} {t : TypeId} {o : Nat → Int} (h : W.heap[g]? = some (.cells (six o) t (0, 0))) (x : Nat → Int) :
  ((((((W.setCell ⟨g, 0, none⟩ (.int .i64 (x 0))).setCell ⟨g, 1, none⟩ (.int .i64 (x 1))).setCell ⟨g, 2, none⟩ (.int .i64 (x 2))).setCell ⟨g, 3, none⟩ (.int .i64 (x 3))).setCell ⟨g, 4, none⟩ (.int .i64 (x 4))).setCell ⟨g, 5, none⟩ (.int .i64 (x 5))).heap[g]? = some (.cells (six x) t (0, 0)) :=
 blk_set (blk_set (blk_set (blk_set (blk_set (blk_set h 0 _) 1 _) 2 _) 3 _) 4 _) 5 _
theorem far6 {W : World} {b g : Nat} {o : Obj} (h : W.heap[b]? = some o) (hne : b ≠ g) (x : Nat → Int) :
  ((((((W.setCell ⟨g, 0, none⟩ (.int .i64 (x 0))).setCell ⟨g, 1, none⟩ (.int .i64 (x 1))).setCell ⟨g, 2, none⟩ (.int .i64 (x 2))).setCell ⟨g, 3, none⟩ (.int .i64 (x 3))).setCell ⟨g, 4, none⟩ (.int .i64 (x 4))).setCell ⟨g, 5, none⟩ (.int .i64 (x 5))).heap[b]? = some o :=
 blk_far2 (blk_far2 (blk_far2 (blk_far2 (blk_far2 (blk_far2 h hne) hne) hne) hne) hne) hne
theorem below6 {w W : World} {g : Nat} (h : Below w.heap.size w W) (hg : w.heap.size ≤ g) (x : Nat → Int) :
  Below w.heap.size w ((((((W.setCell ⟨g, 0, none⟩ (.int .i64 (x 0))).setCell ⟨g, 1, none⟩ (.int .i64 (x 1))).setCell ⟨g, 2, none⟩ (.int .i64 (x 2))).setCell ⟨g, 3, none⟩ (.int .i64 (x 3))).setCell ⟨g, 4, none⟩ (.int .i64 (x 4))).setCell ⟨g, 5, none⟩ (.int .i64 (x 5))) :=
 below_set (below_set (below_set (below_set (below_set (below_set h hg) hg) hg) hg) hg) hg
theorem tk_ {P : Program} {ops : Array Oper} {Q : Exit → Act → World → Prop} {md : Region.Mode} {S : World → Prop} {ds : List Nat} {i : Nat} {N : Option Tmp} {oi : Oper} {v : Value} {fuel : Nat} {l : Array Bool} {a a' : Act} {w : World} (l' : Array Bool) (hS : S w)
  (h : wpAnyLast P md ops Q S ds fuel l' a' w) (hi : ops[i]? = some oi := by exact rfl) (hN : oi.dst = N := by exact rfl) (hc : takeB md ops ds l l' i = true := by kernel_rfl) (hQ : ∀ c a w, Q (.panic c) (a.put oi.dst v) w → Q (.panic c) a w := by exact fun _ _ _ h => h)
  (hy : YieldsIf P ops S oi v a := by refine Or.inl ⟨by rfl, ?_⟩; (first | rintro w' ⟨s0, s1, s2, s3, s4, s5⟩ | rintro w' ⟨s0, s1, s2, s3, s4⟩ | rintro w' ⟨s0, s1, s2, s3⟩ | rintro w' ⟨s0, s1, s2⟩ | rintro w' ⟨s0, s1⟩ | intro w' s0); go_simp; with_reducible rfl) (ha : a.put N v = a' := by simp only [Act.put, List.setIfInBounds_toArray, List.set_cons_zero, List.set_cons_succ, i64_w, i32_w]; rfl) :
  wpAnyLast P md ops Q S ds (fuel + 1) l a w := take_ l' hi hN hc hQ hy hS ha h
/-- A move's place among the six. -/
def pl (m : S63) : Nat := m.f0.toNat * 3 + m.f1.toNat
/-- Places behind moves. -/
def mv (q : Nat → Int) (l : List S63) : Nat → Int := l.foldl (fun q m => upd q (pl m) (wrap64 (q (pl m) + m.f2))) q
theorem mv_take (q : Nat → Int) (l : List S63) {i : Nat} (h : i < l.length) : mv q (l.take (i + 1)) = upd (mv q (l.take i)) (pl (rd_T63 l i)) (wrap64 (mv q (l.take i) (pl (rd_T63 l i)) + (rd_T63 l i).f2)) := by
 have e : rd_T63 l (i : Int) = l[i] := by
  unfold rd_T63
  rw [Int.toNat_natCast, List.getD_eq_getElem?_getD, List.getElem?_eq_getElem h]
  rfl
 rw [e]
 unfold mv
 rw [List.take_succ_eq_append_getElem h, List.foldl_append]
 rfl
theorem held6 {W : World} {g : Nat} {t : TypeId} {o : Nat → Int} (h : W.heap[g]? = some (.cells (six o) t (0, 0))) : W.cell? ⟨g, 0, none⟩ = some (.int .i64 (o 0)) ∧ W.cell? ⟨g, 1, none⟩ = some (.int .i64 (o 1)) ∧ W.cell? ⟨g, 2, none⟩ = some (.int .i64 (o 2)) ∧ W.cell? ⟨g, 3, none⟩ = some (.int .i64 (o 3)) ∧ W.cell? ⟨g, 4, none⟩ = some (.int .i64 (o 4)) ∧ W.cell? ⟨g, 5, none⟩ = some (.int .i64 (o 5)) :=
 ⟨(blk_cell h 0).trans rfl, (blk_cell h 1).trans rfl, (blk_cell h 2).trans rfl, (blk_cell h 3).trans rfl, (blk_cell h 4).trans rfl, (blk_cell h 5).trans rfl⟩
theorem uk_ {P : Program} {ops : Array Oper} {Q : Exit → Act → World → Prop} {md : Region.Mode} {S : World → Prop} {ds : List Nat} {i : Nat} {N : Option Tmp} {oi : Oper} {fuel : Nat} {l : Array Bool} {a a' : Act} {w : World} (l' : Array Bool)
  (h : wpAnyLast P md ops Q S ds fuel l' a' w) (hi : ops[i]? = some oi := by exact rfl) (hN : oi.dst = N := by exact rfl) (hc : anyB md ops l l' i = true := by kernel_rfl) (hQ : ∀ c a w, Q (.panic c) (a.put oi.dst undef) w → Q (.panic c) a w := by exact fun _ _ _ h => h)
  (hy : Yields P ops oi undef a := by exact Or.inr ⟨by rfl, rfl⟩) (ha : a.put N undef = a' := by simp only [Act.put, List.setIfInBounds_toArray, List.set_cons_zero, List.set_cons_succ, i64_w, i32_w]; rfl) :
  wpAnyLast P md ops Q S ds (fuel + 1) l a w := pure_ l' hi hN hc hQ hy ha h
theorem held4 {W : World} {g : Nat} {t : TypeId} {a b c d : Int} (h : W.heap[g]? = some (.cells #[.int .i64 a, .int .i64 b, .int .i64 c, .int .i64 d] t (0, 0))) : W.cell? ⟨g, 0, none⟩ = some (.int .i64 a) ∧ W.cell? ⟨g, 1, none⟩ = some (.int .i64 b) ∧ W.cell? ⟨g, 2, none⟩ = some (.int .i64 c) ∧ W.cell? ⟨g, 3, none⟩ = some (.int .i64 d) :=
 ⟨(blk_cell h 0).trans rfl, (blk_cell h 1).trans rfl, (blk_cell h 2).trans rfl, (blk_cell h 3).trans rfl⟩
theorem cnt_put (q : Nat → Int) (n i : Nat) : upd (cnt q n) n (wrap64 (12 * q n)) i = cnt q (n + 1) i := by
 unfold upd cnt
 by_cases c : i = n
 ·
  rw [if_pos c, c, if_pos (Nat.lt_succ_self n)]
 ·
  rw [if_neg c]
  by_cases d : i < n
  ·
   rw [if_pos d, if_pos (by omega)]
  ·
   rw [if_neg d, if_neg (by omega)]
set_option maxRecDepth 100000 in
set_option maxHeartbeats 4000000 in
theorem counts_run (q : Nat → Int) (w : World) :
  Calls Try.prog 44 #[.agg (six q)] w fun e w' => e = .returned (.agg (six fun j => wrap64 (12 * q j))) ∧ Below w.heap.size w w' := by
 have X0 := Aside0.mk (heap_alloc_new w (.cells (six q) 59 (0, 0)))
 have X1 := Aside0.mk (heap_alloc_new (w.alloc (.cells (six q) 59 (0, 0))) (.cells (six fun _ => 0) 69 (0, 0)))
 have X2 := Aside0.mk (heap_alloc_new ((w.alloc (.cells (six q) 59 (0, 0))).alloc (.cells (six fun _ => 0) 69 (0, 0))) (.cells (six (cnt q 0)) 69 (0, 0)))
 have F0 := Aside0.mk (blk_al (blk_al X0.out (.cells (six fun _ => 0) 69 (0, 0))) (.cells (six fun _ => 0) 69 (0, 0)))
 have F1 := Aside0.mk (blk_al X1.out (.cells (six fun _ => 0) 69 (0, 0)))
 have HB := Aside0.mk (((Below.refl w.heap.size w).alloc (Nat.le_refl _) (.cells (six q) 59 (0, 0))).alloc (by rw [World.size_alloc]; omega) (.cells (six fun _ => 0) 69 (0, 0)) |>.alloc (by rw [World.size_alloc, World.size_alloc]; omega) (.cells (six fun _ => 0) 69 (0, 0)))
 simp only [World.size_alloc] at X1 X2 F0 F1
 clear X0 X1
 go_enter Try.func44, Try.ntmps44
 go_wp2
 go_loopw [4] (fun i wr => ∃ (a : Nat), i = .int .i64 a ∧ a ≤ 2 ∧ Aside0 (wr.heap[w.heap.size]? = some (.cells (six q) 59 (0, 0))) ∧ Aside0 (wr.heap[w.heap.size + 1]? = some (.cells (six fun _ => 0) 69 (0, 0))) ∧ Aside0 (wr.heap[w.heap.size + 1 + 1]? = some (.cells (six (cnt q (3 * a))) 69 (0, 0))) ∧ Aside0 (Below w.heap.size w wr))
  (fun i _ => 2 - (intOf i).toNat)
 case atStart => exact ⟨0, rfl, by omega, F0, F1, X2, HB⟩
 case round =>
  obtain ⟨a, rfl, ha, h0, h1, h2, hB⟩ := hrel
  clear F0 F1 X2 HB
  by_cases h3 : a < 2
  ·
   have d3 : decide ((a : Int) < 2) = true := decide_eq_true (by omega)
   have H3 := Aside0.mk h3
   clear h3
   go_wp2
   have F2 := Aside0.mk (show _ from (show wr.heap[w.heap.size + 1 + 1]? = some (.cells (six (cnt q (3 * a + 0))) 69 (0, 0)) from h2.out))
   go_loopw [5] (fun i wr => ∃ (k : Nat), i = .int .i64 k ∧ k ≤ 3 ∧ Aside0 (wr.heap[w.heap.size]? = some (.cells (six q) 59 (0, 0))) ∧ Aside0 (wr.heap[w.heap.size + 1]? = some (.cells (six fun _ => 0) 69 (0, 0))) ∧ Aside0 (wr.heap[w.heap.size + 1 + 1]? = some (.cells (six (cnt q (3 * a + k))) 69 (0, 0))) ∧ Aside0 (Below w.heap.size w wr))
    (fun i _ => 3 - (intOf i).toNat)
   case atStart => exact ⟨0, rfl, by omega, h0, h1, F2, hB⟩
   case round =>
    clear F2 h0 h1 h2 hB
    obtain ⟨k, rfl, hk, h0, h1, h2, hB⟩ := hrel
    by_cases h4 : k < 3
    ·
     have d4 : decide ((k : Int) < 3) = true := decide_eq_true (by omega)
     have H4 := Aside0.mk h4
     have i1 : (a : Int) < 2 := by have := H3.out; omega
     have i2 : (k : Int) < 3 := by omega
     clear h4
     go_wp2
     have e0 := Aside0.mk (blk_drew h0.out)
     have e1 := Aside0.mk (blk_drew h1.out)
     have e2 := Aside0.mk (blk_drew h2.out)
     have eB := Aside0.mk (below_drew1 hB.out)
     clear h0 h1 h2 hB
     have hi6 : a * 3 + k < 6 := by have := H3.out; have := H4.out; omega
     refine start_ (n := 11) (S := fun w' => w'.cell? ⟨w.heap.size, a * 3 + k, none⟩ = some (.int .i64 (q (a * 3 + k)))) (ds := []) #[O,O,O,O,O,O,O,O,O,O,O] (by kernel_rfl) rfl rfl ((blk_cell e0.out _).trans (get6 q hi6)) (fun hHeld => ?_)
     generalize wr.drew = wx at hHeld e0 e1 e2 eB ⊢
     refine pk_ (i := 0) (N := some 15) #[I,O,O,O,O,O,O,O,O,O,O] ?_
     refine pk_ (i := 1) (N := some 16) #[I,I,O,O,O,O,O,O,O,O,O] ?_
     refine pk_ (i := 2) (N := some 17) #[I,I,I,O,O,O,O,O,O,O,O] ?_
     refine pk_ (i := 3) (N := some 18) #[I,I,I,I,O,O,O,O,O,O,O] ?_
     refine pk_ (i := 4) (N := some 19) #[I,I,I,I,I,O,O,O,O,O,O] ?_
     refine pk_ (i := 5) (N := some 20) #[I,I,I,I,I,I,O,O,O,O,O] ?_
     refine pk_ (i := 8) (N := some 23) #[I,I,I,I,I,I,O,O,I,O,O] ?_
     refine take_ (i := 6) (N := some 21) (v := ?_) (a' := ?_) #[I,I,I,I,I,I,I,O,I,O,O] rfl rfl (by kernel_rfl) (fun _ _ _ h => h) (Or.inl ⟨by rfl, ?_⟩) hHeld ?_ ?_
     rotate_left; · (intro w' s0; go_simp; with_reducible rfl)
     rotate_left; · (simp only [Act.put, List.setIfInBounds_toArray, List.set_cons_zero, List.set_cons_succ, i64_w, i32_w]; rfl)
     refine pk_ (i := 7) (N := some 22) #[I,I,I,I,I,I,I,I,I,O,O] ?_
     refine pk_ (i := 9) (N := some 24) #[I,I,I,I,I,I,I,I,I,I,O] ?_
     refine one_ (i := 10) (N := none) #[I,I,I,I,I,I,I,I,I,I,I] rfl rfl (by kernel_rfl) (by decide) (fun K_ hK => ?_)
     have hs16 : wx.cell? ⟨w.heap.size + 1 + 1, a * 3 + k, none⟩ = some (.int .i64 (cnt q (3 * a + k) (a * 3 + k))) := (blk_cell e2.out _).trans (get6 _ hi6)
     have hf16 := blk_frozen e2.out (a * 3 + k)
     refine skip_ (w1 := ?_) (by rfl) rfl ?_ ?_
     rotate_left
     ·
      go_simp
      rfl
     have f0 := blk_far2 (g := w.heap.size + 1 + 1) (j := a * 3 + k) (u := .int .i64 (wrap64 (12 * q (a * 3 + k)))) e0.out (by omega)
     have f1 := blk_far2 (g := w.heap.size + 1 + 1) (j := a * 3 + k) (u := .int .i64 (wrap64 (12 * q (a * 3 + k)))) e1.out (by omega)
     have f2 := blk_set e2.out (a * 3 + k) (.int .i64 (wrap64 (12 * q (a * 3 + k))))
     rw [set6 _ hi6, show a * 3 + k = 3 * a + k by omega, six_congr (fun i _ => cnt_put q (3 * a + k) i)] at f2
     refine hK.out _ _ ((blk_cell f0 _).trans (get6 q hi6)) (fun hHeld => ?_)
     clear hK K_
     refine done_ (by kernel_rfl) ?_
     go_wp2
     refine ⟨⟨k + 1, rfl, by have := H4.out; omega, ⟨f0⟩, ⟨f1⟩, ⟨by rw [show a * 3 + k = 3 * a + k by omega]; exact f2⟩, ⟨below_set eB.out (by omega)⟩⟩, ?_⟩
     show 3 - ((k + 1 : Nat) : Int).toNat < 3 - (k : Int).toNat
     have := H4.out
     omega
    ·
     have d4 : decide ((k : Int) < 3) = false := decide_eq_false (by omega)
     have ek : k = 3 := by omega
     subst ek
     go_wp2
     refine ⟨⟨a + 1, rfl, by have := H3.out; omega, h0, h1, h2, hB⟩, ?_⟩
     show 2 - ((a + 1 : Nat) : Int).toNat < 2 - (a : Int).toNat
     have := H3.out
     omega
  ·
   have d3 : decide ((a : Int) < 2) = false := decide_eq_false (by omega)
   have ea : a = 2 := by omega
   subst ea
   have r0 := (blk_cell h2.out 0).trans rfl
   have s0 := (blk_cell h1.out 0).trans rfl
   have t0 := blk_frozen h1.out 0
   have r1 := (blk_cell h2.out 1).trans rfl
   have s1 := (blk_cell h1.out 1).trans rfl
   have t1 := blk_frozen h1.out 1
   have r2 := (blk_cell h2.out 2).trans rfl
   have s2 := (blk_cell h1.out 2).trans rfl
   have t2 := blk_frozen h1.out 2
   have r3 := (blk_cell h2.out 3).trans rfl
   have s3 := (blk_cell h1.out 3).trans rfl
   have t3 := blk_frozen h1.out 3
   have r4 := (blk_cell h2.out 4).trans rfl
   have s4 := (blk_cell h1.out 4).trans rfl
   have t4 := blk_frozen h1.out 4
   have r5 := (blk_cell h2.out 5).trans rfl
   have s5 := (blk_cell h1.out 5).trans rfl
   have t5 := blk_frozen h1.out 5
   go_wp2
   refine bodyPost_ret (results_cell_row rfl _ _ (w.heap.size + 1) 69 (six (cnt q 6)) (0, 0) _ rfl (put6 h1.out (cnt q 6)) Try.underlying69 rfl (by kernel_rfl)) rfl ?_
   exact ⟨rfl, below6 hB.out (by omega) (cnt q 6)⟩
set_option maxRecDepth 100000 in
set_option maxHeartbeats 4000000 in
theorem moved_run (q : Nat → Int) (A1 : Option Addr) (c1 : Nat) (l1 : List S63) (w : World) (hr1 : Kd.C k63 w A1 l1.length l1) (hc1 : l1.length ≤ c1) (hv : ∀ i, i < l1.length → ∃ a k : Nat, a < 2 ∧ k < 3 ∧ (rd_T63 l1 i).f0 = a ∧ (rd_T63 l1 i).f1 = k) (hlen : l1.length ≤ 1000) :
  Calls Try.prog 45 #[.agg (six q), .slice A1 l1.length c1] w fun e w' => e = .returned (.agg (six (mv q l1))) ∧ Below w.heap.size w w' := by
 have HR := Aside0.mk hr1
 have HV := Aside0.mk hv
 have HN := Aside0.mk hlen
 clear hv hlen hr1
 have X0 := Aside0.mk (heap_alloc_new w (.cells (six q) 59 (0, 0)))
 have X1 := Aside0.mk (heap_alloc_new (w.alloc (.cells (six q) 59 (0, 0))) (.cells (six fun _ => 0) 59 (0, 0)))
 have F0 := Aside0.mk (show _ from blk_al X0.out (.cells (six fun _ => 0) 59 (0, 0)))
 have HB := Aside0.mk (((Below.refl w.heap.size w).alloc (Nat.le_refl _) (.cells (six q) 59 (0, 0))).alloc (by rw [World.size_alloc]; omega) (.cells (six fun _ => 0) 59 (0, 0)))
 simp only [World.size_alloc] at X1 F0
 clear X0
 go_enter Try.func45, Try.ntmps45
 go_wp2
 go_loopw [5] (fun i wr => ∃ (n : Nat), i = .int .i64 n ∧ n ≤ l1.length ∧ Aside0 (wr.heap[w.heap.size]? = some (.cells (six (mv q (l1.take n))) 59 (0, 0))) ∧ Aside0 (wr.heap[w.heap.size + 1]? = some (.cells (six fun _ => 0) 59 (0, 0))) ∧ Aside0 (Below w.heap.size w wr))
  (fun i _ => l1.length - (intOf i).toNat)
 case atStart => exact ⟨0, rfl, by omega, F0, X1, HB⟩
 case round =>
  obtain ⟨n, rfl, hn, h0, h1, hB⟩ := hrel
  clear F0 X1 HB
  by_cases h3 : n < l1.length
  ·
   have d3 : decide ((n : Int) < (l1.length : Int)) = true := decide_eq_true (by omega)
   have H3 := Aside0.mk h3
   obtain ⟨a, k, ha, hk, ea, ek⟩ := HV.out n h3
   have Hi6 := Aside0.mk (show a * 3 + k < 6 by omega)
   have epl : pl (rd_T63 l1 n) = a * 3 + k := by unfold pl; rw [ea, ek]; rfl
   have emv := Aside0.mk (mv_take q l1 h3)
   rw [epl] at emv
   have i1 : (a : Int) < 2 := by omega
   have i2 : (k : Int) < 3 := by omega
   have i3 : (n : Int) < (l1.length : Int) := by omega
   obtain ⟨ad, eA, x0, x1, x2⟩ := at_T63 HR.out (n : Int) (by omega) i3
   rw [ea] at x0
   rw [ek] at x1
   generalize (rd_T63 l1 n).f2 = by_ at x2 emv
   subst eA
   rw [Int.toNat_natCast] at x0 x1 x2
   clear h3 ea ek epl
   go_wp2
   have e0 := Aside0.mk (blk_drew h0.out)
   have e1 := Aside0.mk (blk_drew h1.out)
   have eB := Aside0.mk (below_drew1 hB.out)
   clear h0 h1 hB
   replace x0 := (eB.out.cell (World.block_lt_of_cell? w _ x0)).trans x0
   replace x1 := (eB.out.cell (World.block_lt_of_cell? w _ x1)).trans x1
   replace x2 := (eB.out.cell (World.block_lt_of_cell? w _ x2)).trans x2
   generalize eo : mv q (l1.take n) = o at e0 emv
   refine start_ (n := 32) (S := fun w' => w'.cell? ⟨w.heap.size, a * 3 + k, none⟩ = some (.int .i64 (o (a * 3 + k))) ∧ w'.cell? (ad.add (n * 3)) = some (.int .i64 (a : Int)) ∧ w'.cell? ⟨(ad.add (n * 3)).block, (ad.add (n * 3)).off + 1, none⟩ = some (.int .i64 (k : Int)) ∧ w'.cell? ⟨(ad.add (n * 3)).block, (ad.add (n * 3)).off + 2, none⟩ = some (.int .i64 by_)) (ds := [31]) #[O,O,O,O,O,O,O,O,O,O,O,O,O,O,O,O,O,O,O,O,O,O,O,O,O,O,O,O,O,O,O,O] (by kernel_rfl) rfl rfl ⟨(blk_cell e0.out _).trans (get6 o Hi6.out), x0, x1, x2⟩ (fun hHeld => ?_)
   generalize wr.drew = wx at hHeld e0 e1 eB ⊢
   clear x0 x1 x2
   refine pk_ (i := 0) (N := some 12) #[I,O,O,O,O,O,O,O,O,O,O,O,O,O,O,O,O,O,O,O,O,O,O,O,O,O,O,O,O,O,O,O] ?_
   refine pk_ (i := 1) (N := some 13) #[I,I,O,O,O,O,O,O,O,O,O,O,O,O,O,O,O,O,O,O,O,O,O,O,O,O,O,O,O,O,O,O] ?_
   refine pk_ (i := 2) (N := some 14) #[I,I,I,O,O,O,O,O,O,O,O,O,O,O,O,O,O,O,O,O,O,O,O,O,O,O,O,O,O,O,O,O] ?_
   refine pk_ (i := 3) (N := some 15) #[I,I,I,I,O,O,O,O,O,O,O,O,O,O,O,O,O,O,O,O,O,O,O,O,O,O,O,O,O,O,O,O] ?_
   refine pk_ (i := 5) (N := some 17) #[I,I,I,I,O,I,O,O,O,O,O,O,O,O,O,O,O,O,O,O,O,O,O,O,O,O,O,O,O,O,O,O] ?_
   refine pk_ (i := 6) (N := some 18) #[I,I,I,I,O,I,I,O,O,O,O,O,O,O,O,O,O,O,O,O,O,O,O,O,O,O,O,O,O,O,O,O] ?_
   refine pk_ (i := 7) (N := some 19) #[I,I,I,I,O,I,I,I,O,O,O,O,O,O,O,O,O,O,O,O,O,O,O,O,O,O,O,O,O,O,O,O] ?_
   refine pk_ (i := 8) (N := some 20) #[I,I,I,I,O,I,I,I,I,O,O,O,O,O,O,O,O,O,O,O,O,O,O,O,O,O,O,O,O,O,O,O] ?_
   refine pk_ (i := 10) (N := some 22) #[I,I,I,I,O,I,I,I,I,O,I,O,O,O,O,O,O,O,O,O,O,O,O,O,O,O,O,O,O,O,O,O] ?_
   refine pk_ (i := 11) (N := some 23) #[I,I,I,I,O,I,I,I,I,O,I,I,O,O,O,O,O,O,O,O,O,O,O,O,O,O,O,O,O,O,O,O] ?_
   refine pk_ (i := 12) (N := some 24) #[I,I,I,I,O,I,I,I,I,O,I,I,I,O,O,O,O,O,O,O,O,O,O,O,O,O,O,O,O,O,O,O] ?_
   refine pk_ (i := 13) (N := some 25) #[I,I,I,I,O,I,I,I,I,O,I,I,I,I,O,O,O,O,O,O,O,O,O,O,O,O,O,O,O,O,O,O] ?_
   refine pk_ (i := 15) (N := some 27) #[I,I,I,I,O,I,I,I,I,O,I,I,I,I,O,I,O,O,O,O,O,O,O,O,O,O,O,O,O,O,O,O] ?_
   refine pk_ (i := 16) (N := some 28) #[I,I,I,I,O,I,I,I,I,O,I,I,I,I,O,I,I,O,O,O,O,O,O,O,O,O,O,O,O,O,O,O] ?_
   refine pk_ (i := 17) (N := some 29) #[I,I,I,I,O,I,I,I,I,O,I,I,I,I,O,I,I,I,O,O,O,O,O,O,O,O,O,O,O,O,O,O] ?_
   refine pk_ (i := 18) (N := some 30) #[I,I,I,I,O,I,I,I,I,O,I,I,I,I,O,I,I,I,I,O,O,O,O,O,O,O,O,O,O,O,O,O] ?_
   refine pk_ (i := 23) (N := some 35) #[I,I,I,I,O,I,I,I,I,O,I,I,I,I,O,I,I,I,I,O,O,O,O,I,O,O,O,O,O,O,O,O] ?_
   refine pk_ (i := 24) (N := some 36) #[I,I,I,I,O,I,I,I,I,O,I,I,I,I,O,I,I,I,I,O,O,O,O,I,I,O,O,O,O,O,O,O] ?_
   refine pk_ (i := 25) (N := some 37) #[I,I,I,I,O,I,I,I,I,O,I,I,I,I,O,I,I,I,I,O,O,O,O,I,I,I,O,O,O,O,O,O] ?_
   refine pk_ (i := 26) (N := some 38) #[I,I,I,I,O,I,I,I,I,O,I,I,I,I,O,I,I,I,I,O,O,O,O,I,I,I,I,O,O,O,O,O] ?_
   refine tk_ (i := 4) (N := some 16) #[I,I,I,I,I,I,I,I,I,O,I,I,I,I,O,I,I,I,I,O,O,O,O,I,I,I,I,O,O,O,O,O] hHeld ?_
   refine pk_ (i := 29) (N := some 41) #[I,I,I,I,I,I,I,I,I,O,I,I,I,I,O,I,I,I,I,O,O,O,O,I,I,I,I,O,O,I,O,O] ?_
   refine tk_ (i := 9) (N := some 21) #[I,I,I,I,I,I,I,I,I,I,I,I,I,I,O,I,I,I,I,O,O,O,O,I,I,I,I,O,O,I,O,O] hHeld ?_
   refine tk_ (i := 14) (N := some 26) #[I,I,I,I,I,I,I,I,I,I,I,I,I,I,I,I,I,I,I,O,O,O,O,I,I,I,I,O,O,I,O,O] hHeld ?_
   refine pk_ (i := 20) (N := some 32) #[I,I,I,I,I,I,I,I,I,I,I,I,I,I,I,I,I,I,I,O,I,O,O,I,I,I,I,O,O,I,O,O] ?_
   refine tk_ (i := 19) (N := some 31) #[I,I,I,I,I,I,I,I,I,I,I,I,I,I,I,I,I,I,I,I,I,O,O,I,I,I,I,O,O,I,O,O] hHeld ?_
   refine pk_ (i := 21) (N := some 33) #[I,I,I,I,I,I,I,I,I,I,I,I,I,I,I,I,I,I,I,I,I,I,O,I,I,I,I,O,O,I,O,O] ?_
   refine tk_ (i := 22) (N := some 34) #[I,I,I,I,I,I,I,I,I,I,I,I,I,I,I,I,I,I,I,I,I,I,I,I,I,I,I,O,O,I,O,O] hHeld ?_
   refine tk_ (i := 27) (N := some 39) #[I,I,I,I,I,I,I,I,I,I,I,I,I,I,I,I,I,I,I,I,I,I,I,I,I,I,I,I,O,I,O,O] hHeld ?_
   refine pk_ (i := 28) (N := some 40) #[I,I,I,I,I,I,I,I,I,I,I,I,I,I,I,I,I,I,I,I,I,I,I,I,I,I,I,I,I,I,O,O] ?_
   refine pk_ (i := 30) (N := some 42) #[I,I,I,I,I,I,I,I,I,I,I,I,I,I,I,I,I,I,I,I,I,I,I,I,I,I,I,I,I,I,I,O] ?_
   refine last_ (i := 31) (N := none) #[I,I,I,I,I,I,I,I,I,I,I,I,I,I,I,I,I,I,I,I,I,I,I,I,I,I,I,I,I,I,I,I] rfl rfl (by kernel_rfl) (by decide) (fun K_ hK => ?_)
   have hs16 := hHeld.1
   have hf16 := blk_frozen e0.out (a * 3 + k)
   refine skip_ (w1 := ?_) (by rfl) rfl ?_ ?_
   rotate_left
   ·
    go_simp
    rfl
   refine hK.out _ _ ?_
   clear hK K_
   refine done_ (by kernel_rfl) ?_
   go_wp2
   rw [show wrap64 ((n : Int) + 1) = ((n + 1 : Nat) : Int) by unfold wrap64; have := HN.out; have := H3.out; omega]
   refine ⟨⟨n + 1, rfl, by have := H3.out; omega, ⟨?_⟩, ⟨blk_far2 e1.out (by omega)⟩, ⟨below_set eB.out (by omega)⟩⟩, ?_⟩
   ·
    rw [emv.out, ← set6 o Hi6.out]
    exact blk_set e0.out _ _
   ·
    show l1.length - ((n + 1 : Nat) : Int).toNat < l1.length - (n : Int).toNat
    have := H3.out
    omega
  ·
   have d3 : decide ((n : Int) < (l1.length : Int)) = false := decide_eq_false (by omega)
   have en : n = l1.length := by omega
   subst en
   rw [List.take_length] at h0
   have r0 := (blk_cell h0.out 0).trans rfl
   have s0 := (blk_cell h1.out 0).trans rfl
   have t0 := blk_frozen h1.out 0
   have r1 := (blk_cell h0.out 1).trans rfl
   have s1 := (blk_cell h1.out 1).trans rfl
   have t1 := blk_frozen h1.out 1
   have r2 := (blk_cell h0.out 2).trans rfl
   have s2 := (blk_cell h1.out 2).trans rfl
   have t2 := blk_frozen h1.out 2
   have r3 := (blk_cell h0.out 3).trans rfl
   have s3 := (blk_cell h1.out 3).trans rfl
   have t3 := blk_frozen h1.out 3
   have r4 := (blk_cell h0.out 4).trans rfl
   have s4 := (blk_cell h1.out 4).trans rfl
   have t4 := blk_frozen h1.out 4
   have r5 := (blk_cell h0.out 5).trans rfl
   have s5 := (blk_cell h1.out 5).trans rfl
   have t5 := blk_frozen h1.out 5
   go_wp2
   refine bodyPost_ret (results_cell_row rfl _ _ (w.heap.size + 1) 59 (six (mv q l1)) (0, 0) _ rfl (put6 h1.out (mv q l1)) Try.underlying59 rfl (by kernel_rfl)) rfl ?_
   exact ⟨rfl, below6 hB.out (by omega) (mv q l1)⟩
end Go.Proofs.Ytmmaodlngnjmlaa.Reach
