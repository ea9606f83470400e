/- The law of the targets: how counts and moves are reckoned; its walk. -/
import Derived.Test.YtmmaodlngnjmlaaP0
import Derived.Test.YtmmaodlngnjmlaaP4
import Derived.Test.YtmmaodlngnjmlaaP5
import Derived.Test.YtmmaodlngnjmlaaP4
import Derived.Test.YtmmaodlngnjmlaaP4
import Derived.LoopN
import Derived.KernelRfl
import Derived.Tactics
import Derived.Deep.RegionHeld3
import Derived.Test.YtmmaodlngnjmlaaXStill
import Derived.Test.YtmmaodlngnjmlaaXFar
namespace Go.Proofs.Ytmmaodlngnjmlaa.Reach
set_option linter.unusedVariables false
set_option linter.unusedSimpArgs false
open Go Go.RowKit Go.Proofs.Ytmmaodlngnjmlaa Go.Proofs.YtmmaodlngnjmlaaW.PrintWords Go.Proofs.YtmmaodlngnjmlaaW.PrintMore Go.Proofs.YtmmaodlngnjmlaaW.PrintLast Go.Proofs.Ytmmaodlngnjmlaa.P
theorem blk_in {W W' : World} {b : Nat} {o : Obj} (h : W.heap[b]? = some o) (hB : Below W.heap.size W W') : W'.heap[b]? = some o := (hB.block b (Array.getElem?_eq_some_iff.1 h).1).trans h
theorem blk_al {W : World} {b : Nat} {o : Obj} (h : W.heap[b]? = some o) (o' : Obj) : (W.alloc o').heap[b]? = some o := (Below.heap_alloc W o' b (Array.getElem?_eq_some_iff.1 h).1).trans h
theorem below_tr {w W W' : World} (h : Below w.heap.size w W) (hB : Below W.heap.size W W') : Below w.heap.size w W' := h.trans (hB.mono h.size)
theorem below_al {w W W' : World} {o : Obj} (h : Below w.heap.size w W) (hB : Below (W.alloc o).heap.size (W.alloc o) W') : Below w.heap.size w W' := (h.alloc h.size o).trans (hB.mono (h.alloc h.size o).size)
theorem blk_far2 {W : World} {b g j : Nat} {o : Obj} {u : Value} (h : W.heap[b]? = some o) (hne : b ≠ g) : (W.setCell ⟨g, j, none⟩ u).heap[b]? = some o := (Below.heap_setCell W ⟨g, j, none⟩ u b hne).trans h
theorem pk_ {P : Program} {ops : Array Oper} {Q : Exit → Act → World → Prop} {md : Region.Mode} {S : World → Prop} {ds : List Nat} {i : Nat} {N : Option Tmp} {oi : Oper} {v : Value} {fuel : Nat} {l : Array Bool} {a a' : Act} {w : World} (l' : Array Bool)
    (h : wpAnyLast P md ops Q S ds fuel l' a' w) (hi : ops[i]? = some oi := by exact rfl) (hN : oi.dst = N := by exact rfl) (hc : anyB md ops l l' i = true := by kernel_rfl) (hQ : ∀ c a w, Q (.panic c) (a.put oi.dst v) w → Q (.panic c) a w := by exact fun _ _ _ h => h)
    (hy : Yields P ops oi v a := by refine Or.inl ⟨by rfl, ?_⟩; intro w'; go_simp; with_reducible rfl) (ha : a.put N v = a' := by simp only [Act.put, List.setIfInBounds_toArray, List.set_cons_zero, List.set_cons_succ, i64_w, i32_w]; rfl) :
    wpAnyLast P md ops Q S ds (fuel + 1) l a w := pure_ l' hi hN hc hQ hy ha h
abbrev I : Bool := true
abbrev O : Bool := false
/-- Six numbers as an array's items. -/
abbrev six (o : Nat → Int) : Array Value := #[.int .i64 (o 0), .int .i64 (o 1), .int .i64 (o 2), .int .i64 (o 3), .int .i64 (o 4), .int .i64 (o 5)]
def upd (o : Nat → Int) (i : Nat) (x : Int) : Nat → Int := fun j => if j = i then x else o j
theorem get6 (o : Nat → Int) {i : Nat} (hi : i < 6) : (six o)[i]? = some (.int .i64 (o i)) := by
  match i, hi with
  | 0, _ => rfl
  | 1, _ => rfl
  | 2, _ => rfl
  | 3, _ => rfl
  | 4, _ => rfl
  | 5, _ => rfl
  | k + 6, h => omega
theorem set6 (o : Nat → Int) {i : Nat} (hi : i < 6) (x : Int) : (six o).setIfInBounds i (.int .i64 x) = six (upd o i x) := by
  match i, hi with
  | 0, _ => rfl
  | 1, _ => rfl
  | 2, _ => rfl
  | 3, _ => rfl
  | 4, _ => rfl
  | 5, _ => rfl
  | k + 6, h => omega
theorem six_congr {o p : Nat → Int} (h : ∀ i, i < 6 → o i = p i) : six o = six p := by
  unfold six
  rw [h 0 (by decide), h 1 (by decide), h 2 (by decide), h 3 (by decide), h 4 (by decide), h 5 (by decide)]
/-- The counts of the first n places. -/
def cnt (q : Nat → Int) (n : Nat) : Nat → Int := fun j => if j < n then wrap64 (12 * q j) else 0
theorem put6 {W : World} {g : Nat} {t : TypeId} {o : Nat → Int} (h : W.heap[g]? = some (.cells (six o) t (0, 0))) (x : Nat → Int) :
    ((((((W.setCell ⟨g, 0, none⟩ (.int .i64 (x 0))).setCell ⟨g, 1, none⟩ (.int .i64 (x 1))).setCell ⟨g, 2, none⟩ (.int .i64 (x 2))).setCell ⟨g, 3, none⟩ (.int .i64 (x 3))).setCell ⟨g, 4, none⟩ (.int .i64 (x 4))).setCell ⟨g, 5, none⟩ (.int .i64 (x 5))).heap[g]? = some (.cells (six x) t (0, 0)) :=
  blk_set (blk_set (blk_set (blk_set (blk_set (blk_set h 0 _) 1 _) 2 _) 3 _) 4 _) 5 _
theorem far6 {W : World} {b g : Nat} {o : Obj} (h : W.heap[b]? = some o) (hne : b ≠ g) (x : Nat → Int) :
    ((((((W.setCell ⟨g, 0, none⟩ (.int .i64 (x 0))).setCell ⟨g, 1, none⟩ (.int .i64 (x 1))).setCell ⟨g, 2, none⟩ (.int .i64 (x 2))).setCell ⟨g, 3, none⟩ (.int .i64 (x 3))).setCell ⟨g, 4, none⟩ (.int .i64 (x 4))).setCell ⟨g, 5, none⟩ (.int .i64 (x 5))).heap[b]? = some o :=
  blk_far2 (blk_far2 (blk_far2 (blk_far2 (blk_far2 (blk_far2 h hne) hne) hne) hne) hne) hne
theorem below6 {w W : World} {g : Nat} (h : Below w.heap.size w W) (hg : w.heap.size ≤ g) (x : Nat → Int) :
    Below w.heap.size w ((((((W.setCell ⟨g, 0, none⟩ (.int .i64 (x 0))).setCell ⟨g, 1, none⟩ (.int .i64 (x 1))).setCell ⟨g, 2, none⟩ (.int .i64 (x 2))).setCell ⟨g, 3, none⟩ (.int .i64 (x 3))).setCell ⟨g, 4, none⟩ (.int .i64 (x 4))).setCell ⟨g, 5, none⟩ (.int .i64 (x 5))) :=
  below_set (below_set (below_set (below_set (below_set (below_set h hg) hg) hg) hg) hg) hg
theorem tk_ {P : Program} {ops : Array Oper} {Q : Exit → Act → World → Prop} {md : Region.Mode} {S : World → Prop} {ds : List Nat} {i : Nat} {N : Option Tmp} {oi : Oper} {v : Value} {fuel : Nat} {l : Array Bool} {a a' : Act} {w : World} (l' : Array Bool) (hS : S w)
    (h : wpAnyLast P md ops Q S ds fuel l' a' w) (hi : ops[i]? = some oi := by exact rfl) (hN : oi.dst = N := by exact rfl) (hc : takeB md ops ds l l' i = true := by kernel_rfl) (hQ : ∀ c a w, Q (.panic c) (a.put oi.dst v) w → Q (.panic c) a w := by exact fun _ _ _ h => h)
    (hy : YieldsIf P ops S oi v a := by refine Or.inl ⟨by rfl, ?_⟩; (first | rintro w' ⟨s0, s1, s2, s3, s4, s5⟩ | rintro w' ⟨s0, s1, s2, s3, s4⟩ | rintro w' ⟨s0, s1, s2, s3⟩ | rintro w' ⟨s0, s1, s2⟩ | rintro w' ⟨s0, s1⟩ | intro w' s0); go_simp; with_reducible rfl) (ha : a.put N v = a' := by simp only [Act.put, List.setIfInBounds_toArray, List.set_cons_zero, List.set_cons_succ, i64_w, i32_w]; rfl) :
    wpAnyLast P md ops Q S ds (fuel + 1) l a w := take_ l' hi hN hc hQ hy hS ha h
/-- A move's place among the six. -/
def pl (m : S63) : Nat := m.f0.toNat * 3 + m.f1.toNat
/-- Places behind moves. -/
def mv (q : Nat → Int) (l : List S63) : Nat → Int := l.foldl (fun q m => upd q (pl m) (wrap64 (q (pl m) + m.f2))) q
theorem mv_take (q : Nat → Int) (l : List S63) {i : Nat} (h : i < l.length) : mv q (l.take (i + 1)) = upd (mv q (l.take i)) (pl (rd_T63 l i)) (wrap64 (mv q (l.take i) (pl (rd_T63 l i)) + (rd_T63 l i).f2)) := by
  have e : rd_T63 l (i : Int) = l[i] := by
    unfold rd_T63
    rw [Int.toNat_natCast, List.getD_eq_getElem?_getD, List.getElem?_eq_getElem h]
    rfl
  rw [e]
  unfold mv
  rw [List.take_succ_eq_append_getElem h, List.foldl_append]
  rfl
theorem held6 {W : World} {g : Nat} {t : TypeId} {o : Nat → Int} (h : W.heap[g]? = some (.cells (six o) t (0, 0))) : W.cell? ⟨g, 0, none⟩ = some (.int .i64 (o 0)) ∧ W.cell? ⟨g, 1, none⟩ = some (.int .i64 (o 1)) ∧ W.cell? ⟨g, 2, none⟩ = some (.int .i64 (o 2)) ∧ W.cell? ⟨g, 3, none⟩ = some (.int .i64 (o 3)) ∧ W.cell? ⟨g, 4, none⟩ = some (.int .i64 (o 4)) ∧ W.cell? ⟨g, 5, none⟩ = some (.int .i64 (o 5)) :=
  ⟨(blk_cell h 0).trans rfl, (blk_cell h 1).trans rfl, (blk_cell h 2).trans rfl, (blk_cell h 3).trans rfl, (blk_cell h 4).trans rfl, (blk_cell h 5).trans rfl⟩
theorem uk_ {P : Program} {ops : Array Oper} {Q : Exit → Act → World → Prop} {md : Region.Mode} {S : World → Prop} {ds : List Nat} {i : Nat} {N : Option Tmp} {oi : Oper} {fuel : Nat} {l : Array Bool} {a a' : Act} {w : World} (l' : Array Bool)
    (h : wpAnyLast P md ops Q S ds fuel l' a' w) (hi : ops[i]? = some oi := by exact rfl) (hN : oi.dst = N := by exact rfl) (hc : anyB md ops l l' i = true := by kernel_rfl) (hQ : ∀ c a w, Q (.panic c) (a.put oi.dst undef) w → Q (.panic c) a w := by exact fun _ _ _ h => h)
    (hy : Yields P ops oi undef a := by exact Or.inr ⟨by rfl, rfl⟩) (ha : a.put N undef = a' := by simp only [Act.put, List.setIfInBounds_toArray, List.set_cons_zero, List.set_cons_succ, i64_w, i32_w]; rfl) :
    wpAnyLast P md ops Q S ds (fuel + 1) l a w := pure_ l' hi hN hc hQ hy ha h
theorem held4 {W : World} {g : Nat} {t : TypeId} {a b c d : Int} (h : W.heap[g]? = some (.cells #[.int .i64 a, .int .i64 b, .int .i64 c, .int .i64 d] t (0, 0))) : W.cell? ⟨g, 0, none⟩ = some (.int .i64 a) ∧ W.cell? ⟨g, 1, none⟩ = some (.int .i64 b) ∧ W.cell? ⟨g, 2, none⟩ = some (.int .i64 c) ∧ W.cell? ⟨g, 3, none⟩ = some (.int .i64 d) :=
  ⟨(blk_cell h 0).trans rfl, (blk_cell h 1).trans rfl, (blk_cell h 2).trans rfl, (blk_cell h 3).trans rfl⟩
theorem cnt_put (q : Nat → Int) (n i : Nat) : upd (cnt q n) n (wrap64 (12 * q n)) i = cnt q (n + 1) i := by
  unfold upd cnt
  by_cases c : i = n
  · rw [if_pos c, c, if_pos (Nat.lt_succ_self n)]
  · rw [if_neg c]
    by_cases d : i < n
    · rw [if_pos d, if_pos (by omega)]
    · rw [if_neg d, if_neg (by omega)]
set_option maxRecDepth 100000 in
set_option maxHeartbeats 4000000 in
theorem counts_run (q : Nat → Int) (w : World) :
    Calls Try.prog 44 #[.agg (six q)] w fun e w' => e = .returned (.agg (six fun j => wrap64 (12 * q j))) ∧ Below w.heap.size w w' := by
  have X0 := Aside0.mk (heap_alloc_new w (.cells (six q) 59 (0, 0)))
  have X1 := Aside0.mk (heap_alloc_new (w.alloc (.cells (six q) 59 (0, 0))) (.cells (six fun _ => 0) 69 (0, 0)))
  have X2 := Aside0.mk (heap_alloc_new ((w.alloc (.cells (six q) 59 (0, 0))).alloc (.cells (six fun _ => 0) 69 (0, 0))) (.cells (six (cnt q 0)) 69 (0, 0)))
  have F0 := Aside0.mk (blk_al (blk_al X0.out (.cells (six fun _ => 0) 69 (0, 0))) (.cells (six fun _ => 0) 69 (0, 0)))
  have F1 := Aside0.mk (blk_al X1.out (.cells (six fun _ => 0) 69 (0, 0)))
  have HB := Aside0.mk (((Below.refl w.heap.size w).alloc (Nat.le_refl _) (.cells (six q) 59 (0, 0))).alloc (by rw [World.size_alloc]; omega) (.cells (six fun _ => 0) 69 (0, 0)) |>.alloc (by rw [World.size_alloc, World.size_alloc]; omega) (.cells (six fun _ => 0) 69 (0, 0)))
  simp only [World.size_alloc] at X1 X2 F0 F1
  clear X0 X1
  go_enter Try.func44, Try.ntmps44
  go_wp2
  go_loopw [4] (fun i wr => ∃ (a : Nat), i = .int .i64 a ∧ a ≤ 2 ∧ Aside0 (wr.heap[w.heap.size]? = some (.cells (six q) 59 (0, 0))) ∧ Aside0 (wr.heap[w.heap.size + 1]? = some (.cells (six fun _ => 0) 69 (0, 0))) ∧ Aside0 (wr.heap[w.heap.size + 1 + 1]? = some (.cells (six (cnt q (3 * a))) 69 (0, 0))) ∧ Aside0 (Below w.heap.size w wr))
    (fun i _ => 2 - (intOf i).toNat)
  case atStart => exact ⟨0, rfl, by omega, F0, F1, X2, HB⟩
  case round =>
    obtain ⟨a, rfl, ha, h0, h1, h2, hB⟩ := hrel
    clear F0 F1 X2 HB
    by_cases h3 : a < 2
    · have d3 : decide ((a : Int) < 2) = true := decide_eq_true (by omega)
      have H3 := Aside0.mk h3
      clear h3
      go_wp2
      have F2 := Aside0.mk (show _ from (show wr.heap[w.heap.size + 1 + 1]? = some (.cells (six (cnt q (3 * a + 0))) 69 (0, 0)) from h2.out))
      go_loopw [5] (fun i wr => ∃ (k : Nat), i = .int .i64 k ∧ k ≤ 3 ∧ Aside0 (wr.heap[w.heap.size]? = some (.cells (six q) 59 (0, 0))) ∧ Aside0 (wr.heap[w.heap.size + 1]? = some (.cells (six fun _ => 0) 69 (0, 0))) ∧ Aside0 (wr.heap[w.heap.size + 1 + 1]? = some (.cells (six (cnt q (3 * a + k))) 69 (0, 0))) ∧ Aside0 (Below w.heap.size w wr))
        (fun i _ => 3 - (intOf i).toNat)
      case atStart => exact ⟨0, rfl, by omega, h0, h1, F2, hB⟩
      case round =>
        clear F2 h0 h1 h2 hB
        obtain ⟨k, rfl, hk, h0, h1, h2, hB⟩ := hrel
        by_cases h4 : k < 3
        · have d4 : decide ((k : Int) < 3) = true := decide_eq_true (by omega)
          have H4 := Aside0.mk h4
          have i1 : (a : Int) < 2 := by have := H3.out; omega
          have i2 : (k : Int) < 3 := by omega
          clear h4
          go_wp2
          have e0 := Aside0.mk (blk_drew h0.out)
          have e1 := Aside0.mk (blk_drew h1.out)
          have e2 := Aside0.mk (blk_drew h2.out)
          have eB := Aside0.mk (below_drew1 hB.out)
          clear h0 h1 h2 hB
          have hi6 : a * 3 + k < 6 := by have := H3.out; have := H4.out; omega
          refine start_ (n := 11) (S := fun w' => w'.cell? ⟨w.heap.size, a * 3 + k, none⟩ = some (.int .i64 (q (a * 3 + k)))) (ds := []) #[O,O,O,O,O,O,O,O,O,O,O] (by kernel_rfl) rfl rfl ((blk_cell e0.out _).trans (get6 q hi6)) (fun hHeld => ?_)
          generalize wr.drew = wx at hHeld e0 e1 e2 eB ⊢
          refine pk_ (i := 0) (N := some 15) #[I,O,O,O,O,O,O,O,O,O,O] ?_
          refine pk_ (i := 1) (N := some 16) #[I,I,O,O,O,O,O,O,O,O,O] ?_
          refine pk_ (i := 2) (N := some 17) #[I,I,I,O,O,O,O,O,O,O,O] ?_
          refine pk_ (i := 3) (N := some 18) #[I,I,I,I,O,O,O,O,O,O,O] ?_
          refine pk_ (i := 4) (N := some 19) #[I,I,I,I,I,O,O,O,O,O,O] ?_
          refine pk_ (i := 5) (N := some 20) #[I,I,I,I,I,I,O,O,O,O,O] ?_
          refine pk_ (i := 8) (N := some 23) #[I,I,I,I,I,I,O,O,I,O,O] ?_
          refine take_ (i := 6) (N := some 21) (v := ?_) (a' := ?_) #[I,I,I,I,I,I,I,O,I,O,O] rfl rfl (by kernel_rfl) (fun _ _ _ h => h) (Or.inl ⟨by rfl, ?_⟩) hHeld ?_ ?_
          rotate_left; · (intro w' s0; go_simp; with_reducible rfl)
          rotate_left; · (simp only [Act.put, List.setIfInBounds_toArray, List.set_cons_zero, List.set_cons_succ, i64_w, i32_w]; rfl)
          refine pk_ (i := 7) (N := some 22) #[I,I,I,I,I,I,I,I,I,O,O] ?_
          refine pk_ (i := 9) (N := some 24) #[I,I,I,I,I,I,I,I,I,I,O] ?_
          refine one_ (i := 10) (N := none) #[I,I,I,I,I,I,I,I,I,I,I] rfl rfl (by kernel_rfl) (by decide) (fun K_ hK => ?_)
          have hs16 : wx.cell? ⟨w.heap.size + 1 + 1, a * 3 + k, none⟩ = some (.int .i64 (cnt q (3 * a + k) (a * 3 + k))) := (blk_cell e2.out _).trans (get6 _ hi6)
          have hf16 := blk_frozen e2.out (a * 3 + k)
          refine skip_ (w1 := ?_) (by rfl) rfl ?_ ?_
          rotate_left
          · go_simp
            rfl
          have f0 := blk_far2 (g := w.heap.size + 1 + 1) (j := a * 3 + k) (u := .int .i64 (wrap64 (12 * q (a * 3 + k)))) e0.out (by omega)
          have f1 := blk_far2 (g := w.heap.size + 1 + 1) (j := a * 3 + k) (u := .int .i64 (wrap64 (12 * q (a * 3 + k)))) e1.out (by omega)
          have f2 := blk_set e2.out (a * 3 + k) (.int .i64 (wrap64 (12 * q (a * 3 + k))))
          rw [set6 _ hi6, show a * 3 + k = 3 * a + k by omega, six_congr (fun i _ => cnt_put q (3 * a + k) i)] at f2
          refine hK.out _ _ ((blk_cell f0 _).trans (get6 q hi6)) (fun hHeld => ?_)
          clear hK K_
          refine done_ (by kernel_rfl) ?_
          go_wp2
          refine ⟨⟨k + 1, rfl, by have := H4.out; omega, ⟨f0⟩, ⟨f1⟩, ⟨by rw [show a * 3 + k = 3 * a + k by omega]; exact f2⟩, ⟨below_set eB.out (by omega)⟩⟩, ?_⟩
          show 3 - ((k + 1 : Nat) : Int).toNat < 3 - (k : Int).toNat
          have := H4.out
          omega
        · have d4 : decide ((k : Int) < 3) = false := decide_eq_false (by omega)
          have ek : k = 3 := by omega
          subst ek
          go_wp2
          refine ⟨⟨a + 1, rfl, by have := H3.out; omega, h0, h1, h2, hB⟩, ?_⟩
          show 2 - ((a + 1 : Nat) : Int).toNat < 2 - (a : Int).toNat
          have := H3.out
          omega
    · have d3 : decide ((a : Int) < 2) = false := decide_eq_false (by omega)
      have ea : a = 2 := by omega
      subst ea
      have r0 := (blk_cell h2.out 0).trans rfl
      have s0 := (blk_cell h1.out 0).trans rfl
      have t0 := blk_frozen h1.out 0
      have r1 := (blk_cell h2.out 1).trans rfl
      have s1 := (blk_cell h1.out 1).trans rfl
      have t1 := blk_frozen h1.out 1
      have r2 := (blk_cell h2.out 2).trans rfl
      have s2 := (blk_cell h1.out 2).trans rfl
      have t2 := blk_frozen h1.out 2
      have r3 := (blk_cell h2.out 3).trans rfl
      have s3 := (blk_cell h1.out 3).trans rfl
      have t3 := blk_frozen h1.out 3
      have r4 := (blk_cell h2.out 4).trans rfl
      have s4 := (blk_cell h1.out 4).trans rfl
      have t4 := blk_frozen h1.out 4
      have r5 := (blk_cell h2.out 5).trans rfl
      have s5 := (blk_cell h1.out 5).trans rfl
      have t5 := blk_frozen h1.out 5
      go_wp2
      refine bodyPost_ret (results_cell_row rfl _ _ (w.heap.size + 1) 69 (six (cnt q 6)) (0, 0) _ rfl (put6 h1.out (cnt q 6)) Try.underlying69 rfl (by kernel_rfl)) rfl ?_
      exact ⟨rfl, below6 hB.out (by omega) (cnt q 6)⟩
set_option maxRecDepth 100000 in
set_option maxHeartbeats 4000000 in
theorem moved_run (q : Nat → Int) (A1 : Option Addr) (c1 : Nat) (l1 : List S63) (w : World) (hr1 : Kd.C k63 w A1 l1.length l1) (hc1 : l1.length ≤ c1) (hv : ∀ i, i < l1.length → ∃ a k : Nat, a < 2 ∧ k < 3 ∧ (rd_T63 l1 i).f0 = a ∧ (rd_T63 l1 i).f1 = k) (hlen : l1.length ≤ 1000) :
    Calls Try.prog 45 #[.agg (six q), .slice A1 l1.length c1] w fun e w' => e = .returned (.agg (six (mv q l1))) ∧ Below w.heap.size w w' := by
  have HR := Aside0.mk hr1
  have HV := Aside0.mk hv
  have HN := Aside0.mk hlen
  clear hv hlen hr1
  have X0 := Aside0.mk (heap_alloc_new w (.cells (six q) 59 (0, 0)))
  have X1 := Aside0.mk (heap_alloc_new (w.alloc (.cells (six q) 59 (0, 0))) (.cells (six fun _ => 0) 59 (0, 0)))
  have F0 := Aside0.mk (show _ from blk_al X0.out (.cells (six fun _ => 0) 59 (0, 0)))
  have HB := Aside0.mk (((Below.refl w.heap.size w).alloc (Nat.le_refl _) (.cells (six q) 59 (0, 0))).alloc (by rw [World.size_alloc]; omega) (.cells (six fun _ => 0) 59 (0, 0)))
  simp only [World.size_alloc] at X1 F0
  clear X0
  go_enter Try.func45, Try.ntmps45
  go_wp2
  go_loopw [5] (fun i wr => ∃ (n : Nat), i = .int .i64 n ∧ n ≤ l1.length ∧ Aside0 (wr.heap[w.heap.size]? = some (.cells (six (mv q (l1.take n))) 59 (0, 0))) ∧ Aside0 (wr.heap[w.heap.size + 1]? = some (.cells (six fun _ => 0) 59 (0, 0))) ∧ Aside0 (Below w.heap.size w wr))
    (fun i _ => l1.length - (intOf i).toNat)
  case atStart => exact ⟨0, rfl, by omega, F0, X1, HB⟩
  case round =>
    obtain ⟨n, rfl, hn, h0, h1, hB⟩ := hrel
    clear F0 X1 HB
    by_cases h3 : n < l1.length
    · have d3 : decide ((n : Int) < (l1.length : Int)) = true := decide_eq_true (by omega)
      have H3 := Aside0.mk h3
      obtain ⟨a, k, ha, hk, ea, ek⟩ := HV.out n h3
      have Hi6 := Aside0.mk (show a * 3 + k < 6 by omega)
      have epl : pl (rd_T63 l1 n) = a * 3 + k := by unfold pl; rw [ea, ek]; rfl
      have emv := Aside0.mk (mv_take q l1 h3)
      rw [epl] at emv
      have i1 : (a : Int) < 2 := by omega
      have i2 : (k : Int) < 3 := by omega
      have i3 : (n : Int) < (l1.length : Int) := by omega
      obtain ⟨ad, eA, x0, x1, x2⟩ := at_T63 HR.out (n : Int) (by omega) i3
      rw [ea] at x0
      rw [ek] at x1
      generalize (rd_T63 l1 n).f2 = by_ at x2 emv
      subst eA
      rw [Int.toNat_natCast] at x0 x1 x2
      clear h3 ea ek epl
      go_wp2
      have e0 := Aside0.mk (blk_drew h0.out)
      have e1 := Aside0.mk (blk_drew h1.out)
      have eB := Aside0.mk (below_drew1 hB.out)
      clear h0 h1 hB
      replace x0 := (eB.out.cell (World.block_lt_of_cell? w _ x0)).trans x0
      replace x1 := (eB.out.cell (World.block_lt_of_cell? w _ x1)).trans x1
      replace x2 := (eB.out.cell (World.block_lt_of_cell? w _ x2)).trans x2
      generalize eo : mv q (l1.take n) = o at e0 emv
      refine start_ (n := 32) (S := fun w' => w'.cell? ⟨w.heap.size, a * 3 + k, none⟩ = some (.int .i64 (o (a * 3 + k))) ∧ w'.cell? (ad.add (n * 3)) = some (.int .i64 (a : Int)) ∧ w'.cell? ⟨(ad.add (n * 3)).block, (ad.add (n * 3)).off + 1, none⟩ = some (.int .i64 (k : Int)) ∧ w'.cell? ⟨(ad.add (n * 3)).block, (ad.add (n * 3)).off + 2, none⟩ = some (.int .i64 by_)) (ds := [31]) #[O,O,O,O,O,O,O,O,O,O,O,O,O,O,O,O,O,O,O,O,O,O,O,O,O,O,O,O,O,O,O,O] (by kernel_rfl) rfl rfl ⟨(blk_cell e0.out _).trans (get6 o Hi6.out), x0, x1, x2⟩ (fun hHeld => ?_)
      generalize wr.drew = wx at hHeld e0 e1 eB ⊢
      clear x0 x1 x2
      refine pk_ (i := 0) (N := some 12) #[I,O,O,O,O,O,O,O,O,O,O,O,O,O,O,O,O,O,O,O,O,O,O,O,O,O,O,O,O,O,O,O] ?_
      refine pk_ (i := 1) (N := some 13) #[I,I,O,O,O,O,O,O,O,O,O,O,O,O,O,O,O,O,O,O,O,O,O,O,O,O,O,O,O,O,O,O] ?_
      refine pk_ (i := 2) (N := some 14) #[I,I,I,O,O,O,O,O,O,O,O,O,O,O,O,O,O,O,O,O,O,O,O,O,O,O,O,O,O,O,O,O] ?_
      refine pk_ (i := 3) (N := some 15) #[I,I,I,I,O,O,O,O,O,O,O,O,O,O,O,O,O,O,O,O,O,O,O,O,O,O,O,O,O,O,O,O] ?_
      refine pk_ (i := 5) (N := some 17) #[I,I,I,I,O,I,O,O,O,O,O,O,O,O,O,O,O,O,O,O,O,O,O,O,O,O,O,O,O,O,O,O] ?_
      refine pk_ (i := 6) (N := some 18) #[I,I,I,I,O,I,I,O,O,O,O,O,O,O,O,O,O,O,O,O,O,O,O,O,O,O,O,O,O,O,O,O] ?_
      refine pk_ (i := 7) (N := some 19) #[I,I,I,I,O,I,I,I,O,O,O,O,O,O,O,O,O,O,O,O,O,O,O,O,O,O,O,O,O,O,O,O] ?_
      refine pk_ (i := 8) (N := some 20) #[I,I,I,I,O,I,I,I,I,O,O,O,O,O,O,O,O,O,O,O,O,O,O,O,O,O,O,O,O,O,O,O] ?_
      refine pk_ (i := 10) (N := some 22) #[I,I,I,I,O,I,I,I,I,O,I,O,O,O,O,O,O,O,O,O,O,O,O,O,O,O,O,O,O,O,O,O] ?_
      refine pk_ (i := 11) (N := some 23) #[I,I,I,I,O,I,I,I,I,O,I,I,O,O,O,O,O,O,O,O,O,O,O,O,O,O,O,O,O,O,O,O] ?_
      refine pk_ (i := 12) (N := some 24) #[I,I,I,I,O,I,I,I,I,O,I,I,I,O,O,O,O,O,O,O,O,O,O,O,O,O,O,O,O,O,O,O] ?_
      refine pk_ (i := 13) (N := some 25) #[I,I,I,I,O,I,I,I,I,O,I,I,I,I,O,O,O,O,O,O,O,O,O,O,O,O,O,O,O,O,O,O] ?_
      refine pk_ (i := 15) (N := some 27) #[I,I,I,I,O,I,I,I,I,O,I,I,I,I,O,I,O,O,O,O,O,O,O,O,O,O,O,O,O,O,O,O] ?_
      refine pk_ (i := 16) (N := some 28) #[I,I,I,I,O,I,I,I,I,O,I,I,I,I,O,I,I,O,O,O,O,O,O,O,O,O,O,O,O,O,O,O] ?_
      refine pk_ (i := 17) (N := some 29) #[I,I,I,I,O,I,I,I,I,O,I,I,I,I,O,I,I,I,O,O,O,O,O,O,O,O,O,O,O,O,O,O] ?_
      refine pk_ (i := 18) (N := some 30) #[I,I,I,I,O,I,I,I,I,O,I,I,I,I,O,I,I,I,I,O,O,O,O,O,O,O,O,O,O,O,O,O] ?_
      refine pk_ (i := 23) (N := some 35) #[I,I,I,I,O,I,I,I,I,O,I,I,I,I,O,I,I,I,I,O,O,O,O,I,O,O,O,O,O,O,O,O] ?_
      refine pk_ (i := 24) (N := some 36) #[I,I,I,I,O,I,I,I,I,O,I,I,I,I,O,I,I,I,I,O,O,O,O,I,I,O,O,O,O,O,O,O] ?_
      refine pk_ (i := 25) (N := some 37) #[I,I,I,I,O,I,I,I,I,O,I,I,I,I,O,I,I,I,I,O,O,O,O,I,I,I,O,O,O,O,O,O] ?_
      refine pk_ (i := 26) (N := some 38) #[I,I,I,I,O,I,I,I,I,O,I,I,I,I,O,I,I,I,I,O,O,O,O,I,I,I,I,O,O,O,O,O] ?_
      refine tk_ (i := 4) (N := some 16) #[I,I,I,I,I,I,I,I,I,O,I,I,I,I,O,I,I,I,I,O,O,O,O,I,I,I,I,O,O,O,O,O] hHeld ?_
      refine pk_ (i := 29) (N := some 41) #[I,I,I,I,I,I,I,I,I,O,I,I,I,I,O,I,I,I,I,O,O,O,O,I,I,I,I,O,O,I,O,O] ?_
      refine tk_ (i := 9) (N := some 21) #[I,I,I,I,I,I,I,I,I,I,I,I,I,I,O,I,I,I,I,O,O,O,O,I,I,I,I,O,O,I,O,O] hHeld ?_
      refine tk_ (i := 14) (N := some 26) #[I,I,I,I,I,I,I,I,I,I,I,I,I,I,I,I,I,I,I,O,O,O,O,I,I,I,I,O,O,I,O,O] hHeld ?_
      refine pk_ (i := 20) (N := some 32) #[I,I,I,I,I,I,I,I,I,I,I,I,I,I,I,I,I,I,I,O,I,O,O,I,I,I,I,O,O,I,O,O] ?_
      refine tk_ (i := 19) (N := some 31) #[I,I,I,I,I,I,I,I,I,I,I,I,I,I,I,I,I,I,I,I,I,O,O,I,I,I,I,O,O,I,O,O] hHeld ?_
      refine pk_ (i := 21) (N := some 33) #[I,I,I,I,I,I,I,I,I,I,I,I,I,I,I,I,I,I,I,I,I,I,O,I,I,I,I,O,O,I,O,O] ?_
      refine tk_ (i := 22) (N := some 34) #[I,I,I,I,I,I,I,I,I,I,I,I,I,I,I,I,I,I,I,I,I,I,I,I,I,I,I,O,O,I,O,O] hHeld ?_
      refine tk_ (i := 27) (N := some 39) #[I,I,I,I,I,I,I,I,I,I,I,I,I,I,I,I,I,I,I,I,I,I,I,I,I,I,I,I,O,I,O,O] hHeld ?_
      refine pk_ (i := 28) (N := some 40) #[I,I,I,I,I,I,I,I,I,I,I,I,I,I,I,I,I,I,I,I,I,I,I,I,I,I,I,I,I,I,O,O] ?_
      refine pk_ (i := 30) (N := some 42) #[I,I,I,I,I,I,I,I,I,I,I,I,I,I,I,I,I,I,I,I,I,I,I,I,I,I,I,I,I,I,I,O] ?_
      refine last_ (i := 31) (N := none) #[I,I,I,I,I,I,I,I,I,I,I,I,I,I,I,I,I,I,I,I,I,I,I,I,I,I,I,I,I,I,I,I] rfl rfl (by kernel_rfl) (by decide) (fun K_ hK => ?_)
      have hs16 := hHeld.1
      have hf16 := blk_frozen e0.out (a * 3 + k)
      refine skip_ (w1 := ?_) (by rfl) rfl ?_ ?_
      rotate_left
      · go_simp
        rfl
      refine hK.out _ _ ?_
      clear hK K_
      refine done_ (by kernel_rfl) ?_
      go_wp2
      rw [show wrap64 ((n : Int) + 1) = ((n + 1 : Nat) : Int) by unfold wrap64; have := HN.out; have := H3.out; omega]
      refine ⟨⟨n + 1, rfl, by have := H3.out; omega, ⟨?_⟩, ⟨blk_far2 e1.out (by omega)⟩, ⟨below_set eB.out (by omega)⟩⟩, ?_⟩
      · rw [emv.out, ← set6 o Hi6.out]
        exact blk_set e0.out _ _
      · show l1.length - ((n + 1 : Nat) : Int).toNat < l1.length - (n : Int).toNat
        have := H3.out
        omega
    · have d3 : decide ((n : Int) < (l1.length : Int)) = false := decide_eq_false (by omega)
      have en : n = l1.length := by omega
      subst en
      rw [List.take_length] at h0
      have r0 := (blk_cell h0.out 0).trans rfl
      have s0 := (blk_cell h1.out 0).trans rfl
      have t0 := blk_frozen h1.out 0
      have r1 := (blk_cell h0.out 1).trans rfl
      have s1 := (blk_cell h1.out 1).trans rfl
      have t1 := blk_frozen h1.out 1
      have r2 := (blk_cell h0.out 2).trans rfl
      have s2 := (blk_cell h1.out 2).trans rfl
      have t2 := blk_frozen h1.out 2
      have r3 := (blk_cell h0.out 3).trans rfl
      have s3 := (blk_cell h1.out 3).trans rfl
      have t3 := blk_frozen h1.out 3
      have r4 := (blk_cell h0.out 4).trans rfl
      have s4 := (blk_cell h1.out 4).trans rfl
      have t4 := blk_frozen h1.out 4
      have r5 := (blk_cell h0.out 5).trans rfl
      have s5 := (blk_cell h1.out 5).trans rfl
      have t5 := blk_frozen h1.out 5
      go_wp2
      refine bodyPost_ret (results_cell_row rfl _ _ (w.heap.size + 1) 59 (six (mv q l1)) (0, 0) _ rfl (put6 h1.out (mv q l1)) Try.underlying59 rfl (by kernel_rfl)) rfl ?_
      exact ⟨rfl, below6 hB.out (by omega) (mv q l1)⟩
/-- What the law asks of the segment k: its joint, the places behind it, and the positions within it. -/
structure SegOk (P G : Nat → Nat → Int) (tot : Nat) (t : List S67) (k : Nat) : Prop where
  ex : ∃ a j s n : Nat, a < 2 ∧ j < 3 ∧ s + n ≤ 1000000 ∧ (rd_T67 t k).f0.f0.f0 = a ∧ (rd_T67 t k).f0.f0.f1 = j ∧ (rd_T67 t k).f1 = s ∧ (rd_T67 t k).f2.length = n ∧
    (∀ i, i < 6 → G (k + 1) i = upd (G k) (a * 3 + j) (wrap64 (G k (a * 3 + j) + wrap64 ((rd_T67 t k).f0.f0.f2 * (rd_T67 t k).f0.f1))) i) ∧
    ∀ T, T ≤ tot → s ≤ T → T ≤ s + n → mn (wrap64 (12 * G k (a * 3 + j))) (wrap64 (12 * G (k + 1) (a * 3 + j))) ≤ P T (a * 3 + j) ∧ P T (a * 3 + j) ≤ mx (wrap64 (12 * G k (a * 3 + j))) (wrap64 (12 * G (k + 1) (a * 3 + j))) ∧ ∀ i, i < 6 → i ≠ a * 3 + j → P T i = wrap64 (12 * G k i)
attribute [local go_sem high] eqA69
attribute [local go_sem] max2_int min2_int max_two min_two
set_option maxRecDepth 100000 in
set_option maxHeartbeats 8000000 in
theorem reach_early (x0 x1 x2 V A J : Int) (A1 : Option Addr) (c1 : Nat) (l1 : List S63) (q : Nat → Int) (A3 : Option Addr) (c3 : Nat) (l3 : List Int) (w : World) (hr1 : Kd.C k63 w A1 l1.length l1) (hc1 : l1.length ≤ c1) (hhead : ∀ w : World, Calls Try.prog 31 #[] w fun e w' => e = .returned (.bool true) ∧ Below w.heap.size w w')
    (hlim : ambidexterlaw23_lim.f x0 x1 x2 = some (V, A, J)) (K : Nat) (t : List S67) (e : Int) (hseq : timetable_Sequential.f K V A J l1 = some (t, e)) (b0 b1 : Bool) (hj0 : ambidexterref23_Joints.f (q 0) (q 1) (q 2) = some b0) (hj1 : ambidexterref23_Joints.f (q 3) (q 4) (q 5) = some b1)
    (hc : 60 < l1.length ∨ 60 < l3.length ∨ b0 = false ∨ b1 = false ∨ e ≠ 0) :
    Calls Try.prog 8 #[.agg #[.int .u8 x0, .int .u8 x1, .int .u8 x2], .slice A1 l1.length c1, .agg (six q), .slice A3 l3.length c3] w fun e w' => e = .returned (.bool true) ∧ Below w.heap.size w w' := by
  have HR1 := Aside0.mk hr1
  have HC1 := Aside0.mk hc1
  have HHEAD := Aside0.mk hhead
  have HL := Aside0.mk hlim
  have HSEQ := Aside0.mk hseq
  have HJ0 := Aside0.mk hj0
  have HJ1 := Aside0.mk hj1
  have HCC := Aside0.mk hc
  clear hr1 hc1 hhead hlim hseq hj0 hj1 hc
  have B0 := Aside0.mk (blk_al (heap_alloc_new w (.cells #[.int .u8 x0, .int .u8 x1, .int .u8 x2] 51 (0, 0))) (.cells (six q) 59 (0, 0)))
  have BQ0 := Aside0.mk (heap_alloc_new (w.alloc (.cells #[.int .u8 x0, .int .u8 x1, .int .u8 x2] 51 (0, 0))) (.cells (six q) 59 (0, 0)))
  rw [World.size_alloc] at BQ0
  have HB0 := Aside0.mk (((Below.refl w.heap.size w).alloc (Nat.le_refl _) (.cells #[.int .u8 x0, .int .u8 x1, .int .u8 x2] 51 (0, 0))).alloc (by rw [World.size_alloc]; omega) (.cells (six q) 59 (0, 0)))
  go_enter Try.func8, Try.ntmps8
  go_upto_region 3 with (first
    | (go_at_call 31; refine (HHEAD.out _).mono ?_; rintro e_ wa ⟨rfl, hb⟩; have HBa := Aside0.mk (below_tr HB0.out hb); have Ba := Aside0.mk (blk_in B0.out hb); have BQa := Aside0.mk (blk_in BQ0.out hb); have c0 := (blk_cell Ba.out 0).trans rfl; have c1_ := (blk_cell Ba.out 1).trans rfl; have c2 := (blk_cell Ba.out 2).trans rfl; clear hb)
    | (go_at_call 42; refine (ambidexterlaw23_lim.calls x0 x1 x2 V A J _ HL.out).mono ?_; rintro e_ wb ⟨rfl, hb⟩; have HBb := Aside0.mk (below_tr HBa.out hb); have BQb := Aside0.mk (blk_in BQa.out hb); clear hb c0 c1_ c2)
    | (go_at_call 27; refine (timetable_Sequential.calls K V A J A1 c1 l1 t e _ (Kd.C_below HR1.out HBb.out) HC1.out HSEQ.out).mono ?_; rintro e_ wc ⟨v0, rfl, hS, hb⟩; have BQc := Aside0.mk (blk_in BQb.out hb); have HBc := Aside0.mk (below_tr HBb.out hb); obtain ⟨A7, c7, e7⟩ := Kd.S_slice hS; subst e7; clear hb hS))
  clear B0 BQ0 HB0 HBa Ba BQa HBb BQb
  by_cases c : 60 < l1.length
  · have d1 : decide ((60 : Int) < (l1.length : Int)) = true := decide_eq_true (by omega)
    have d1n : decide (60 < l1.length) = true := decide_eq_true c
    go_wp2
    go_ret
    exact ⟨rfl, HBc.out⟩
  have d1 : decide ((60 : Int) < (l1.length : Int)) = false := decide_eq_false (by omega)
  have d1n : decide (60 < l1.length) = false := decide_eq_false c
  by_cases c3_ : 60 < l3.length
  · have d3 : decide ((60 : Int) < (l3.length : Int)) = true := decide_eq_true (by omega)
    have d3n : decide (60 < l3.length) = true := decide_eq_true c3_
    go_wp2
    go_ret
    exact ⟨rfl, HBc.out⟩
  have d3 : decide ((60 : Int) < (l3.length : Int)) = false := decide_eq_false (by omega)
  have d3n : decide (60 < l3.length) = false := decide_eq_false c3_
  replace HCC := Aside0.mk ((HCC.out.resolve_left c).resolve_left c3_)
  clear c c3_
  obtain ⟨q0, q1, q2, q3, q4, q5⟩ := held6 BQc.out
  cases b0 with
  | false =>
    go_wp2_with (go_at_call 39; (with_reducible refine (ambidexterref23_Joints.calls (q 0) (q 1) (q 2) false _ HJ0.out).mono ?_); rintro e_ wd ⟨rfl, hb⟩; have HBd := Aside0.mk (below_tr HBc.out hb); clear hb)
    go_ret
    exact ⟨rfl, HBd.out⟩
  | true =>
    cases b1 with
    | false =>
      go_wp2_with (first
        | (go_at_call 39; (with_reducible refine (ambidexterref23_Joints.calls (q 0) (q 1) (q 2) true _ HJ0.out).mono ?_); rintro e_ wd ⟨rfl, hb⟩; clear q0 q1 q2 q3 q4 q5; obtain ⟨q0, q1, q2, q3, q4, q5⟩ := held6 (blk_in BQc.out hb); have HBd := Aside0.mk (below_tr HBc.out hb); clear hb)
        | (go_at_call 39; (with_reducible refine (ambidexterref23_Joints.calls (q 3) (q 4) (q 5) false _ HJ1.out).mono ?_); rintro e_ we ⟨rfl, hb⟩; have HBe := Aside0.mk (below_tr HBd.out hb); clear hb))
      go_ret
      exact ⟨rfl, HBe.out⟩
    | true =>
      have c2 : e ≠ 0 := by
        rcases HCC.out with h | h | h
        · cases h
        · cases h
        · exact h
      have d2 : (e != 0) = true := bne_iff_ne.mpr c2
      clear c2
      go_wp2_with (first
        | (go_at_call 39; (with_reducible refine (ambidexterref23_Joints.calls (q 0) (q 1) (q 2) true _ HJ0.out).mono ?_); rintro e_ wd ⟨rfl, hb⟩; clear q0 q1 q2 q3 q4 q5; obtain ⟨q0, q1, q2, q3, q4, q5⟩ := held6 (blk_in BQc.out hb); have HBd := Aside0.mk (below_tr HBc.out hb); clear hb)
        | (go_at_call 39; (with_reducible refine (ambidexterref23_Joints.calls (q 3) (q 4) (q 5) true _ HJ1.out).mono ?_); rintro e_ we ⟨rfl, hb⟩; have HBe := Aside0.mk (below_tr HBd.out hb); clear hb))
      go_ret
      exact ⟨rfl, HBe.out⟩
set_option maxRecDepth 100000 in
set_option maxHeartbeats 8000000 in
theorem reach_main (x0 x1 x2 V A J : Int) (A1 : Option Addr) (c1 : Nat) (l1 : List S63) (q : Nat → Int) (A3 : Option Addr) (c3 : Nat) (l3 : List Int) (w : World) (hr1 : Kd.C k63 w A1 l1.length l1) (hc1 : l1.length ≤ c1) (hr3 : Kd.C (Kd.int .u16) w A3 l3.length l3) (hc3 : l3.length ≤ c3) (hhead : ∀ w : World, Calls Try.prog 31 #[] w fun e w' => e = .returned (.bool true) ∧ Below w.heap.size w w')
    (hlim : ambidexterlaw23_lim.f x0 x1 x2 = some (V, A, J)) (K : Nat) (t : List S67) (hseq : timetable_Sequential.f K V A J l1 = some (t, 0)) (hts : t.length ≤ 1000) (hlen : ¬ 60 < l1.length) (hlen3 : ¬ 60 < l3.length) (hj0 : ambidexterref23_Joints.f (q 0) (q 1) (q 2) = some true) (hj1 : ambidexterref23_Joints.f (q 3) (q 4) (q 5) = some true) (hsmall : ambidexterlaw23_small.f K t = some true) (tot : Nat) (htot : tot ≤ 2000) (hdur : timetable_Duration.f K t = some (tot : Int))
    (P : Nat → Nat → Int) (hpos : ∀ T : Nat, T ≤ tot + 5 → timetable_PositionsAt.f (q 0) (q 1) (q 2) (q 3) (q 4) (q 5) t (T : Int) = some (P T 0, P T 1, P T 2, P T 3, P T 4, P T 5))
    (hp0 : ∀ i, i < 6 → P 0 i = wrap64 (12 * q i)) (hpn : ∀ i, i < 6 → P tot i = wrap64 (12 * mv q l1 i)) (hp5 : ∀ i, i < 6 → P (tot + 5) i = P tot i) (hv : ∀ i, i < l1.length → ∃ a k : Nat, a < 2 ∧ k < 3 ∧ (rd_T63 l1 i).f0 = a ∧ (rd_T63 l1 i).f1 = k)
    (hticks : ∀ n : Nat, n < l3.length → ∃ T : Nat, T ≤ tot ∧ Int.tmod (wrap64 (rd l3 (n : Int))) ((tot : Int) + 1) = T)
    (G : Nat → Nat → Int) (hG0 : ∀ i, i < 6 → G 0 i = q i) (hseg : ∀ k, k < t.length → SegOk P G tot t k) :
    Calls Try.prog 8 #[.agg #[.int .u8 x0, .int .u8 x1, .int .u8 x2], .slice A1 l1.length c1, .agg (six q), .slice A3 l3.length c3] w fun e w' => e = .returned (.bool true) ∧ Below w.heap.size w w' := by
  have HR1 := Aside0.mk hr1
  have HC1 := Aside0.mk hc1
  have HR3 := Aside0.mk hr3
  have HPOS := Aside0.mk hpos
  have HHEAD := Aside0.mk hhead
  have HL := Aside0.mk hlim
  have HSEQ := Aside0.mk hseq
  have HSM := Aside0.mk hsmall
  have HDUR := Aside0.mk hdur
  have HTOT := Aside0.mk htot
  have HJ0 := Aside0.mk hj0
  have HJ1 := Aside0.mk hj1
  have HP0 := Aside0.mk hp0
  have HPN := Aside0.mk hpn
  have HP5 := Aside0.mk hp5
  have HV := Aside0.mk hv
  have HTK := Aside0.mk hticks
  have HG0 := Aside0.mk hG0
  have HSEG := Aside0.mk hseg
  have HTS := Aside0.mk hts
  have HN1 := Aside0.mk (Nat.not_lt.1 hlen)
  have HN3 := Aside0.mk (Nat.not_lt.1 hlen3)
  have d1 : decide ((60 : Int) < (l1.length : Int)) = false := decide_eq_false (by omega)
  have d1n : decide (60 < l1.length) = false := decide_eq_false (by omega)
  have d3 : decide ((60 : Int) < (l3.length : Int)) = false := decide_eq_false (by omega)
  have d3n : decide (60 < l3.length) = false := decide_eq_false (by omega)
  clear hts hr1 hc1 hr3 hpos hhead hlim hseq hsmall hdur htot hlen hlen3 hj0 hj1 hp0 hpn hp5 hv hticks hG0 hseg
  have B0 := Aside0.mk (blk_al (heap_alloc_new w (.cells #[.int .u8 x0, .int .u8 x1, .int .u8 x2] 51 (0, 0))) (.cells (six q) 59 (0, 0)))
  have BQ0 := Aside0.mk (heap_alloc_new (w.alloc (.cells #[.int .u8 x0, .int .u8 x1, .int .u8 x2] 51 (0, 0))) (.cells (six q) 59 (0, 0)))
  rw [World.size_alloc] at BQ0
  have HB0 := Aside0.mk (((Below.refl w.heap.size w).alloc (Nat.le_refl _) (.cells #[.int .u8 x0, .int .u8 x1, .int .u8 x2] 51 (0, 0))).alloc (by rw [World.size_alloc]; omega) (.cells (six q) 59 (0, 0)))
  go_enter Try.func8, Try.ntmps8
  go_upto_region 8 with (first
    | (go_at_call 31; refine (HHEAD.out _).mono ?_; rintro e wa ⟨rfl, hb⟩; have HBa := Aside0.mk (below_tr HB0.out hb); have Ba := Aside0.mk (blk_in B0.out hb); have BQa := Aside0.mk (blk_in BQ0.out hb); have c0 := (blk_cell Ba.out 0).trans rfl; have c1_ := (blk_cell Ba.out 1).trans rfl; have c2 := (blk_cell Ba.out 2).trans rfl; clear hb)
    | (go_at_call 42; refine (ambidexterlaw23_lim.calls x0 x1 x2 V A J _ HL.out).mono ?_; rintro e wb ⟨rfl, hb⟩; have HBb := Aside0.mk (below_tr HBa.out hb); have BQb := Aside0.mk (blk_in BQa.out hb); clear hb c0 c1_ c2)
    | (go_at_call 27; refine (timetable_Sequential.calls K V A J A1 c1 l1 t 0 _ (Kd.C_below HR1.out HBb.out) HC1.out HSEQ.out).mono ?_; rintro e wc ⟨v0, rfl, hS, hb⟩; have BQc := Aside0.mk (blk_in BQb.out hb); have HBc := Aside0.mk (below_tr HBb.out hb); obtain ⟨A7, c7, e7⟩ := Kd.S_slice hS; subst e7; have CT := Aside0.mk (Kd.S_reads' hS).2.2; have LT := Aside0.mk (Kd.S_reads' hS).2.1; have q0 := (blk_cell BQc.out 0).trans rfl; have q1 := (blk_cell BQc.out 1).trans rfl; have q2 := (blk_cell BQc.out 2).trans rfl; clear hb hS)
    | (go_at_call 39; (with_reducible refine (ambidexterref23_Joints.calls (q 0) (q 1) (q 2) true _ HJ0.out).mono ?_); rintro e wd ⟨rfl, hb⟩; have BQd := Aside0.mk (blk_in BQc.out hb); have HBd := Aside0.mk (below_tr HBc.out hb); have CTd := Aside0.mk (Kd.C_below CT.out hb); clear hb q0 q1 q2; have q3 := (blk_cell BQd.out 3).trans rfl; have q4 := (blk_cell BQd.out 4).trans rfl; have q5 := (blk_cell BQd.out 5).trans rfl)
    | (go_at_call 39; refine (ambidexterref23_Joints.calls (q 3) (q 4) (q 5) true _ HJ1.out).mono ?_; rintro e we ⟨rfl, hb⟩; have BQe := Aside0.mk (blk_in BQd.out hb); have HBe := Aside0.mk (below_tr HBd.out hb); have CTe := Aside0.mk (Kd.C_below CTd.out hb); clear hb q3 q4 q5)
    | (go_at_call 43; refine (ambidexterlaw23_small.calls K A7 c7 t true _ CTe.out LT.out HSM.out).mono ?_; rintro e wf ⟨rfl, hb⟩; have BQf := Aside0.mk (blk_in BQe.out hb); have HBf := Aside0.mk (below_tr HBe.out hb); have CTf := Aside0.mk (Kd.C_below CTe.out hb); clear hb)
    | (go_at_call 29; refine (timetable_Duration.calls K A7 c7 t (tot : Int) _ CTf.out LT.out HDUR.out).mono ?_; rintro e wg ⟨rfl, hb⟩; have BQg := Aside0.mk (blk_in BQf.out hb); have HBg := Aside0.mk (below_tr HBf.out hb); have CTg := Aside0.mk (Kd.C_below CTf.out hb); clear hb))
  have E5 : wrap64 ((tot : Int) + 5) = ((tot + 5 : Nat) : Int) := by have := HTOT.out; unfold wrap64; omega
  have hA : timetable_PositionsAt.f (q 0) (q 1) (q 2) (q 3) (q 4) (q 5) t 0 = some ((wrap64 (12 * q 0)), (wrap64 (12 * q 1)), (wrap64 (12 * q 2)), (wrap64 (12 * q 3)), (wrap64 (12 * q 4)), (wrap64 (12 * q 5))) := by have h := HPOS.out 0 (by omega); rw [HP0.out 0 (by decide), HP0.out 1 (by decide), HP0.out 2 (by decide), HP0.out 3 (by decide), HP0.out 4 (by decide), HP0.out 5 (by decide)] at h; exact h
  have hN : timetable_PositionsAt.f (q 0) (q 1) (q 2) (q 3) (q 4) (q 5) t (tot : Int) = some ((wrap64 (12 * mv q l1 0)), (wrap64 (12 * mv q l1 1)), (wrap64 (12 * mv q l1 2)), (wrap64 (12 * mv q l1 3)), (wrap64 (12 * mv q l1 4)), (wrap64 (12 * mv q l1 5))) := by have h := HPOS.out tot (by omega); rw [HPN.out 0 (by decide), HPN.out 1 (by decide), HPN.out 2 (by decide), HPN.out 3 (by decide), HPN.out 4 (by decide), HPN.out 5 (by decide)] at h; exact h
  have h5 : timetable_PositionsAt.f (q 0) (q 1) (q 2) (q 3) (q 4) (q 5) t (wrap64 ((tot : Int) + 5)) = some ((P tot 0), (P tot 1), (P tot 2), (P tot 3), (P tot 4), (P tot 5)) := by have h := HPOS.out (tot + 5) (by omega); rw [HP5.out 0 (by decide), HP5.out 1 (by decide), HP5.out 2 (by decide), HP5.out 3 (by decide), HP5.out 4 (by decide), HP5.out 5 (by decide)] at h; rw [E5]; exact h
  have CT8 := Aside0.mk (Kd.C_drew CTg.out)
  have BQ8 := Aside0.mk (blk_drew BQg.out)
  have HB8 := Aside0.mk (below_drew1 HBg.out)
  clear BQ0 BQa BQb BQc BQd BQe BQf BQg B0 Ba HB0 HBa HBb HBc HBd HBe HBf HBg CT CTd CTe CTf CTg d1 d1n d3 d3n
  refine start_ (n := 29) (S := fun w' => w'.cell? ⟨w.heap.size + 1, 0, none⟩ = some (.int .i64 (q 0)) ∧ w'.cell? ⟨w.heap.size + 1, 1, none⟩ = some (.int .i64 (q 1)) ∧ w'.cell? ⟨w.heap.size + 1, 2, none⟩ = some (.int .i64 (q 2)) ∧ w'.cell? ⟨w.heap.size + 1, 3, none⟩ = some (.int .i64 (q 3)) ∧ w'.cell? ⟨w.heap.size + 1, 4, none⟩ = some (.int .i64 (q 4)) ∧ w'.cell? ⟨w.heap.size + 1, 5, none⟩ = some (.int .i64 (q 5))) (ds := []) #[O,O,O,O,O,O,O,O,O,O,O,O,O,O,O,O,O,O,O,O,O,O,O,O,O,O,O,O,O] (by kernel_rfl) rfl rfl (held6 BQ8.out) (fun hHeld => ?_)
  generalize wg.drew = wz at hHeld BQ8 HB8 CT8 ⊢
  refine pk_ (i := 1) (N := some 68) #[O,I,O,O,O,O,O,O,O,O,O,O,O,O,O,O,O,O,O,O,O,O,O,O,O,O,O,O,O] ?_
  refine tk_ (i := 0) (N := some 67) #[I,I,O,O,O,O,O,O,O,O,O,O,O,O,O,O,O,O,O,O,O,O,O,O,O,O,O,O,O] hHeld ?_
  refine tk_ (i := 3) (N := some 70) #[I,I,O,I,O,O,O,O,O,O,O,O,O,O,O,O,O,O,O,O,O,O,O,O,O,O,O,O,O] hHeld ?_
  refine one_ (i := 2) (N := some 69) #[I,I,I,I,O,O,O,O,O,O,O,O,O,O,O,O,O,O,O,O,O,O,O,O,O,O,O,O,O] rfl rfl (by kernel_rfl) (by decide) (fun K_ hK => ?_)
  refine goes_ Try.func30 (by kernel_rfl) rfl #[.agg (six q), .slice A7 t.length c7, .int .i64 0] (by rfl) rfl rfl (by (try simp only [List.map_toArray, List.map_cons, List.map_nil]); first | done | rfl) ?_
  with_reducible refine (timetable_PositionsAt.calls (q 0) (q 1) (q 2) (q 3) (q 4) (q 5) A7 c7 t 0 (wrap64 (12 * q 0)) (wrap64 (12 * q 1)) (wrap64 (12 * q 2)) (wrap64 (12 * q 3)) (wrap64 (12 * q 4)) (wrap64 (12 * q 5)) _ CT8.out LT.out hA).mono ?_
  rintro e wz ⟨rfl, hb⟩
  refine ⟨_, rfl, ?_⟩
  replace BQ8 := Aside0.mk (blk_in BQ8.out hb)
  replace HB8 := Aside0.mk (below_tr HB8.out hb)
  replace CT8 := Aside0.mk (Kd.C_below CT8.out hb)
  clear hb
  refine hK.out _ _ (held6 BQ8.out) (fun hHeld => ?_)
  clear hK K_
  refine norm_ (a' := ?_) ?_ ?_
  rotate_left
  · (show Act.put _ (some 69) _ = _; simp only [Act.put, List.setIfInBounds_toArray, List.set_cons_zero, List.set_cons_succ, i64_w, i32_w]; rfl)
  refine one_ (i := 4) (N := some 71) #[I,I,I,I,I,O,O,O,O,O,O,O,O,O,O,O,O,O,O,O,O,O,O,O,O,O,O,O,O] rfl rfl (by kernel_rfl) (by decide) (fun K_ hK => ?_)
  refine goes_ Try.func44 (by kernel_rfl) rfl #[.agg (six q)] (by rfl) rfl rfl (by (try simp only [List.map_toArray, List.map_cons, List.map_nil]); first | done | rfl) ?_
  with_reducible refine (counts_run q _).mono ?_
  rintro e wz ⟨rfl, hb⟩
  refine ⟨_, rfl, ?_⟩
  replace BQ8 := Aside0.mk (blk_in BQ8.out hb)
  replace HB8 := Aside0.mk (below_tr HB8.out hb)
  replace CT8 := Aside0.mk (Kd.C_below CT8.out hb)
  clear hb
  refine hK.out _ _ (held6 BQ8.out) (fun hHeld => ?_)
  clear hK K_
  refine norm_ (a' := ?_) ?_ ?_
  rotate_left
  · (show Act.put _ (some 71) _ = _; simp only [Act.put, List.setIfInBounds_toArray, List.set_cons_zero, List.set_cons_succ, i64_w, i32_w]; rfl)
  refine pk_ (i := 5) (N := some 72) #[I,I,I,I,I,I,O,O,O,O,O,O,O,O,O,O,O,O,O,O,O,O,O,O,O,O,O,O,O] ?_
  refine pk_ (i := 6) (N := some 73) #[I,I,I,I,I,I,I,O,O,O,O,O,O,O,O,O,O,O,O,O,O,O,O,O,O,O,O,O,O] ?_
  refine pk_ (i := 8) (N := some 75) #[I,I,I,I,I,I,I,O,I,O,O,O,O,O,O,O,O,O,O,O,O,O,O,O,O,O,O,O,O] ?_
  refine pk_ (i := 9) (N := some 76) #[I,I,I,I,I,I,I,O,I,I,O,O,O,O,O,O,O,O,O,O,O,O,O,O,O,O,O,O,O] ?_
  refine pk_ (i := 12) (N := some 79) #[I,I,I,I,I,I,I,O,I,I,O,O,I,O,O,O,O,O,O,O,O,O,O,O,O,O,O,O,O] ?_
  refine tk_ (i := 7) (N := some 74) #[I,I,I,I,I,I,I,I,I,I,O,O,I,O,O,O,O,O,O,O,O,O,O,O,O,O,O,O,O] hHeld ?_
  refine tk_ (i := 11) (N := some 78) #[I,I,I,I,I,I,I,I,I,I,O,I,I,O,O,O,O,O,O,O,O,O,O,O,O,O,O,O,O] hHeld ?_
  refine one_ (i := 10) (N := some 77) #[I,I,I,I,I,I,I,I,I,I,I,I,I,O,O,O,O,O,O,O,O,O,O,O,O,O,O,O,O] rfl rfl (by kernel_rfl) (by decide) (fun K_ hK => ?_)
  refine goes_ Try.func30 (by kernel_rfl) rfl #[.agg (six q), .slice A7 t.length c7, .int .i64 (tot : Int)] (by rfl) rfl rfl (by (try simp only [List.map_toArray, List.map_cons, List.map_nil]); first | done | rfl) ?_
  with_reducible refine (timetable_PositionsAt.calls (q 0) (q 1) (q 2) (q 3) (q 4) (q 5) A7 c7 t (tot : Int) (wrap64 (12 * mv q l1 0)) (wrap64 (12 * mv q l1 1)) (wrap64 (12 * mv q l1 2)) (wrap64 (12 * mv q l1 3)) (wrap64 (12 * mv q l1 4)) (wrap64 (12 * mv q l1 5)) _ CT8.out LT.out hN).mono ?_
  rintro e wz ⟨rfl, hb⟩
  refine ⟨_, rfl, ?_⟩
  replace BQ8 := Aside0.mk (blk_in BQ8.out hb)
  replace HB8 := Aside0.mk (below_tr HB8.out hb)
  replace CT8 := Aside0.mk (Kd.C_below CT8.out hb)
  clear hb
  refine hK.out _ _ (held6 BQ8.out) (fun hHeld => ?_)
  clear hK K_
  refine norm_ (a' := ?_) ?_ ?_
  rotate_left
  · (show Act.put _ (some 77) _ = _; simp only [Act.put, List.setIfInBounds_toArray, List.set_cons_zero, List.set_cons_succ, i64_w, i32_w]; rfl)
  refine one_ (i := 13) (N := some 80) #[I,I,I,I,I,I,I,I,I,I,I,I,I,I,O,O,O,O,O,O,O,O,O,O,O,O,O,O,O] rfl rfl (by kernel_rfl) (by decide) (fun K_ hK => ?_)
  refine goes_ Try.func45 (by kernel_rfl) rfl #[.agg (six q), .slice A1 l1.length c1] (by rfl) rfl rfl (by (try simp only [List.map_toArray, List.map_cons, List.map_nil]); first | done | rfl) ?_
  with_reducible refine (moved_run q A1 c1 l1 _ (Kd.C_below HR1.out HB8.out) HC1.out HV.out (by have := HN1.out; omega)).mono ?_
  rintro e wz ⟨rfl, hb⟩
  refine ⟨_, rfl, ?_⟩
  replace BQ8 := Aside0.mk (blk_in BQ8.out hb)
  replace HB8 := Aside0.mk (below_tr HB8.out hb)
  replace CT8 := Aside0.mk (Kd.C_below CT8.out hb)
  clear hb
  refine hK.out _ _ (held6 BQ8.out) (fun hHeld => ?_)
  clear hK K_
  refine norm_ (a' := ?_) ?_ ?_
  rotate_left
  · (show Act.put _ (some 80) _ = _; simp only [Act.put, List.setIfInBounds_toArray, List.set_cons_zero, List.set_cons_succ, i64_w, i32_w]; rfl)
  refine one_ (i := 14) (N := some 81) #[I,I,I,I,I,I,I,I,I,I,I,I,I,I,I,O,O,O,O,O,O,O,O,O,O,O,O,O,O] rfl rfl (by kernel_rfl) (by decide) (fun K_ hK => ?_)
  refine goes_ Try.func44 (by kernel_rfl) rfl #[.agg (six (mv q l1))] (by rfl) rfl rfl (by (try simp only [List.map_toArray, List.map_cons, List.map_nil]); first | done | rfl) ?_
  with_reducible refine (counts_run (mv q l1) _).mono ?_
  rintro e wz ⟨rfl, hb⟩
  refine ⟨_, rfl, ?_⟩
  replace BQ8 := Aside0.mk (blk_in BQ8.out hb)
  replace HB8 := Aside0.mk (below_tr HB8.out hb)
  replace CT8 := Aside0.mk (Kd.C_below CT8.out hb)
  clear hb
  refine hK.out _ _ (held6 BQ8.out) (fun hHeld => ?_)
  clear hK K_
  refine norm_ (a' := ?_) ?_ ?_
  rotate_left
  · (show Act.put _ (some 81) _ = _; simp only [Act.put, List.setIfInBounds_toArray, List.set_cons_zero, List.set_cons_succ, i64_w, i32_w]; rfl)
  refine pk_ (i := 15) (N := some 82) #[I,I,I,I,I,I,I,I,I,I,I,I,I,I,I,I,O,O,O,O,O,O,O,O,O,O,O,O,O] ?_
  refine pk_ (i := 16) (N := some 83) #[I,I,I,I,I,I,I,I,I,I,I,I,I,I,I,I,I,O,O,O,O,O,O,O,O,O,O,O,O] ?_
  refine pk_ (i := 17) (N := some 84) #[I,I,I,I,I,I,I,I,I,I,I,I,I,I,I,I,I,I,O,O,O,O,O,O,O,O,O,O,O] ?_
  refine pk_ (i := 19) (N := some 86) #[I,I,I,I,I,I,I,I,I,I,I,I,I,I,I,I,I,I,O,I,O,O,O,O,O,O,O,O,O] ?_
  refine pk_ (i := 20) (N := some 87) #[I,I,I,I,I,I,I,I,I,I,I,I,I,I,I,I,I,I,O,I,I,O,O,O,O,O,O,O,O] ?_
  refine pk_ (i := 21) (N := some 88) #[I,I,I,I,I,I,I,I,I,I,I,I,I,I,I,I,I,I,O,I,I,I,O,O,O,O,O,O,O] ?_
  refine pk_ (i := 24) (N := some 91) #[I,I,I,I,I,I,I,I,I,I,I,I,I,I,I,I,I,I,O,I,I,I,O,O,I,O,O,O,O] ?_
  refine pk_ (i := 25) (N := some 92) #[I,I,I,I,I,I,I,I,I,I,I,I,I,I,I,I,I,I,O,I,I,I,O,O,I,I,O,O,O] ?_
  refine tk_ (i := 18) (N := some 85) #[I,I,I,I,I,I,I,I,I,I,I,I,I,I,I,I,I,I,I,I,I,I,O,O,I,I,O,O,O] hHeld ?_
  refine tk_ (i := 23) (N := some 90) #[I,I,I,I,I,I,I,I,I,I,I,I,I,I,I,I,I,I,I,I,I,I,O,I,I,I,O,O,O] hHeld ?_
  refine one_ (i := 22) (N := some 89) #[I,I,I,I,I,I,I,I,I,I,I,I,I,I,I,I,I,I,I,I,I,I,I,I,I,I,O,O,O] rfl rfl (by kernel_rfl) (by decide) (fun K_ hK => ?_)
  refine goes_ Try.func30 (by kernel_rfl) rfl #[.agg (six q), .slice A7 t.length c7, .int .i64 (wrap64 ((tot : Int) + 5))] (by rfl) rfl rfl (by (try simp only [List.map_toArray, List.map_cons, List.map_nil]); first | done | rfl) ?_
  with_reducible refine (timetable_PositionsAt.calls (q 0) (q 1) (q 2) (q 3) (q 4) (q 5) A7 c7 t (wrap64 ((tot : Int) + 5)) (P tot 0) (P tot 1) (P tot 2) (P tot 3) (P tot 4) (P tot 5) _ CT8.out LT.out h5).mono ?_
  rintro e wz ⟨rfl, hb⟩
  refine ⟨_, rfl, ?_⟩
  replace BQ8 := Aside0.mk (blk_in BQ8.out hb)
  replace HB8 := Aside0.mk (below_tr HB8.out hb)
  replace CT8 := Aside0.mk (Kd.C_below CT8.out hb)
  clear hb
  refine hK.out _ _ (held6 BQ8.out) (fun hHeld => ?_)
  clear hK K_
  refine norm_ (a' := ?_) ?_ ?_
  rotate_left
  · (show Act.put _ (some 89) _ = _; simp only [Act.put, List.setIfInBounds_toArray, List.set_cons_zero, List.set_cons_succ, i64_w, i32_w]; rfl)
  refine one_ (i := 26) (N := some 93) #[I,I,I,I,I,I,I,I,I,I,I,I,I,I,I,I,I,I,I,I,I,I,I,I,I,I,I,O,O] rfl rfl (by kernel_rfl) (by decide) (fun K_ hK => ?_)
  refine goes_ Try.func30 (by kernel_rfl) rfl #[.agg (six q), .slice A7 t.length c7, .int .i64 (tot : Int)] (by rfl) rfl rfl (by (try simp only [List.map_toArray, List.map_cons, List.map_nil]); first | done | rfl) ?_
  with_reducible refine (timetable_PositionsAt.calls (q 0) (q 1) (q 2) (q 3) (q 4) (q 5) A7 c7 t (tot : Int) (P tot 0) (P tot 1) (P tot 2) (P tot 3) (P tot 4) (P tot 5) _ CT8.out LT.out (HPOS.out tot (by omega))).mono ?_
  rintro e wz ⟨rfl, hb⟩
  refine ⟨_, rfl, ?_⟩
  replace BQ8 := Aside0.mk (blk_in BQ8.out hb)
  replace HB8 := Aside0.mk (below_tr HB8.out hb)
  replace CT8 := Aside0.mk (Kd.C_below CT8.out hb)
  clear hb
  refine hK.out _ _ (held6 BQ8.out) (fun hHeld => ?_)
  clear hK K_
  refine norm_ (a' := ?_) ?_ ?_
  rotate_left
  · (show Act.put _ (some 93) _ = _; simp only [Act.put, List.setIfInBounds_toArray, List.set_cons_zero, List.set_cons_succ, i64_w, i32_w]; rfl)
  refine pk_ (i := 27) (N := some 94) #[I,I,I,I,I,I,I,I,I,I,I,I,I,I,I,I,I,I,I,I,I,I,I,I,I,I,I,I,O] ?_
  refine pk_ (i := 28) (N := some 95) #[I,I,I,I,I,I,I,I,I,I,I,I,I,I,I,I,I,I,I,I,I,I,I,I,I,I,I,I,I] ?_
  refine done_ (by kernel_rfl) ?_
  clear hA hN h5 E5 hHeld
  go_wp2
  have E1 : wrap64 ((tot : Int) + 1) = (tot : Int) + 1 := by have := HTOT.out; unfold wrap64; omega
  have E2 : (((tot : Int) + 1) == 0) = false := beq_eq_false_iff_ne.mpr (by omega)
  have HL := Aside0.mk (show w.heap.size + 1 < wz.heap.size from (Array.getElem?_eq_some_iff.1 BQ8.out).1)
  have HZ0 := Aside0.mk (Below.refl wz.heap.size wz)
  go_loopw [13] (fun i wr => ∃ n : Nat, i = .int .i64 n ∧ n ≤ l3.length ∧ Aside0 (Below wz.heap.size wz wr))
    (fun i _ => l3.length - (intOf i).toNat)
  case atStart => exact ⟨0, rfl, by omega, HZ0⟩
  case round =>
    obtain ⟨n, rfl, hn, HZ⟩ := hrel
    clear HZ0
    by_cases h3 : n < l3.length
    · have d3 : decide ((n : Int) < (l3.length : Int)) = true := decide_eq_true (by omega)
      have i3 : (n : Int) < (l3.length : Int) := by omega
      have H3 := Aside0.mk h3
      obtain ⟨T, hT, eT⟩ := HTK.out n h3
      have HT := Aside0.mk hT
      obtain ⟨ad, eA, z0⟩ := Kd.at_int HR3.out (n : Int) (by omega) i3
      replace z0 := ((below_tr HB8.out HZ.out).cell (World.block_lt_of_cell? w _ z0)).trans z0
      subst eA
      rw [Int.toNat_natCast] at z0
      obtain ⟨q0, q1, q2, q3, q4, q5⟩ := held6 (blk_in BQ8.out HZ.out)
      clear h3 hT
      go_wp2_with (go_at_call 30; (with_reducible refine (timetable_PositionsAt.calls (q 0) (q 1) (q 2) (q 3) (q 4) (q 5) A7 c7 t (T : Int) (P T 0) (P T 1) (P T 2) (P T 3) (P T 4) (P T 5) _ (Kd.C_below CT8.out HZ.out) LT.out (HPOS.out T (by have := HT.out; omega))).mono ?_); rintro e wh ⟨rfl, hb⟩; clear q0 q1 q2 q3 q4 q5 z0; have HZh := Aside0.mk (below_tr HZ.out hb); clear hb; obtain ⟨q0, q1, q2, q3, q4, q5⟩ := held6 (blk_al (blk_in BQ8.out HZh.out) (.cells (six (P T)) 69 (0, 0))))
      have GE := Aside0.mk (show wz.heap.size ≤ wh.heap.size from HZh.out.size)
      have X0 := Aside0.mk (blk_al (heap_alloc_new wh (.cells (six (P T)) 69 (0, 0))) (.cells (six (G 0)) 59 (0, 0)))
      have X1 := Aside0.mk (heap_alloc_new (wh.alloc (.cells (six (P T)) 69 (0, 0))) (.cells (six (G 0)) 59 (0, 0)))
      rw [World.size_alloc] at X1
      have X2 := Aside0.mk ((HZh.out.alloc HZh.out.size (.cells (six (P T)) 69 (0, 0))).alloc (HZh.out.alloc HZh.out.size (.cells (six (P T)) 69 (0, 0))).size (.cells (six (G 0)) 59 (0, 0)))
      rw [six_congr HG0.out] at X0 X1 X2
      clear q0 q1 q2 q3 q4 q5 HZ HZh d3 i3 eT
      go_loopw [17] (fun i wr => ∃ k : Nat, i = .int .i64 k ∧ k ≤ t.length ∧ Aside0 (wr.heap[wh.heap.size]? = some (.cells (six (P T)) 69 (0, 0))) ∧ Aside0 (wr.heap[wh.heap.size + 1]? = some (.cells (six (G k)) 59 (0, 0))) ∧ Aside0 (Below wz.heap.size wz wr))
        (fun i _ => t.length - (intOf i).toNat)
      case atStart => exact ⟨0, rfl, by omega, X0, ⟨by rw [six_congr HG0.out]; exact X1.out⟩, X2⟩
      case round =>
        obtain ⟨k, rfl, hk, BX, BA, HZ⟩ := hrel
        clear X0 X1 X2
        by_cases h4 : k < t.length
        · have d4 : decide ((k : Int) < (t.length : Int)) = true := decide_eq_true (by omega)
          have i4 : (k : Int) < (t.length : Int) := by omega
          have H4 := Aside0.mk h4
          obtain ⟨a, j, s, N, ha, hj, hsN, ea, ej, es, eN, hG, hin⟩ := (HSEG.out k h4).ex
          have HIN := Aside0.mk (hin T HT.out)
          have HG := Aside0.mk hG
          have HSN := Aside0.mk hsN
          have Hi6 := Aside0.mk (show a * 3 + j < 6 by omega)
          have i1 : (a : Int) < 2 := by omega
          have i2 : (j : Int) < 3 := by omega
          obtain ⟨ad2, A5, c5, eA, s0, s1, s2, s3, s4, s5, rest⟩ := at_T67 CT8.out (k : Int) (by omega) i4
          subst eA
          rw [Int.toNat_natCast] at s0 s1 s2 s3 s4 s5
          rw [ea] at s0
          rw [ej] at s1
          rw [es] at s4
          rw [eN] at s5
          generalize (rd_T67 t k).f0.f0.f2 = by_ at s2 HG
          generalize (rd_T67 t k).f0.f1 = nn at s3 HG
          have KS4 := Aside0.mk s4
          have KS5 := Aside0.mk s5
          clear h4 ea ej es eN hin hG hsN rest s4 s5
          replace s0 := (HZ.out.cell (World.block_lt_of_cell? wz _ s0)).trans s0
          replace s1 := (HZ.out.cell (World.block_lt_of_cell? wz _ s1)).trans s1
          replace s2 := (HZ.out.cell (World.block_lt_of_cell? wz _ s2)).trans s2
          replace s3 := (HZ.out.cell (World.block_lt_of_cell? wz _ s3)).trans s3
          have GEr := Aside0.mk (show wz.heap.size ≤ wr.heap.size from HZ.out.size)
          have HLA := Aside0.mk (show wh.heap.size + 1 < wr.heap.size from (Array.getElem?_eq_some_iff.1 BA.out).1)
          obtain ⟨g0, g1, g2, g3, g4, g5⟩ := held6 (blk_al BA.out (.cells #[.int .i64 (a : Int), .int .i64 (j : Int), .int .i64 by_, .int .i64 nn] 65 (0, 0)))
          go_upto_region 21 with (go_at_call 44; (with_reducible refine (counts_run (G k) _).mono ?_); rintro e wi ⟨rfl, hb⟩; clear g0 g1 g2 g3 g4 g5 s0 s1 s2 s3; have HZi := Aside0.mk ((below_al HZ.out hb).alloc (below_al HZ.out hb).size (.cells (six fun i => wrap64 (12 * G k i)) 69 (0, 0))); have BFi := Aside0.mk (heap_alloc_new wi (.cells (six fun i => wrap64 (12 * G k i)) 69 (0, 0))); have BMi := Aside0.mk (blk_al (blk_in (heap_alloc_new wr (.cells #[.int .i64 (a : Int), .int .i64 (j : Int), .int .i64 by_, .int .i64 nn] 65 (0, 0))) hb) (.cells (six fun i => wrap64 (12 * G k i)) 69 (0, 0))); have BXi := Aside0.mk (blk_al (blk_in (blk_al BX.out _) hb) (.cells (six fun i => wrap64 (12 * G k i)) 69 (0, 0))); have BAi := Aside0.mk (blk_al (blk_in (blk_al BA.out _) hb) (.cells (six fun i => wrap64 (12 * G k i)) 69 (0, 0))); have GEi := Aside0.mk (show wr.heap.size < wi.heap.size from by have := hb.size; rw [World.size_alloc] at this; omega); clear hb)
          replace BMi := Aside0.mk (blk_drew BMi.out)
          replace BXi := Aside0.mk (blk_drew BXi.out)
          replace BAi := Aside0.mk (blk_drew BAi.out)
          replace BFi := Aside0.mk (blk_drew BFi.out)
          replace HZi := Aside0.mk (below_drew1 HZi.out)
          refine start_ (n := 25) (S := fun w' => w'.cell? ⟨wr.heap.size, 0, none⟩ = some (.int .i64 (a : Int)) ∧ w'.cell? ⟨wr.heap.size, 1, none⟩ = some (.int .i64 (j : Int)) ∧ w'.cell? ⟨wr.heap.size, 2, none⟩ = some (.int .i64 by_) ∧ w'.cell? ⟨wr.heap.size, 3, none⟩ = some (.int .i64 nn) ∧ w'.cell? ⟨wh.heap.size + 1, a * 3 + j, none⟩ = some (.int .i64 (G k (a * 3 + j)))) (ds := [24]) #[O,O,O,O,O,O,O,O,O,O,O,O,O,O,O,O,O,O,O,O,O,O,O,O,O] (by kernel_rfl) rfl rfl ⟨(held4 BMi.out).1, (held4 BMi.out).2.1, (held4 BMi.out).2.2.1, (held4 BMi.out).2.2.2, (blk_cell BAi.out _).trans (get6 _ Hi6.out)⟩ (fun hHeld => ?_)
          generalize (wi.alloc (.cells (six fun i => wrap64 (12 * G k i)) 69 (0, 0))).drew = wj at hHeld BMi BXi BAi BFi HZi ⊢
          refine pk_ (i := 0) (N := some 128) #[I,O,O,O,O,O,O,O,O,O,O,O,O,O,O,O,O,O,O,O,O,O,O,O,O] ?_
          refine pk_ (i := 1) (N := some 129) #[I,I,O,O,O,O,O,O,O,O,O,O,O,O,O,O,O,O,O,O,O,O,O,O,O] ?_
          refine pk_ (i := 3) (N := some 131) #[I,I,O,I,O,O,O,O,O,O,O,O,O,O,O,O,O,O,O,O,O,O,O,O,O] ?_
          refine pk_ (i := 4) (N := some 132) #[I,I,O,I,I,O,O,O,O,O,O,O,O,O,O,O,O,O,O,O,O,O,O,O,O] ?_
          refine pk_ (i := 6) (N := some 134) #[I,I,O,I,I,O,I,O,O,O,O,O,O,O,O,O,O,O,O,O,O,O,O,O,O] ?_
          refine pk_ (i := 7) (N := some 135) #[I,I,O,I,I,O,I,I,O,O,O,O,O,O,O,O,O,O,O,O,O,O,O,O,O] ?_
          refine pk_ (i := 9) (N := some 137) #[I,I,O,I,I,O,I,I,O,I,O,O,O,O,O,O,O,O,O,O,O,O,O,O,O] ?_
          refine pk_ (i := 10) (N := some 138) #[I,I,O,I,I,O,I,I,O,I,I,O,O,O,O,O,O,O,O,O,O,O,O,O,O] ?_
          refine pk_ (i := 15) (N := some 143) #[I,I,O,I,I,O,I,I,O,I,I,O,O,O,O,I,O,O,O,O,O,O,O,O,O] ?_
          refine pk_ (i := 16) (N := some 144) #[I,I,O,I,I,O,I,I,O,I,I,O,O,O,O,I,I,O,O,O,O,O,O,O,O] ?_
          refine pk_ (i := 18) (N := some 146) #[I,I,O,I,I,O,I,I,O,I,I,O,O,O,O,I,I,O,I,O,O,O,O,O,O] ?_
          refine tk_ (i := 2) (N := some 130) #[I,I,I,I,I,O,I,I,O,I,I,O,O,O,O,I,I,O,I,O,O,O,O,O,O] hHeld ?_
          refine pk_ (i := 22) (N := some 150) #[I,I,I,I,I,O,I,I,O,I,I,O,O,O,O,I,I,O,I,O,O,O,I,O,O] ?_
          refine tk_ (i := 5) (N := some 133) #[I,I,I,I,I,I,I,I,O,I,I,O,O,O,O,I,I,O,I,O,O,O,I,O,O] hHeld ?_
          refine tk_ (i := 8) (N := some 136) #[I,I,I,I,I,I,I,I,I,I,I,O,O,O,O,I,I,O,I,O,O,O,I,O,O] hHeld ?_
          refine pk_ (i := 12) (N := some 140) #[I,I,I,I,I,I,I,I,I,I,I,O,I,O,O,I,I,O,I,O,O,O,I,O,O] ?_
          refine tk_ (i := 11) (N := some 139) #[I,I,I,I,I,I,I,I,I,I,I,I,I,O,O,I,I,O,I,O,O,O,I,O,O] hHeld ?_
          refine pk_ (i := 13) (N := some 141) #[I,I,I,I,I,I,I,I,I,I,I,I,I,I,O,I,I,O,I,O,O,O,I,O,O] ?_
          refine tk_ (i := 14) (N := some 142) #[I,I,I,I,I,I,I,I,I,I,I,I,I,I,I,I,I,O,I,O,O,O,I,O,O] hHeld ?_
          refine tk_ (i := 17) (N := some 145) #[I,I,I,I,I,I,I,I,I,I,I,I,I,I,I,I,I,I,I,O,O,O,I,O,O] hHeld ?_
          refine tk_ (i := 19) (N := some 147) #[I,I,I,I,I,I,I,I,I,I,I,I,I,I,I,I,I,I,I,I,O,O,I,O,O] hHeld ?_
          refine pk_ (i := 20) (N := some 148) #[I,I,I,I,I,I,I,I,I,I,I,I,I,I,I,I,I,I,I,I,I,O,I,O,O] ?_
          refine pk_ (i := 21) (N := some 149) #[I,I,I,I,I,I,I,I,I,I,I,I,I,I,I,I,I,I,I,I,I,I,I,O,O] ?_
          refine pk_ (i := 23) (N := some 151) #[I,I,I,I,I,I,I,I,I,I,I,I,I,I,I,I,I,I,I,I,I,I,I,I,O] ?_
          refine last_ (i := 24) (N := none) #[I,I,I,I,I,I,I,I,I,I,I,I,I,I,I,I,I,I,I,I,I,I,I,I,I] rfl rfl (by kernel_rfl) (by decide) (fun K_ hK => ?_)
          have hs16 := hHeld.2.2.2.2
          have hf16 := blk_frozen BAi.out (a * 3 + j)
          refine skip_ (w1 := ?_) (by rfl) rfl ?_ ?_
          rotate_left
          · go_simp
            rfl
          have f1 := Aside0.mk (blk_far2 (j := a * 3 + j) (u := .int .i64 (wrap64 (G k (a * 3 + j) + wrap64 (by_ * nn)))) BMi.out (show wr.heap.size ≠ wh.heap.size + 1 by have := HLA.out; omega))
          have f2 := Aside0.mk (blk_far2 (j := a * 3 + j) (u := .int .i64 (wrap64 (G k (a * 3 + j) + wrap64 (by_ * nn)))) BXi.out (show wh.heap.size ≠ wh.heap.size + 1 by omega))
          have f3 := Aside0.mk (blk_far2 (j := a * 3 + j) (u := .int .i64 (wrap64 (G k (a * 3 + j) + wrap64 (by_ * nn)))) BFi.out (show wi.heap.size ≠ wh.heap.size + 1 by have := HLA.out; have := GEi.out; omega))
          have f4 := Aside0.mk (below_set (j := a * 3 + j) (v := .int .i64 (wrap64 (G k (a * 3 + j) + wrap64 (by_ * nn)))) HZi.out (show wz.heap.size ≤ wh.heap.size + 1 by have := GE.out; omega))
          have f5 := Aside0.mk (blk_set BAi.out (a * 3 + j) (.int .i64 (wrap64 (G k (a * 3 + j) + wrap64 (by_ * nn)))))
          rw [set6 _ Hi6.out, six_congr (fun i hi => (HG.out i hi).symm)] at f5
          refine hK.out _ _ ?_
          clear hK K_ hs16 hf16 hHeld BMi BXi BAi BFi HZi
          generalize wj.setCell ⟨wh.heap.size + 1, a * 3 + j, none⟩ (.int .i64 (wrap64 (G k (a * 3 + j) + wrap64 (by_ * nn)))) = wk at f1 f2 f3 f4 f5 ⊢
          refine done_ (by kernel_rfl) ?_
          obtain ⟨g0, g1, g2, g3, g4, g5⟩ := held6 f5.out
          go_upto_region 23 with (go_at_call 44; (with_reducible refine (counts_run (G (k + 1)) _).mono ?_); rintro e wl ⟨rfl, hb⟩; clear g0 g1 g2 g3 g4 g5; have BM := Aside0.mk (blk_al (blk_in f1.out hb) (.cells (six fun i => wrap64 (12 * G (k + 1) i)) 69 (0, 0))); have BX := Aside0.mk (blk_al (blk_in f2.out hb) (.cells (six fun i => wrap64 (12 * G (k + 1) i)) 69 (0, 0))); have BF := Aside0.mk (blk_al (blk_in f3.out hb) (.cells (six fun i => wrap64 (12 * G (k + 1) i)) 69 (0, 0))); have BA := Aside0.mk (blk_al (blk_in f5.out hb) (.cells (six fun i => wrap64 (12 * G (k + 1) i)) 69 (0, 0))); have BT := Aside0.mk (heap_alloc_new wl (.cells (six fun i => wrap64 (12 * G (k + 1) i)) 69 (0, 0))); have HZ := Aside0.mk ((below_tr f4.out hb).alloc (below_tr f4.out hb).size (.cells (six fun i => wrap64 (12 * G (k + 1) i)) 69 (0, 0))); have GEl := Aside0.mk (Nat.lt_of_lt_of_le (Array.getElem?_eq_some_iff.1 f3.out).1 hb.size); clear hb f1 f2 f3 f4 f5)
          have NEXT : wrap64 ((k : Int) + 1) = ((k + 1 : Nat) : Int) := by unfold wrap64; have := HTS.out; have := H4.out; omega
          have e6 : wrap64 ((s : Int) + (N : Int)) = (s : Int) + (N : Int) := by unfold wrap64; have := HSN.out; omega
          by_cases cT : T < s
          · have d5 : decide ((T : Int) < (s : Int)) = true := decide_eq_true (by omega)
            have d5n : decide (T < s) = true := decide_eq_true cT
            replace BM := Aside0.mk (blk_drew BM.out)
            replace BX := Aside0.mk (blk_drew BX.out)
            replace BF := Aside0.mk (blk_drew BF.out)
            replace BA := Aside0.mk (blk_drew BA.out)
            replace BT := Aside0.mk (blk_drew BT.out)
            replace HZ := Aside0.mk (below_drew1 HZ.out)
            refine start_ (n := 23) (S := fun w' => w'.cell? ⟨(ad2.add (k * 6)).block, (ad2.add (k * 6)).off + 4, none⟩ = some (.int .i64 (s : Int)) ∧ w'.cell? ⟨(ad2.add (k * 6)).block, (ad2.add (k * 6)).off + 5, none⟩ = some (.slice A5 N c5)) (ds := []) #[O,O,O,O,O,O,O,O,O,O,O,O,O,O,O,O,O,O,O,O,O,O,O] (by kernel_rfl) rfl rfl ⟨(HZ.out.cell (World.block_lt_of_cell? wz _ KS4.out)).trans KS4.out, (HZ.out.cell (World.block_lt_of_cell? wz _ KS5.out)).trans KS5.out⟩ (fun hHeld => ?_)
            generalize (wl.alloc (.cells (six fun i => wrap64 (12 * G (k + 1) i)) 69 (0, 0))).drew = wm at hHeld BM BX BF BA BT HZ ⊢
            refine pk_ (i := 0) (N := some 154) #[I,O,O,O,O,O,O,O,O,O,O,O,O,O,O,O,O,O,O,O,O,O,O] ?_
            refine pk_ (i := 1) (N := some 155) #[I,I,O,O,O,O,O,O,O,O,O,O,O,O,O,O,O,O,O,O,O,O,O] ?_
            refine pk_ (i := 2) (N := some 156) #[I,I,I,O,O,O,O,O,O,O,O,O,O,O,O,O,O,O,O,O,O,O,O] ?_
            refine pk_ (i := 3) (N := some 157) #[I,I,I,I,O,O,O,O,O,O,O,O,O,O,O,O,O,O,O,O,O,O,O] ?_
            refine pk_ (i := 4) (N := some 158) #[I,I,I,I,I,O,O,O,O,O,O,O,O,O,O,O,O,O,O,O,O,O,O] ?_
            refine tk_ (i := 5) (N := some 159) #[I,I,I,I,I,I,O,O,O,O,O,O,O,O,O,O,O,O,O,O,O,O,O] hHeld ?_
            refine pk_ (i := 6) (N := some 160) #[I,I,I,I,I,I,I,O,O,O,O,O,O,O,O,O,O,O,O,O,O,O,O] ?_
            refine pk_ (i := 7) (N := some 161) #[I,I,I,I,I,I,I,I,O,O,O,O,O,O,O,O,O,O,O,O,O,O,O] ?_
            refine uk_ (i := 8) (N := some 162) #[I,I,I,I,I,I,I,I,I,O,O,O,O,O,O,O,O,O,O,O,O,O,O] ?_
            refine uk_ (i := 9) (N := some 163) #[I,I,I,I,I,I,I,I,I,I,O,O,O,O,O,O,O,O,O,O,O,O,O] ?_
            refine uk_ (i := 10) (N := some 164) #[I,I,I,I,I,I,I,I,I,I,I,O,O,O,O,O,O,O,O,O,O,O,O] ?_
            refine uk_ (i := 11) (N := some 165) #[I,I,I,I,I,I,I,I,I,I,I,I,O,O,O,O,O,O,O,O,O,O,O] ?_
            refine uk_ (i := 12) (N := some 166) #[I,I,I,I,I,I,I,I,I,I,I,I,I,O,O,O,O,O,O,O,O,O,O] ?_
            refine uk_ (i := 13) (N := some 167) #[I,I,I,I,I,I,I,I,I,I,I,I,I,I,O,O,O,O,O,O,O,O,O] ?_
            refine uk_ (i := 14) (N := some 168) #[I,I,I,I,I,I,I,I,I,I,I,I,I,I,I,O,O,O,O,O,O,O,O] ?_
            refine uk_ (i := 15) (N := some 169) #[I,I,I,I,I,I,I,I,I,I,I,I,I,I,I,I,O,O,O,O,O,O,O] ?_
            refine uk_ (i := 16) (N := some 170) #[I,I,I,I,I,I,I,I,I,I,I,I,I,I,I,I,I,O,O,O,O,O,O] ?_
            refine uk_ (i := 17) (N := some 171) #[I,I,I,I,I,I,I,I,I,I,I,I,I,I,I,I,I,I,O,O,O,O,O] ?_
            refine uk_ (i := 18) (N := some 172) #[I,I,I,I,I,I,I,I,I,I,I,I,I,I,I,I,I,I,I,O,O,O,O] ?_
            refine uk_ (i := 19) (N := some 173) #[I,I,I,I,I,I,I,I,I,I,I,I,I,I,I,I,I,I,I,I,O,O,O] ?_
            refine uk_ (i := 20) (N := some 174) #[I,I,I,I,I,I,I,I,I,I,I,I,I,I,I,I,I,I,I,I,I,O,O] ?_
            refine uk_ (i := 21) (N := some 175) #[I,I,I,I,I,I,I,I,I,I,I,I,I,I,I,I,I,I,I,I,I,I,O] ?_
            refine pk_ (i := 22) (N := some 176) #[I,I,I,I,I,I,I,I,I,I,I,I,I,I,I,I,I,I,I,I,I,I,I] ?_
            refine done_ (by kernel_rfl) ?_
            go_wp2
            rw [NEXT]
            refine ⟨⟨k + 1, rfl, by have := H4.out; omega, BX, BA, HZ⟩, ?_⟩
            show t.length - ((k + 1 : Nat) : Int).toNat < t.length - (k : Int).toNat
            have := H4.out
            omega
          · have d5 : decide ((T : Int) < (s : Int)) = false := decide_eq_false (by omega)
            have d5n : decide (T < s) = false := decide_eq_false cT
            replace BM := Aside0.mk (blk_drew BM.out)
            replace BX := Aside0.mk (blk_drew BX.out)
            replace BF := Aside0.mk (blk_drew BF.out)
            replace BA := Aside0.mk (blk_drew BA.out)
            replace BT := Aside0.mk (blk_drew BT.out)
            replace HZ := Aside0.mk (below_drew1 HZ.out)
            refine start_ (n := 23) (S := fun w' => w'.cell? ⟨(ad2.add (k * 6)).block, (ad2.add (k * 6)).off + 4, none⟩ = some (.int .i64 (s : Int)) ∧ w'.cell? ⟨(ad2.add (k * 6)).block, (ad2.add (k * 6)).off + 5, none⟩ = some (.slice A5 N c5)) (ds := []) #[O,O,O,O,O,O,O,O,O,O,O,O,O,O,O,O,O,O,O,O,O,O,O] (by kernel_rfl) rfl rfl ⟨(HZ.out.cell (World.block_lt_of_cell? wz _ KS4.out)).trans KS4.out, (HZ.out.cell (World.block_lt_of_cell? wz _ KS5.out)).trans KS5.out⟩ (fun hHeld => ?_)
            generalize (wl.alloc (.cells (six fun i => wrap64 (12 * G (k + 1) i)) 69 (0, 0))).drew = wm at hHeld BM BX BF BA BT HZ ⊢
            refine pk_ (i := 0) (N := some 154) #[I,O,O,O,O,O,O,O,O,O,O,O,O,O,O,O,O,O,O,O,O,O,O] ?_
            refine pk_ (i := 1) (N := some 155) #[I,I,O,O,O,O,O,O,O,O,O,O,O,O,O,O,O,O,O,O,O,O,O] ?_
            refine pk_ (i := 2) (N := some 156) #[I,I,I,O,O,O,O,O,O,O,O,O,O,O,O,O,O,O,O,O,O,O,O] ?_
            refine pk_ (i := 3) (N := some 157) #[I,I,I,I,O,O,O,O,O,O,O,O,O,O,O,O,O,O,O,O,O,O,O] ?_
            refine pk_ (i := 4) (N := some 158) #[I,I,I,I,I,O,O,O,O,O,O,O,O,O,O,O,O,O,O,O,O,O,O] ?_
            refine tk_ (i := 5) (N := some 159) #[I,I,I,I,I,I,O,O,O,O,O,O,O,O,O,O,O,O,O,O,O,O,O] hHeld ?_
            refine pk_ (i := 6) (N := some 160) #[I,I,I,I,I,I,I,O,O,O,O,O,O,O,O,O,O,O,O,O,O,O,O] ?_
            refine pk_ (i := 7) (N := some 161) #[I,I,I,I,I,I,I,I,O,O,O,O,O,O,O,O,O,O,O,O,O,O,O] ?_
            refine pk_ (i := 8) (N := some 162) #[I,I,I,I,I,I,I,I,I,O,O,O,O,O,O,O,O,O,O,O,O,O,O] ?_
            refine pk_ (i := 9) (N := some 163) #[I,I,I,I,I,I,I,I,I,I,O,O,O,O,O,O,O,O,O,O,O,O,O] ?_
            refine pk_ (i := 10) (N := some 164) #[I,I,I,I,I,I,I,I,I,I,I,O,O,O,O,O,O,O,O,O,O,O,O] ?_
            refine pk_ (i := 11) (N := some 165) #[I,I,I,I,I,I,I,I,I,I,I,I,O,O,O,O,O,O,O,O,O,O,O] ?_
            refine pk_ (i := 12) (N := some 166) #[I,I,I,I,I,I,I,I,I,I,I,I,I,O,O,O,O,O,O,O,O,O,O] ?_
            refine pk_ (i := 14) (N := some 168) #[I,I,I,I,I,I,I,I,I,I,I,I,I,O,I,O,O,O,O,O,O,O,O] ?_
            refine pk_ (i := 15) (N := some 169) #[I,I,I,I,I,I,I,I,I,I,I,I,I,O,I,I,O,O,O,O,O,O,O] ?_
            refine pk_ (i := 16) (N := some 170) #[I,I,I,I,I,I,I,I,I,I,I,I,I,O,I,I,I,O,O,O,O,O,O] ?_
            refine pk_ (i := 17) (N := some 171) #[I,I,I,I,I,I,I,I,I,I,I,I,I,O,I,I,I,I,O,O,O,O,O] ?_
            refine tk_ (i := 13) (N := some 167) #[I,I,I,I,I,I,I,I,I,I,I,I,I,I,I,I,I,I,O,O,O,O,O] hHeld ?_
            refine tk_ (i := 18) (N := some 172) #[I,I,I,I,I,I,I,I,I,I,I,I,I,I,I,I,I,I,I,O,O,O,O] hHeld ?_
            refine pk_ (i := 19) (N := some 173) #[I,I,I,I,I,I,I,I,I,I,I,I,I,I,I,I,I,I,I,I,O,O,O] ?_
            refine pk_ (i := 20) (N := some 174) #[I,I,I,I,I,I,I,I,I,I,I,I,I,I,I,I,I,I,I,I,I,O,O] ?_
            refine pk_ (i := 21) (N := some 175) #[I,I,I,I,I,I,I,I,I,I,I,I,I,I,I,I,I,I,I,I,I,I,O] ?_
            refine pk_ (i := 22) (N := some 176) #[I,I,I,I,I,I,I,I,I,I,I,I,I,I,I,I,I,I,I,I,I,I,I] ?_
            refine done_ (by kernel_rfl) ?_
            by_cases cN : s + N < T
            · have d6 : decide ((s : Int) + (N : Int) < (T : Int)) = true := decide_eq_true (by omega)
              have d6n : decide (s + N < T) = true := decide_eq_true cN
              go_wp2
              rw [NEXT]
              refine ⟨⟨k + 1, rfl, by have := H4.out; omega, BX, BA, HZ⟩, ?_⟩
              show t.length - ((k + 1 : Nat) : Int).toNat < t.length - (k : Int).toNat
              have := H4.out
              omega
            · have d6 : decide ((s : Int) + (N : Int) < (T : Int)) = false := decide_eq_false (by omega)
              have d6n : decide (s + N < T) = false := decide_eq_false cN
              obtain ⟨hlo, hhi, hoth⟩ := HIN.out (by omega) (by omega)
              go_upto_region 24 with (fail)
              clear d5 d5n d6 d6n cT cN
              replace BM := Aside0.mk (blk_drew BM.out)
              replace BX := Aside0.mk (blk_drew BX.out)
              replace BF := Aside0.mk (blk_drew BF.out)
              replace BA := Aside0.mk (blk_drew BA.out)
              replace BT := Aside0.mk (blk_drew BT.out)
              replace HZ := Aside0.mk (below_drew1 HZ.out)
              refine start_ (n := 20) (S := fun w' => w'.cell? ⟨wr.heap.size, 0, none⟩ = some (.int .i64 (a : Int)) ∧ w'.cell? ⟨wr.heap.size, 1, none⟩ = some (.int .i64 (j : Int)) ∧ w'.cell? ⟨wi.heap.size, a * 3 + j, none⟩ = some (.int .i64 (wrap64 (12 * G k (a * 3 + j)))) ∧ w'.cell? ⟨wl.heap.size, a * 3 + j, none⟩ = some (.int .i64 (wrap64 (12 * G (k + 1) (a * 3 + j))))) (ds := []) #[O,O,O,O,O,O,O,O,O,O,O,O,O,O,O,O,O,O,O,O] (by kernel_rfl) rfl rfl ⟨(held4 BM.out).1, (held4 BM.out).2.1, (blk_cell BF.out _).trans (get6 (fun i => wrap64 (12 * G k i)) Hi6.out), (blk_cell BT.out _).trans (get6 (fun i => wrap64 (12 * G (k + 1) i)) Hi6.out)⟩ (fun hHeld => ?_)
              generalize (wm).drew = wn at hHeld BM BX BF BA BT HZ ⊢
              refine pk_ (i := 0) (N := some 177) #[I,O,O,O,O,O,O,O,O,O,O,O,O,O,O,O,O,O,O,O] ?_
              refine pk_ (i := 1) (N := some 178) #[I,I,O,O,O,O,O,O,O,O,O,O,O,O,O,O,O,O,O,O] ?_
              refine pk_ (i := 3) (N := some 180) #[I,I,O,I,O,O,O,O,O,O,O,O,O,O,O,O,O,O,O,O] ?_
              refine pk_ (i := 4) (N := some 181) #[I,I,O,I,I,O,O,O,O,O,O,O,O,O,O,O,O,O,O,O] ?_
              refine pk_ (i := 9) (N := some 186) #[I,I,O,I,I,O,O,O,O,I,O,O,O,O,O,O,O,O,O,O] ?_
              refine pk_ (i := 10) (N := some 187) #[I,I,O,I,I,O,O,O,O,I,I,O,O,O,O,O,O,O,O,O] ?_
              refine pk_ (i := 12) (N := some 189) #[I,I,O,I,I,O,O,O,O,I,I,O,I,O,O,O,O,O,O,O] ?_
              refine pk_ (i := 13) (N := some 190) #[I,I,O,I,I,O,O,O,O,I,I,O,I,I,O,O,O,O,O,O] ?_
              refine tk_ (i := 2) (N := some 179) #[I,I,I,I,I,O,O,O,O,I,I,O,I,I,O,O,O,O,O,O] hHeld ?_
              refine pk_ (i := 6) (N := some 183) #[I,I,I,I,I,O,I,O,O,I,I,O,I,I,O,O,O,O,O,O] ?_
              refine tk_ (i := 5) (N := some 182) #[I,I,I,I,I,I,I,O,O,I,I,O,I,I,O,O,O,O,O,O] hHeld ?_
              refine pk_ (i := 7) (N := some 184) #[I,I,I,I,I,I,I,I,O,I,I,O,I,I,O,O,O,O,O,O] ?_
              refine tk_ (i := 8) (N := some 185) #[I,I,I,I,I,I,I,I,I,I,I,O,I,I,O,O,O,O,O,O] hHeld ?_
              refine tk_ (i := 11) (N := some 188) #[I,I,I,I,I,I,I,I,I,I,I,I,I,I,O,O,O,O,O,O] hHeld ?_
              refine pk_ (i := 15) (N := some 192) #[I,I,I,I,I,I,I,I,I,I,I,I,I,I,O,I,O,O,O,O] ?_
              refine tk_ (i := 14) (N := some 191) #[I,I,I,I,I,I,I,I,I,I,I,I,I,I,I,I,O,O,O,O] hHeld ?_
              refine pk_ (i := 16) (N := some 193) #[I,I,I,I,I,I,I,I,I,I,I,I,I,I,I,I,I,O,O,O] ?_
              refine tk_ (i := 17) (N := some 194) #[I,I,I,I,I,I,I,I,I,I,I,I,I,I,I,I,I,I,O,O] hHeld ?_
              refine pk_ (i := 18) (N := some 195) #[I,I,I,I,I,I,I,I,I,I,I,I,I,I,I,I,I,I,I,O] ?_
              refine pk_ (i := 19) (N := some 21) #[I,I,I,I,I,I,I,I,I,I,I,I,I,I,I,I,I,I,I,I] ?_
              refine done_ (by kernel_rfl) ?_
              go_upto_region 25 with (fail)
              replace BM := Aside0.mk (blk_drew BM.out)
              replace BX := Aside0.mk (blk_drew BX.out)
              replace BF := Aside0.mk (blk_drew BF.out)
              replace BA := Aside0.mk (blk_drew BA.out)
              replace BT := Aside0.mk (blk_drew BT.out)
              replace HZ := Aside0.mk (below_drew1 HZ.out)
              refine start_ (n := 20) (S := fun w' => w'.cell? ⟨wr.heap.size, 0, none⟩ = some (.int .i64 (a : Int)) ∧ w'.cell? ⟨wr.heap.size, 1, none⟩ = some (.int .i64 (j : Int)) ∧ w'.cell? ⟨wi.heap.size, a * 3 + j, none⟩ = some (.int .i64 (wrap64 (12 * G k (a * 3 + j)))) ∧ w'.cell? ⟨wl.heap.size, a * 3 + j, none⟩ = some (.int .i64 (wrap64 (12 * G (k + 1) (a * 3 + j))))) (ds := []) #[O,O,O,O,O,O,O,O,O,O,O,O,O,O,O,O,O,O,O,O] (by kernel_rfl) rfl rfl ⟨(held4 BM.out).1, (held4 BM.out).2.1, (blk_cell BF.out _).trans (get6 (fun i => wrap64 (12 * G k i)) Hi6.out), (blk_cell BT.out _).trans (get6 (fun i => wrap64 (12 * G (k + 1) i)) Hi6.out)⟩ (fun hHeld => ?_)
              generalize (wn).drew = wo at hHeld BM BX BF BA BT HZ ⊢
              refine pk_ (i := 0) (N := some 196) #[I,O,O,O,O,O,O,O,O,O,O,O,O,O,O,O,O,O,O,O] ?_
              refine pk_ (i := 1) (N := some 197) #[I,I,O,O,O,O,O,O,O,O,O,O,O,O,O,O,O,O,O,O] ?_
              refine pk_ (i := 3) (N := some 199) #[I,I,O,I,O,O,O,O,O,O,O,O,O,O,O,O,O,O,O,O] ?_
              refine pk_ (i := 4) (N := some 200) #[I,I,O,I,I,O,O,O,O,O,O,O,O,O,O,O,O,O,O,O] ?_
              refine pk_ (i := 9) (N := some 205) #[I,I,O,I,I,O,O,O,O,I,O,O,O,O,O,O,O,O,O,O] ?_
              refine pk_ (i := 10) (N := some 206) #[I,I,O,I,I,O,O,O,O,I,I,O,O,O,O,O,O,O,O,O] ?_
              refine pk_ (i := 12) (N := some 208) #[I,I,O,I,I,O,O,O,O,I,I,O,I,O,O,O,O,O,O,O] ?_
              refine pk_ (i := 13) (N := some 209) #[I,I,O,I,I,O,O,O,O,I,I,O,I,I,O,O,O,O,O,O] ?_
              refine tk_ (i := 2) (N := some 198) #[I,I,I,I,I,O,O,O,O,I,I,O,I,I,O,O,O,O,O,O] hHeld ?_
              refine pk_ (i := 6) (N := some 202) #[I,I,I,I,I,O,I,O,O,I,I,O,I,I,O,O,O,O,O,O] ?_
              refine tk_ (i := 5) (N := some 201) #[I,I,I,I,I,I,I,O,O,I,I,O,I,I,O,O,O,O,O,O] hHeld ?_
              refine pk_ (i := 7) (N := some 203) #[I,I,I,I,I,I,I,I,O,I,I,O,I,I,O,O,O,O,O,O] ?_
              refine tk_ (i := 8) (N := some 204) #[I,I,I,I,I,I,I,I,I,I,I,O,I,I,O,O,O,O,O,O] hHeld ?_
              refine tk_ (i := 11) (N := some 207) #[I,I,I,I,I,I,I,I,I,I,I,I,I,I,O,O,O,O,O,O] hHeld ?_
              refine pk_ (i := 15) (N := some 211) #[I,I,I,I,I,I,I,I,I,I,I,I,I,I,O,I,O,O,O,O] ?_
              refine tk_ (i := 14) (N := some 210) #[I,I,I,I,I,I,I,I,I,I,I,I,I,I,I,I,O,O,O,O] hHeld ?_
              refine pk_ (i := 16) (N := some 212) #[I,I,I,I,I,I,I,I,I,I,I,I,I,I,I,I,I,O,O,O] ?_
              refine tk_ (i := 17) (N := some 213) #[I,I,I,I,I,I,I,I,I,I,I,I,I,I,I,I,I,I,O,O] hHeld ?_
              refine pk_ (i := 18) (N := some 214) #[I,I,I,I,I,I,I,I,I,I,I,I,I,I,I,I,I,I,I,O] ?_
              refine pk_ (i := 19) (N := some 22) #[I,I,I,I,I,I,I,I,I,I,I,I,I,I,I,I,I,I,I,I] ?_
              refine done_ (by kernel_rfl) ?_
              go_upto_region 26 with (fail)
              generalize elo : (if wrap64 (12 * G (k + 1) (a * 3 + j)) < wrap64 (12 * G k (a * 3 + j)) then wrap64 (12 * G (k + 1) (a * 3 + j)) else wrap64 (12 * G k (a * 3 + j))) = lo_
              generalize ehi : (if wrap64 (12 * G k (a * 3 + j)) < wrap64 (12 * G (k + 1) (a * 3 + j)) then wrap64 (12 * G (k + 1) (a * 3 + j)) else wrap64 (12 * G k (a * 3 + j))) = hi_
              have hlo2 : lo_ ≤ P T (a * 3 + j) := by rw [← elo]; exact hlo
              have hhi2 : P T (a * 3 + j) ≤ hi_ := by rw [← ehi]; exact hhi
              clear elo ehi hlo hhi
              replace BM := Aside0.mk (blk_drew BM.out)
              replace BX := Aside0.mk (blk_drew BX.out)
              replace BF := Aside0.mk (blk_drew BF.out)
              replace BA := Aside0.mk (blk_drew BA.out)
              replace BT := Aside0.mk (blk_drew BT.out)
              replace HZ := Aside0.mk (below_drew1 HZ.out)
              refine start_ (n := 10) (S := fun w' => w'.cell? ⟨wr.heap.size, 0, none⟩ = some (.int .i64 (a : Int)) ∧ w'.cell? ⟨wr.heap.size, 1, none⟩ = some (.int .i64 (j : Int)) ∧ w'.cell? ⟨wh.heap.size, a * 3 + j, none⟩ = some (.int .i64 (P T (a * 3 + j)))) (ds := []) #[O,O,O,O,O,O,O,O,O,O] (by kernel_rfl) rfl rfl ⟨(held4 BM.out).1, (held4 BM.out).2.1, (blk_cell BX.out _).trans (get6 (P T) Hi6.out)⟩ (fun hHeld => ?_)
              generalize (wo).drew = wp_ at hHeld BM BX BF BA BT HZ ⊢
              refine pk_ (i := 0) (N := some 215) #[I,O,O,O,O,O,O,O,O,O] ?_
              refine pk_ (i := 1) (N := some 216) #[I,I,O,O,O,O,O,O,O,O] ?_
              refine pk_ (i := 3) (N := some 218) #[I,I,O,I,O,O,O,O,O,O] ?_
              refine pk_ (i := 4) (N := some 219) #[I,I,O,I,I,O,O,O,O,O] ?_
              refine tk_ (i := 2) (N := some 217) #[I,I,I,I,I,O,O,O,O,O] hHeld ?_
              refine pk_ (i := 6) (N := some 221) #[I,I,I,I,I,O,I,O,O,O] ?_
              refine tk_ (i := 5) (N := some 220) #[I,I,I,I,I,I,I,O,O,O] hHeld ?_
              refine pk_ (i := 7) (N := some 222) #[I,I,I,I,I,I,I,I,O,O] ?_
              refine tk_ (i := 8) (N := some 223) #[I,I,I,I,I,I,I,I,I,O] hHeld ?_
              refine pk_ (i := 9) (N := some 23) #[I,I,I,I,I,I,I,I,I,I] ?_
              refine done_ (by kernel_rfl) ?_
              go_upto_region 27 with (fail)
              replace BM := Aside0.mk (blk_drew BM.out)
              replace BX := Aside0.mk (blk_drew BX.out)
              replace BF := Aside0.mk (blk_drew BF.out)
              replace BA := Aside0.mk (blk_drew BA.out)
              replace BT := Aside0.mk (blk_drew BT.out)
              replace HZ := Aside0.mk (below_drew1 HZ.out)
              refine start_ (n := 10) (S := fun w' => w'.cell? ⟨wr.heap.size, 0, none⟩ = some (.int .i64 (a : Int)) ∧ w'.cell? ⟨wr.heap.size, 1, none⟩ = some (.int .i64 (j : Int))) (ds := [9]) #[O,O,O,O,O,O,O,O,O,O] (by kernel_rfl) rfl rfl ⟨(held4 BM.out).1, (held4 BM.out).2.1⟩ (fun hHeld => ?_)
              generalize (wp_).drew = wq at hHeld BM BX BF BA BT HZ ⊢
              refine pk_ (i := 0) (N := some 224) #[I,O,O,O,O,O,O,O,O,O] ?_
              refine pk_ (i := 1) (N := some 225) #[I,I,O,O,O,O,O,O,O,O] ?_
              refine pk_ (i := 3) (N := some 227) #[I,I,O,I,O,O,O,O,O,O] ?_
              refine pk_ (i := 4) (N := some 228) #[I,I,O,I,I,O,O,O,O,O] ?_
              refine pk_ (i := 6) (N := some 230) #[I,I,O,I,I,O,I,O,O,O] ?_
              refine tk_ (i := 2) (N := some 226) #[I,I,I,I,I,O,I,O,O,O] hHeld ?_
              refine pk_ (i := 7) (N := some 231) #[I,I,I,I,I,O,I,I,O,O] ?_
              refine tk_ (i := 5) (N := some 229) #[I,I,I,I,I,I,I,I,O,O] hHeld ?_
              refine pk_ (i := 8) (N := some 232) #[I,I,I,I,I,I,I,I,I,O] ?_
              refine last_ (i := 9) (N := none) #[I,I,I,I,I,I,I,I,I,I] rfl rfl (by kernel_rfl) (by decide) (fun K_ hK => ?_)
              have hs16 : wq.cell? ⟨wi.heap.size, a * 3 + j, none⟩ = some (.int .i64 (wrap64 (12 * G k (a * 3 + j)))) := (blk_cell BF.out _).trans (get6 (fun i => wrap64 (12 * G k i)) Hi6.out)
              have hf16 := blk_frozen BF.out (a * 3 + j)
              refine skip_ (w1 := ?_) (by rfl) rfl ?_ ?_
              rotate_left
              · go_simp
                rfl
              have f2 := Aside0.mk (blk_far2 (g := wi.heap.size) (j := a * 3 + j) (u := .int .i64 (P T (a * 3 + j))) BX.out (by have := HLA.out; have := GEi.out; omega))
              have f3 := Aside0.mk (blk_far2 (g := wi.heap.size) (j := a * 3 + j) (u := .int .i64 (P T (a * 3 + j))) BA.out (by have := HLA.out; have := GEi.out; omega))
              have f4 := Aside0.mk (below_set (g := wi.heap.size) (j := a * 3 + j) (v := .int .i64 (P T (a * 3 + j))) HZ.out (by have := GE.out; have := HLA.out; have := GEi.out; omega))
              have f5 := Aside0.mk (blk_set BF.out (a * 3 + j) (.int .i64 (P T (a * 3 + j))))
              have hcf : ∀ i, i < 6 → upd (fun i => wrap64 (12 * G k i)) (a * 3 + j) (P T (a * 3 + j)) i = P T i := fun i hi => by
                unfold upd
                by_cases c : i = a * 3 + j
                · rw [if_pos c, c]
                · rw [if_neg c]
                  exact (hoth i hi c).symm
              rw [set6 _ Hi6.out, six_congr hcf] at f5
              refine hK.out _ _ ?_
              clear hK K_ hs16 hf16 hHeld BM BX BF BA BT HZ hoth
              generalize wq.setCell ⟨wi.heap.size, a * 3 + j, none⟩ (.int .i64 (P T (a * 3 + j))) = ws at f2 f3 f4 f5 ⊢
              refine done_ (by kernel_rfl) ?_
              obtain ⟨g0, g1, g2, g3, g4, g5⟩ := held6 f5.out
              obtain ⟨y0, y1, y2, y3, y4, y5⟩ := held6 f2.out
              have dlo : decide (P T (a * 3 + j) < lo_) = false := decide_eq_false (Int.not_lt.2 hlo2)
              have dhi : decide (hi_ < P T (a * 3 + j)) = false := decide_eq_false (Int.not_lt.2 hhi2)
              clear hlo2 hhi2
              go_wp2
              rw [NEXT]
              refine ⟨⟨k + 1, rfl, by have := H4.out; omega, f2, f3, f4⟩, ?_⟩
              show t.length - ((k + 1 : Nat) : Int).toNat < t.length - (k : Int).toNat
              have := H4.out
              omega
        · have d4 : decide ((k : Int) < (t.length : Int)) = false := decide_eq_false (by omega)
          go_wp2
          rw [show wrap64 ((n : Int) + 1) = ((n + 1 : Nat) : Int) by unfold wrap64; have := HN3.out; have := H3.out; omega]
          refine ⟨⟨n + 1, rfl, by have := H3.out; omega, HZ⟩, ?_⟩
          show l3.length - ((n + 1 : Nat) : Int).toNat < l3.length - (n : Int).toNat
          have := H3.out
          omega
    · have d3 : decide ((n : Int) < (l3.length : Int)) = false := decide_eq_false (by omega)
      go_wp2
      go_ret
      exact ⟨rfl, below_tr HB8.out HZ.out⟩
end Go.Proofs.Ytmmaodlngnjmlaa.Reach
