/- The profile's callers of the iterator: Final, Within, Simulate: for every state and profile. -/
import Derived.Test.YtmmaodlngnjmlaaXTicks2
import Derived.Shelf.Abstract
import Derived.Maps.OwnIn
namespace Go.Proofs.Ytmmaodlngnjmlaa.Ticks
open Go Go.RowKit Go.Shelf Go.Proofs.Ytmmaodlngnjmlaa.Rng Go.Proofs.YtmmaodlngnjmlaaW.PrintWords
attribute [local go_sem] Oper.semAt_some

theorem enters1 : Enters Try.prog 76 := enters_of Try.func76 (by kernel_rfl) rfl
/-- The last of the states. -/
def lastOf (p v a : Int) (l : List (Int × Int × Int × Int)) : Int × Int × Int := (l.getLast?.map (·.2)).getD (p, v, a)
theorem lastOf_snoc (p v a : Int) (l : List (Int × Int × Int × Int)) (x : Int × Int × Int × Int) : lastOf p v a (l ++ [x]) = x.2 := by simp [lastOf]
theorem abide_below {β : Type} {w : World} {b c : Nat} (h : w.heap.size ≤ b) : Abide b c (fun (_ : β) W => Below w.heap.size w W) := fun _ A B row hs hg hr =>
  ⟨hg.os.trans hs.os, hg.tape.trans hs.tape, hg.output.trans hs.output, Nat.le_trans hs.size hg.size, fun k hk => (hg.block k (Nat.lt_of_lt_of_le hk hs.size) (fun e => by have := hr k e.symm; omega)).trans (hs.block k hk)⟩

theorem abide_block {β : Type} {b c b0 : Nat} {o : β → Obj} (hb : b0 < b) : Abide b c (fun (s : β) W => W.heap[b0]? = some (o s)) := fun _ A _ _ hs hg hr =>
  (hg.block b0 (Array.getElem?_eq_some_iff.1 hs).1 (fun e => by have := hr b0 e.symm; omega)).trans hs
theorem abide_over {β : Type} {b c b0 : Nat} {o : β → Obj} (hb : c < b0) : Abide b c (fun (s : β) W => W.heap[b0]? = some (o s)) := fun _ A _ _ hs hg hr =>
  (hg.block b0 (Array.getElem?_eq_some_iff.1 hs).1 (fun e => by have := hr b0 e.symm; omega)).trans hs
theorem Abide.and {β : Type} {b c : Nat} {I J : β → World → Prop} (h : Abide b c I) (k : Abide b c J) : Abide b c (fun s W => I s W ∧ J s W) := fun s A B row hs hg hr => ⟨h s A B row hs.1 hg hr, k s A B row hs.2 hg hr⟩
theorem Abide.no {β : Type} {b c : Nat} : Abide b c (fun (_ : β) (_ : World) => False) := fun _ _ _ _ h _ _ => h
theorem Abide.pure {β : Type} {b c : Nat} (p : β → Prop) : Abide b c (fun s (_ : World) => p s) := fun _ _ _ _ h _ _ => h

theorem lies (w : World) (o : Obj) (W : World) (hW : w.alloc o = W) : W.heap[w.heap.size]? = some o ∧ W.heap.size = w.heap.size + 1 ∧ (∀ k, k < w.heap.size → W.heap[k]? = w.heap[k]?) ∧ (∀ B, B ≤ w.heap.size → Below B w W) := by
  subst hW
  exact ⟨World.alloc_heap_new w o, by simp, fun k hk => Below.heap_alloc w o k hk, fun B hB => (Below.refl _ w).alloc hB _⟩
theorem lies3 (w : World) (o1 o2 o3 : Obj) (W : World) (hB : Below (((w.alloc o1).alloc o2).alloc o3).heap.size (((w.alloc o1).alloc o2).alloc o3) W) :
    W.heap[w.heap.size]? = some o1 ∧ W.heap[w.heap.size + 1]? = some o2 ∧ W.heap[w.heap.size + 2]? = some o3 ∧ w.heap.size + 3 ≤ W.heap.size ∧ Below w.heap.size w W := by
  obtain ⟨a1, s1, k1, b1⟩ := lies w o1 _ rfl
  obtain ⟨a2, s2, k2, b2⟩ := lies (w.alloc o1) o2 _ rfl
  obtain ⟨a3, s3, k3, b3⟩ := lies ((w.alloc o1).alloc o2) o3 _ rfl
  rw [s1] at a2 s2 k2
  rw [s2] at a3 s3 k3
  have hs := hB.size
  exact ⟨by rw [hB.block _ (by omega), k3 _ (by omega), k2 _ (by omega), a1], by rw [hB.block _ (by omega), k3 _ (by omega), a2], by rw [hB.block _ (by omega), a3], by omega, (((b1 _ (Nat.le_refl _)).trans (b2 _ (by omega))).trans (b3 _ (by omega))).trans (hB.mono (by omega))⟩
theorem lies2 (w : World) (o1 o2 : Obj) (W : World) (hW : (w.alloc o1).alloc o2 = W) :
    W.heap[w.heap.size]? = some o1 ∧ W.heap[w.heap.size + 1]? = some o2 ∧ W.heap.size = w.heap.size + 2 ∧ Below w.heap.size w W := by
  obtain ⟨a1, s1, k1, b1⟩ := lies w o1 _ rfl
  obtain ⟨a2, s2, k2, b2⟩ := lies (w.alloc o1) o2 W hW
  rw [s1] at a2 s2 k2
  exact ⟨by rw [k2 _ (by omega), a1], a2, by omega, (b1 _ (Nat.le_refl _)).trans (b2 _ (by omega))⟩
/-- Four blocks, one after the other. -/
theorem lies4 (w : World) (o1 o2 o3 o4 : Obj) (W : World) (hW : (((w.alloc o1).alloc o2).alloc o3).alloc o4 = W) :
    W.heap[w.heap.size]? = some o1 ∧ W.heap[w.heap.size + 1]? = some o2 ∧ W.heap[w.heap.size + 2]? = some o3 ∧ W.heap[w.heap.size + 3]? = some o4 ∧ W.heap.size = w.heap.size + 4 ∧ Below w.heap.size w W := by
  obtain ⟨a1, s1, k1, b1⟩ := lies w o1 _ rfl
  obtain ⟨a2, s2, k2, b2⟩ := lies (w.alloc o1) o2 _ rfl
  obtain ⟨a3, s3, k3, b3⟩ := lies ((w.alloc o1).alloc o2) o3 _ rfl
  obtain ⟨a4, s4, k4, b4⟩ := lies (((w.alloc o1).alloc o2).alloc o3) o4 W hW
  rw [s1] at a2 s2 k2
  rw [s2] at a3 s3 k3
  rw [s3] at a4 s4 k4
  exact ⟨by rw [k4 _ (by omega), k3 _ (by omega), k2 _ (by omega), a1], by rw [k4 _ (by omega), k3 _ (by omega), a2], by rw [k4 _ (by omega), a3], a4, by omega, (((b1 _ (Nat.le_refl _)).trans (b2 _ (by omega))).trans (b3 _ (by omega))).trans (b4 _ (by omega))⟩

theorem mot_set3 {W : World} {b t : Nat} {p v a : Int} (h : Mot W b t p v a) (x y z : Int) : Mot (((W.setCell ⟨b, 0, none⟩ (.int .i64 x)).setCell ⟨b, 1, none⟩ (.int .i64 y)).setCell ⟨b, 2, none⟩ (.int .i64 z)) b t x y z ∧
    W.grownBy (((W.setCell ⟨b, 0, none⟩ (.int .i64 x)).setCell ⟨b, 1, none⟩ (.int .i64 y)).setCell ⟨b, 2, none⟩ (.int .i64 z)) (some b) := by
  have g2 := grown_set W b 0 (.int .i64 x)
  have b2 : (W.setCell ⟨b, 0, none⟩ (.int .i64 x)).heap[b]? = some (.cells #[.int .i64 x, .int .i64 v, .int .i64 a] t (0, 0)) := by simpa using blk_set h 0 (.int .i64 x)
  generalize (W.setCell ⟨b, 0, none⟩ (.int .i64 x)) = W2 at g2 b2 ⊢
  have g1 := grown_set W2 b 1 (.int .i64 y)
  have b1 : (W2.setCell ⟨b, 1, none⟩ (.int .i64 y)).heap[b]? = some (.cells #[.int .i64 x, .int .i64 y, .int .i64 a] t (0, 0)) := by simpa using blk_set b2 1 (.int .i64 y)
  generalize (W2.setCell ⟨b, 1, none⟩ (.int .i64 y)) = W1 at g1 b1 ⊢
  have g0 := grown_set W1 b 2 (.int .i64 z)
  have b0 : (W1.setCell ⟨b, 2, none⟩ (.int .i64 z)).heap[b]? = some (.cells #[.int .i64 x, .int .i64 y, .int .i64 z] t (0, 0)) := by simpa using blk_set b1 2 (.int .i64 z)
  exact ⟨b0, (g2.trans g1).trans g0⟩
theorem mot_grown {W W' : World} {b t r : Nat} {p v a : Int} (h : Mot W b t p v a) (hg : W.grownBy W' (some r)) (hb : b ≠ r) : Mot W' b t p v a := (hg.block b h.lt (fun e => hb (Option.some.inj e))).trans h
theorem below_grown {w W W' : World} {r : Nat} (hB : Below w.heap.size w W) (hg : W.grownBy W' (some r)) (hr : w.heap.size ≤ r) : Below w.heap.size w W' := abide_below (b := w.heap.size) (c := r) (Nat.le_refl _) () W W' (some r) hB hg (fun k e => by cases e; exact ⟨hr, Nat.le_refl _⟩)

theorem argOf {w : World} {A : Option Addr} {l : List Int} (hr : Kd.C (Kd.int .i64) w A l.length l) : (A = none → l = []) ∧ ∀ ad, A = some ad → ∀ j, j < l.length → w.cell? (ad.add j) = some (.int .i64 (rd l j)) := by
  refine ⟨fun e => ?_, fun ad e j hj => ?_⟩
  · cases l with
    | nil => rfl
    | cons x l =>
      obtain ⟨ad, e', _⟩ := Kd.at_int hr 0 (by omega) (by simp)
      rw [e] at e'
      cases e'
  · obtain ⟨ad', e', h⟩ := Kd.at_int hr j (by omega) (by omega)
    rw [e] at e'
    cases e'
    simpa using h

set_option maxRecDepth 100000 in
set_option maxHeartbeats 4000000 in
theorem final_in (n : Nat) (hn : 3 ≤ n) (p v a : Int) (A : Option Addr) (xs : List Int) (cap : Nat) (w : World) (hN : A = none → xs = []) (hc : ∀ ad, A = some ad → ∀ j, j < xs.length → w.cell? (ad.add j) = some (.int .i64 (rd xs j))) (hmax : xs.length ≤ 9223372036854775807) :
    CallsIn Fence.wide n Try.prog 18 #[.agg #[.int .i64 p, .int .i64 v, .int .i64 a], .slice A xs.length cap] w fun e W' =>
      (e = .returned (.agg #[.int .i64 (lastOf p v a (tr p v a xs)).1, .int .i64 (lastOf p v a (tr p v a xs)).2.1, .int .i64 (lastOf p v a (tr p v a xs)).2.2])) ∧ Below w.heap.size w W' := by
  have h1 : 1 ≤ n := by omega
  refine callsIn_of_wp_marks Try.func18 rfl trivial ?_ rfl
  simp only [Try.ntmps18, List.size_toArray, List.length_cons, List.length_nil, Nat.reduceAdd, Nat.reduceSub, Array.replicate_succ, Array.replicate_zero, List.push_toArray, List.append_toArray, List.nil_append, List.cons_append]
  gi_wp2_with (refine ⟨trivial, ?_⟩; gi_at_call 51; refine (ticks_in (n - 1) _ _ _ _ _ _ _).mono ?_; rintro e w' ⟨rfl, rfl⟩)
  have hL := lies4 w (Obj.cells #[Value.int IntKind.i64 p, Value.int IntKind.i64 v, Value.int IntKind.i64 a] 33 (0, 0)) (Obj.cells #[Value.int IntKind.i64 0, Value.int IntKind.i64 0, Value.int IntKind.i64 0] 33 (0, 0)) (Obj.cells #[Value.int IntKind.i64 p, Value.int IntKind.i64 v, Value.int IntKind.i64 a] 33 (0, 0)) (Obj.cells #[Value.slice A xs.length cap] 27 (0, 0)) _ rfl
  obtain ⟨W0, hW0⟩ : ∃ W0, (((w.alloc (Obj.cells #[Value.int IntKind.i64 p, Value.int IntKind.i64 v, Value.int IntKind.i64 a] 33 (0, 0))).alloc (Obj.cells #[Value.int IntKind.i64 0, Value.int IntKind.i64 0, Value.int IntKind.i64 0] 33 (0, 0))).alloc (Obj.cells #[Value.int IntKind.i64 p, Value.int IntKind.i64 v, Value.int IntKind.i64 a] 33 (0, 0))).alloc (Obj.cells #[Value.slice A xs.length cap] 27 (0, 0)) = W0 := ⟨_, rfl⟩
  rw [hW0] at hL ⊢
  clear hW0
  obtain ⟨b0, b1, b2, b3, hsz, hB0⟩ := hL
  have hc0 : ∀ ad, A = some ad → ∀ j, j < xs.length → W0.cell? (ad.add j) = some (.int .i64 (rd xs j)) := fun ad e j hj => (hB0.cell (World.block_lt_of_cell? w _ (hc ad e j hj))).trans (hc ad e j hj)
  have hA : ∀ ad, A = some ad → 0 < xs.length → ad.block < w.heap.size := fun ad e h0 => World.block_lt_of_cell? w _ (hc ad e 0 h0)
  refine wpIn_range rfl h1 (gf := 76) (lb := #[.pointer (some ⟨w.heap.size + 1 + 1, 0, none⟩), .pointer (some ⟨w.heap.size + 1 + 1 + 1, 0, none⟩)]) rfl trivial enters1
    (ticks_seq (n - 1) (by omega) (w.heap.size + 1 + 1) (w.heap.size + 1 + 1 + 1) w.heap.size p v a A xs cap W0 b2 b3 hA (by omega) hN hc0 hmax) (Below.refl _ _) (by omega) (fun _ => rfl)
    (fun pre W => (Mot W w.heap.size 33 (lastOf p v a pre).1 (lastOf p v a pre).2.1 (lastOf p v a pre).2.2 ∧ Mot W (w.heap.size + 1) 33 0 0 0) ∧ Below w.heap.size w W)
    (fun _ _ _ => False)
    (fun x a' W => ∃ Bx, W0.heap.size + 2 < Bx ∧ Mot W Bx 33 x.2.1 x.2.2.1 x.2.2.2 ∧ a' = { tmps := #[.agg #[.int .i64 p, .int .i64 v, .int .i64 a], .slice A xs.length cap, .pointer (some ⟨w.heap.size, 0, none⟩), undef, .pointer (some ⟨w.heap.size + 1, 0, none⟩), undef, .pointer (some ⟨Bx, 0, none⟩), .agg #[.int .i64 p, .int .i64 v, .int .i64 a], .slice A xs.length cap, .func (.func 76) #[] #[.pointer (some ⟨w.heap.size + 1 + 1, 0, none⟩), .pointer (some ⟨w.heap.size + 1 + 1 + 1, 0, none⟩)], .int .i64 x.1, .agg #[.int .i64 x.2.1, .int .i64 x.2.2.1, .int .i64 x.2.2.2], undef, undef], defers := [] })
    (Abide.and (Abide.and (abide_block (by omega)) (abide_block (by omega))) (abide_below (by omega)))
    (fun _ => Abide.no)
    (fun x a' A B row hs hg hr => by obtain ⟨Bx, e1, e2, e3⟩ := hs; exact ⟨Bx, e1, (hg.block Bx e2.lt (fun e => by have := hr Bx e.symm; omega)).trans e2, e3⟩)
    ⟨⟨b0, b1⟩, hB0⟩ ?assign ?body ?done ?stop
  case assign =>
    rintro l pre x W K ⟨⟨c0, c1⟩, hB1⟩ hlt hK
    dsimp only [enc]
    gi_wp2
    exact hK _ _ ((Keep.refl _ _ _ _).alloc _) ⟨⟨(Below.heap_alloc W _ _ c0.lt).trans c0, (Below.heap_alloc W _ _ c1.lt).trans c1⟩, hB1.alloc hB1.size _⟩ ⟨W.heap.size, hlt, heap_alloc_new W _, rfl⟩
  case body =>
    rintro l pre x a' W ⟨⟨c0, c1⟩, hB1⟩ ⟨Bx, hBx, bX, rfl⟩ hlt _
    have x0 := bX.c0
    have x1 := bX.c1
    have x2 := bX.c2
    have y0 := c0.c0
    have y1 := c0.c1
    have y2 := c0.c2
    have f0 := c0.fz 0
    have f1 := c0.fz 1
    have f2 := c0.fz 2
    gi_wp2
    obtain ⟨m1, g1⟩ := mot_set3 c0 x.2.1 x.2.2.1 x.2.2.2
    exact ⟨Keep.of_grownBy g1 (fun r e => by cases e; omega), ⟨by rw [lastOf_snoc]; exact m1, mot_grown c1 g1 (by omega)⟩, below_grown hB1 g1 (Nat.le_refl _)⟩
  case done =>
    rintro ys W rfl ⟨⟨c0, c1⟩, hB1⟩ hK
    have k0 := c0.c0
    have k1 := c0.c1
    have k2 := c0.c2
    have y0 := c1.c0
    have y1 := c1.c1
    have y2 := c1.c2
    have f0 := c1.fz 0
    have f1 := c1.fz 1
    have f2 := c1.fz 2
    gi_wp2
    obtain ⟨m1, g1⟩ := mot_set3 c1 (lastOf p v a (tr p v a xs)).1 (lastOf p v a (tr p v a xs)).2.1 (lastOf p v a (tr p v a xs)).2.2
    have hK' := (g1.block _ (Array.getElem?_eq_some_iff.1 hK).1 (fun e => by have e' : W0.heap.size = w.heap.size + 1 := Option.some.inj e; omega)).trans hK
    have hB2 := below_grown hB1 g1 (by omega)
    refine ⟨by simp, .inl ⟨_, _, rfl, run_takeDeferred hK', ?_⟩⟩
    have g2 := grownBy_putObj' (((W.setCell ⟨w.heap.size + 1, 0, none⟩ (.int .i64 (lastOf p v a (tr p v a xs)).1)).setCell ⟨w.heap.size + 1, 1, none⟩ (.int .i64 (lastOf p v a (tr p v a xs)).2.1)).setCell ⟨w.heap.size + 1, 2, none⟩ (.int .i64 (lastOf p v a (tr p v a xs)).2.2)) W0.heap.size (.deferred none)
    have m2 := mot_grown m1 g2 (by omega)
    have q0 := m2.c0
    have q1 := m2.c1
    have q2 := m2.c2
    exact ⟨.agg #[.int .i64 (lastOf p v a (tr p v a xs)).1, .int .i64 (lastOf p v a (tr p v a xs)).2.1, .int .i64 (lastOf p v a (tr p v a xs)).2.2], by simp [results, Try.results18, go_sem, q0, q1, q2], rfl, below_grown hB2 g2 (by omega)⟩
  case stop =>
    rintro c pre W _ h _
    exact h.elim

theorem boxed_grown {W W' : World} {b t r : Nat} {v : Value} (h : Boxed W b t v) (hg : W.grownBy W' (some r)) (hb : b ≠ r) : Boxed W' b t v := h.kept hg (fun e => hb (Option.some.inj e))
theorem mot_below {B : Nat} {W W' : World} {b t : Nat} {p v a : Int} (h : Mot W b t p v a) (hB : Below B W W') (hb : b < B) : Mot W' b t p v a := (hB.block b hb).trans h
theorem boxed_below {B : Nat} {W W' : World} {b t : Nat} {v : Value} (h : Boxed W b t v) (hB : Below B W W') (hb : b < B) : Boxed W' b t v := (hB.block b hb).trans h
theorem grown_below {b c : Nat} {W W' : World} {β : Type} {I : β → World → Prop} (h : Abide b c I) (hB : Below W.heap.size W W') {s : β} (hs : I s W) : I s W' :=
  h s W W' none hs ⟨hB.os, hB.tape, hB.output, hB.size, fun k hk _ => hB.block k hk⟩ (fun r e => by cases e)
theorem keep_below {a b c : Nat} {W W' : World} (hB : Below W.heap.size W W') : Keep a b c W W' := ⟨hB.size, fun k _ hk => hB.block k hk⟩

set_option maxRecDepth 100000 in
set_option maxHeartbeats 4000000 in
theorem within_in (Wf : Int → Int → Bool) (Ff : Int → Int → Int → Int → Int → Int → Bool)
    (hw : ∀ x y w, Calls Try.prog 53 #[.int .i64 x, .int .i64 y] w fun e w' => e = .returned (.bool (Wf x y)) ∧ Below w.heap.size w w')
    (hf : ∀ x y z p v a w, Calls Try.prog 52 #[.agg #[.int .i64 x, .int .i64 y, .int .i64 z], .agg #[.int .i64 p, .int .i64 v, .int .i64 a]] w fun e w' => e = .returned (.bool (Ff x y z p v a)) ∧ Below w.heap.size w w')
    (n : Nat) (hn : 3 ≤ n) (x y z p v a : Int) (A : Option Addr) (xs : List Int) (cap : Nat) (w : World) (hN : A = none → xs = []) (hc : ∀ ad, A = some ad → ∀ j, j < xs.length → w.cell? (ad.add j) = some (.int .i64 (rd xs j))) (hmax : xs.length ≤ 9223372036854775807) :
    CallsIn Fence.wide n Try.prog 19 #[.agg #[.int .i64 x, .int .i64 y, .int .i64 z], .agg #[.int .i64 p, .int .i64 v, .int .i64 a], .slice A xs.length cap] w fun e W' =>
      (e = .returned (.bool (Ff x y z p v a && (tr p v a xs).all fun q => Wf q.1 z && Ff x y z q.2.1 q.2.2.1 q.2.2.2))) ∧ Below w.heap.size w W' := by
  have h1 : 1 ≤ n := by omega
  refine callsIn_of_wp_marks Try.func19 rfl trivial ?_ rfl
  simp only [Try.ntmps19, List.size_toArray, List.length_cons, List.length_nil, Nat.reduceAdd, Nat.reduceSub, Array.replicate_succ, Array.replicate_zero, List.push_toArray, List.append_toArray, List.nil_append, List.cons_append]
  have hwH := Aside0.mk hw
  clear hw
  have hfH := Aside0.mk hf
  clear hf
  have hL := Aside0.mk (lies3 w (Obj.cells #[Value.int IntKind.i64 x, Value.int IntKind.i64 y, Value.int IntKind.i64 z] 25 (0, 0)) (Obj.cells #[Value.int IntKind.i64 p, Value.int IntKind.i64 v, Value.int IntKind.i64 a] 33 (0, 0)) (Obj.cells #[Value.bool false] 4 (0, 0)))
  cases hff : Ff x y z p v a with
  | false =>
    gi_wp2_with (refine ⟨trivial, ?_⟩; gi_at_call 52; refine (callsIn_wide.2 (hfH.out _ _ _ _ _ _ _)).mono ?_; rintro e w2 ⟨rfl, hB2⟩; rw [hff]; obtain ⟨bl, bm, br, hsz, hBw⟩ := hL.out w2 hB2; clear hB2; have br' : Boxed w2 (w.heap.size + 1 + 1) 4 (.bool false) := br; have c1 := br'.cell; have f1 := br'.frozen)
    have br2 := br'.set (.bool false)
    have c2 := br2.cell
    exact ⟨.bool false, by simp [results, Try.results19, go_sem, c2], rfl, below_grown hBw (grownBy_setCell' _ _ _) (by omega)⟩
  | true =>
    gi_wp2_with (refine ⟨trivial, ?_⟩; first | (gi_at_call 52; refine (callsIn_wide.2 (hfH.out _ _ _ _ _ _ _)).mono ?_; rintro e w2 ⟨rfl, hB2⟩; rw [hff]; obtain ⟨bl, bm, br, hsz, hBw⟩ := hL.out w2 hB2; clear hB2; have bm' : Mot w2 (w.heap.size + 1) 33 p v a := bm; have m0 := bm'.c0; have m1 := bm'.c1; have m2 := bm'.c2) | (gi_at_call 51; refine (ticks_in (n - 1) _ _ _ _ _ _ _).mono ?_; rintro e w' ⟨rfl, rfl⟩))
    have hL2 := lies2 w2 (Obj.cells #[Value.int IntKind.i64 p, Value.int IntKind.i64 v, Value.int IntKind.i64 a] 33 (0, 0)) (Obj.cells #[Value.slice A xs.length cap] 27 (0, 0)) _ rfl
    obtain ⟨W0, hW0⟩ : ∃ W0, (w2.alloc (Obj.cells #[Value.int IntKind.i64 p, Value.int IntKind.i64 v, Value.int IntKind.i64 a] 33 (0, 0))).alloc (Obj.cells #[Value.slice A xs.length cap] 27 (0, 0)) = W0 := ⟨_, rfl⟩
    rw [hW0] at hL2 ⊢
    clear hW0
    obtain ⟨b2, b3, hsz0, hB02⟩ := hL2
    have hB0 : Below w.heap.size w W0 := hBw.trans (hB02.mono (by omega))
    have bl0 : Mot W0 w.heap.size 25 x y z := mot_below bl hB02 (by omega)
    have br0 : Boxed W0 (w.heap.size + 2) 4 (.bool false) := boxed_below br hB02 (by omega)
    have hc0 : ∀ ad, A = some ad → ∀ j, j < xs.length → W0.cell? (ad.add j) = some (.int .i64 (rd xs j)) := fun ad e j hj => (hB0.cell (World.block_lt_of_cell? w _ (hc ad e j hj))).trans (hc ad e j hj)
    have hA : ∀ ad, A = some ad → 0 < xs.length → ad.block < w.heap.size := fun ad e h0 => World.block_lt_of_cell? w _ (hc ad e 0 h0)
    refine wpIn_range rfl h1 (gf := 76) (lb := #[.pointer (some ⟨w2.heap.size, 0, none⟩), .pointer (some ⟨w2.heap.size + 1, 0, none⟩)]) rfl trivial enters1
      (ticks_seq (n - 1) (by omega) w2.heap.size (w2.heap.size + 1) w.heap.size p v a A xs cap W0 b2 b3 hA (by omega) hN hc0 hmax) (Below.refl _ _) (by omega) (fun _ => rfl)
      (fun pre W => (((pre.all fun q => Wf q.1 z && Ff x y z q.2.1 q.2.2.1 q.2.2.2) = true ∧ Mot W w.heap.size 25 x y z) ∧ Boxed W (w.heap.size + 2) 4 (.bool false)) ∧ Below w.heap.size w W)
      (fun c pre W => ((c = .ret ∧ (pre.all fun q => Wf q.1 z && Ff x y z q.2.1 q.2.2.1 q.2.2.2) = false) ∧ Boxed W (w.heap.size + 2) 4 (.bool false)) ∧ Below w.heap.size w W)
      (fun q a' W => ∃ Bx, W0.heap.size + 2 < Bx ∧ Mot W Bx 33 q.2.1 q.2.2.1 q.2.2.2 ∧ a' = { tmps := #[.agg #[.int .i64 x, .int .i64 y, .int .i64 z], .agg #[.int .i64 p, .int .i64 v, .int .i64 a], .slice A xs.length cap, .pointer (some ⟨w.heap.size, 0, none⟩), .pointer (some ⟨w.heap.size + 1, 0, none⟩), undef, .pointer (some ⟨w.heap.size + 1 + 1, 0, none⟩), .int .i64 q.1, .pointer (some ⟨Bx, 0, none⟩), .agg #[.int .i64 x, .int .i64 y, .int .i64 z], .agg #[.int .i64 p, .int .i64 v, .int .i64 a], .bool true, .bool false, .agg #[.int .i64 p, .int .i64 v, .int .i64 a], .slice A xs.length cap, .func (.func 76) #[] #[.pointer (some ⟨w2.heap.size, 0, none⟩), .pointer (some ⟨w2.heap.size + 1, 0, none⟩)], .int .i64 q.1, .agg #[.int .i64 q.2.1, .int .i64 q.2.2.1, .int .i64 q.2.2.2], undef, undef, undef, undef, undef, undef, undef, undef, undef, undef, undef], defers := [] })
      (Abide.and (Abide.and (Abide.and (Abide.pure _) (abide_block (by omega))) (abide_block (by omega))) (abide_below (by omega)))
      (fun _ => Abide.and (Abide.and (Abide.pure _) (abide_block (by omega))) (abide_below (by omega)))
      (fun q a' A B row hs hg hr => by obtain ⟨Bx, e1, e2, e3⟩ := hs; exact ⟨Bx, e1, (hg.block Bx e2.lt (fun e => by have := hr Bx e.symm; omega)).trans e2, e3⟩)
      ⟨⟨⟨rfl, bl0⟩, br0⟩, hB0⟩ ?assign ?body ?done ?stop
    case assign =>
      rintro l pre q W K ⟨⟨⟨hp, c0⟩, c1⟩, hB1⟩ hlt hK
      dsimp only [enc]
      gi_wp2
      exact hK _ _ ((Keep.refl _ _ _ _).alloc _) ⟨⟨⟨hp, (Below.heap_alloc W _ _ c0.lt).trans c0⟩, c1.alloc _⟩, hB1.alloc hB1.size _⟩ ⟨W.heap.size, hlt, heap_alloc_new W _, rfl⟩
    case body =>
      rintro l pre q a' W ⟨⟨⟨hp, c0⟩, c1⟩, hB1⟩ ⟨Bx, hBx, bX, rfl⟩ hlt _
      have y0 := c0.c0
      have y1 := c0.c1
      have y2 := c0.c2
      cases hwq : Wf q.1 z with
      | false =>
        gi_wp2_with first | (refine ⟨trivial, fun _ => by omega, ?_⟩; gi_at_call 53; refine (CallsIn.inRound l (callsIn_wide.2 (hwH.out _ _ _))).mono ?_; rintro e w3 ⟨rfl, hB3⟩; rw [hwq]; have r3 : Boxed w3 (w.heap.size + 1 + 1) 4 (.bool false) := boxed_below c1 hB3 c1.lt; have k3 := r3.cell; have g3 := r3.frozen; have l3 := mot_below c0 hB3 c0.lt; have l30 := l3.c0; have l31 := l3.c1; have l32 := l3.c2; have x3 := mot_below bX hB3 bX.lt; have x30 := x3.c0; have x31 := x3.c1; have x32 := x3.c2) | (refine ⟨trivial, ?_⟩)
        exact ⟨((keep_below hB3).trans (Keep.of_grownBy (grownBy_setCell' w3 (w.heap.size + 1 + 1) (.bool false)) (fun r e => by cases e; omega))), ⟨⟨rfl, by rw [List.all_append, hp]; simp [hwq]⟩, r3.set (.bool false)⟩, below_grown (hB1.trans (hB3.mono hB1.size)) (grownBy_setCell' _ _ _) (by omega)⟩
      | true =>
        cases hfq : Ff x y z q.2.1 q.2.2.1 q.2.2.2 with
        | false =>
          gi_wp2_with first | (refine ⟨trivial, fun _ => by omega, ?_⟩; gi_at_call 53; refine (CallsIn.inRound l (callsIn_wide.2 (hwH.out _ _ _))).mono ?_; rintro e w3 ⟨rfl, hB3⟩; rw [hwq]; have r3 : Boxed w3 (w.heap.size + 1 + 1) 4 (.bool false) := boxed_below c1 hB3 c1.lt; have k3 := r3.cell; have g3 := r3.frozen; have l3 := mot_below c0 hB3 c0.lt; have l30 := l3.c0; have l31 := l3.c1; have l32 := l3.c2; have x3 := mot_below bX hB3 bX.lt; have x30 := x3.c0; have x31 := x3.c1; have x32 := x3.c2) | (refine ⟨trivial, fun _ => by omega, ?_⟩; gi_at_call 52; refine (CallsIn.inRound l (callsIn_wide.2 (hfH.out _ _ _ _ _ _ _))).mono ?_; rintro e w4 ⟨rfl, hB4⟩; rw [hfq]; have r4 : Boxed w4 (w.heap.size + 1 + 1) 4 (.bool false) := boxed_below r3 hB4 r3.lt; have k4 := r4.cell; have g4 := r4.frozen)
          exact ⟨(((keep_below hB3).trans (keep_below hB4)).trans (Keep.of_grownBy (grownBy_setCell' w4 (w.heap.size + 1 + 1) (.bool false)) (fun r e => by cases e; omega))), ⟨⟨rfl, by rw [List.all_append, hp]; simp [hfq]⟩, r4.set (.bool false)⟩, below_grown ((hB1.trans (hB3.mono hB1.size)).trans (hB4.mono (Nat.le_trans hB1.size hB3.size))) (grownBy_setCell' _ _ _) (by omega)⟩
        | true =>
          gi_wp2_with first | (refine ⟨trivial, fun _ => by omega, ?_⟩; gi_at_call 53; refine (CallsIn.inRound l (callsIn_wide.2 (hwH.out _ _ _))).mono ?_; rintro e w3 ⟨rfl, hB3⟩; rw [hwq]; have r3 : Boxed w3 (w.heap.size + 1 + 1) 4 (.bool false) := boxed_below c1 hB3 c1.lt; have k3 := r3.cell; have g3 := r3.frozen; have l3 := mot_below c0 hB3 c0.lt; have l30 := l3.c0; have l31 := l3.c1; have l32 := l3.c2; have x3 := mot_below bX hB3 bX.lt; have x30 := x3.c0; have x31 := x3.c1; have x32 := x3.c2) | (refine ⟨trivial, fun _ => by omega, ?_⟩; gi_at_call 52; refine (CallsIn.inRound l (callsIn_wide.2 (hfH.out _ _ _ _ _ _ _))).mono ?_; rintro e w4 ⟨rfl, hB4⟩; rw [hfq]; have r4 : Boxed w4 (w.heap.size + 1 + 1) 4 (.bool false) := boxed_below r3 hB4 r3.lt; have k4 := r4.cell; have g4 := r4.frozen)
          exact ⟨(keep_below hB3).trans (keep_below hB4), ⟨⟨by rw [List.all_append, hp]; simp [hwq, hfq], mot_below l3 hB4 l3.lt⟩, r4⟩, (hB1.trans (hB3.mono hB1.size)).trans (hB4.mono (Nat.le_trans hB1.size hB3.size))⟩
    case done =>
      rintro ys W rfl ⟨⟨⟨hp, c0⟩, c1⟩, hB1⟩ hK
      have c1' : Boxed W (w.heap.size + 1 + 1) 4 (.bool false) := c1
      have k0 := c1'.cell
      have f0 := c1'.frozen
      gi_wp2
      have c2 := c1'.set (.bool true)
      have g1 := grownBy_setCell' W (w.heap.size + 1 + 1) (.bool true)
      have hK' := (g1.block _ (Array.getElem?_eq_some_iff.1 hK).1 (fun e => by have e' : W0.heap.size = w.heap.size + 1 + 1 := Option.some.inj e; omega)).trans hK
      refine ⟨by simp, .inl ⟨_, _, rfl, run_takeDeferred hK', ?_⟩⟩
      have g2 := grownBy_putObj' (W.setCell ⟨w.heap.size + 1 + 1, 0, none⟩ (.bool true)) W0.heap.size (.deferred none)
      have c3 := (boxed_grown c2 g2 (by omega)).cell
      exact ⟨.bool true, by simp [results, Try.results19, go_sem, c3], by rw [hp]; rfl, below_grown (below_grown hB1 g1 (by omega)) g2 (by omega)⟩
    case stop =>
      rintro c pre W hpre ⟨⟨⟨rfl, hp⟩, c1⟩, hB1⟩ hK
      have c1' : Boxed W (w.heap.size + 1 + 1) 4 (.bool false) := c1
      gi_wp2
      refine ⟨by simp, .inl ⟨_, _, rfl, run_takeDeferred hK, ?_⟩⟩
      have g2 := grownBy_putObj' W W0.heap.size (.deferred none)
      have c3 := (boxed_grown c1' g2 (by omega)).cell
      have hall : ((tr p v a xs).all fun q => Wf q.1 z && Ff x y z q.2.1 q.2.2.1 q.2.2.2) = false := by
        obtain ⟨t, ht⟩ := hpre
        rw [← ht, List.all_append, hp, Bool.false_and]
      exact ⟨.bool false, by simp [results, Try.results19, go_sem, c3], by rw [hall]; rfl, below_grown hB1 g2 (by omega)⟩

/-- The cells of the states. -/
def cellsOf (l : List (Int × Int × Int × Int)) : List Value := l.flatMap fun x => [.int .i64 x.2.1, .int .i64 x.2.2.1, .int .i64 x.2.2.2]
theorem cellsOf_snoc (l : List (Int × Int × Int × Int)) (x : Int × Int × Int × Int) : cellsOf (l ++ [x]) = cellsOf l ++ [.int .i64 x.2.1, .int .i64 x.2.2.1, .int .i64 x.2.2.2] := by simp [cellsOf]
theorem info29 : (Try.prog.info? 33).map (fun i => (i.zero, i.size, i.bytes)) = some (some (.agg #[.int .i64 0, .int .i64 0, .int .i64 0]), 3, 24) := by kernel_rfl
theorem rowGrown {W W' : World} {base e size k : Nat} {v : Value} {xs : List Value} {row : Option Nat} (h : W.ownsRow base e size v k xs) (hg : W.grownBy W' row) (hr : ∀ b, v.ownBlock = some b → row ≠ some b) : W'.ownsRow base e size v k xs := by
  obtain ⟨h1, h2 | ⟨g, cap, cur, rfl, hb, hh, hr2⟩⟩ := h
  · exact ⟨h1, .inl h2⟩
  · exact ⟨h1, .inr ⟨g, cap, cur, rfl, hb, (hg.block g (Array.getElem?_eq_some_iff.1 hh).1 (hr g rfl).symm).trans hh, hr2⟩⟩
theorem row_not {W : World} {b t e : Nat} {u : Value} (h : Boxed W b t u) (hte : t ≠ e) {base size k : Nat} {v : Value} {xs : List Value} (hr : W.ownsRow base e size v k xs) : some b ≠ v.ownBlock := h.not_row hte hr
theorem below_row {w W W' : World} {row : Option Nat} (hB : Below w.heap.size w W) (hg : W.grownBy W' row) (hr : ∀ r, row = some r → w.heap.size ≤ r) : Below w.heap.size w W' :=
  ⟨hg.os.trans hB.os, hg.tape.trans hB.tape, hg.output.trans hB.output, Nat.le_trans hB.size hg.size, fun k hk => (hg.block k (Nat.lt_of_lt_of_le hk hB.size) (fun e => by have := hr k e.symm; omega)).trans (hB.block k hk)⟩
theorem three_new (W : World) (x y z : Int) (t : Nat) : ∀ (j : Nat) (u : Value), [Value.int .i64 x, .int .i64 y, .int .i64 z][j]? = some u → (W.alloc (.cells #[.int .i64 x, .int .i64 y, .int .i64 z] t (0, 0))).cell? ((⟨W.heap.size, 0, none⟩ : Addr).add j) = some u := by
  intro j u hj
  have hb := heap_alloc_new W (.cells #[.int .i64 x, .int .i64 y, .int .i64 z] t (0, 0))
  match j, hj with
  | 0, hj => exact (blk_cell hb 0).trans (by simpa using hj)
  | 1, hj => exact (blk_cell hb 1).trans (by simpa using hj)
  | 2, hj => exact (blk_cell hb 2).trans (by simpa using hj)
  | k + 3, hj => simp at hj
theorem lies5 (w : World) (o1 o2 o3 o4 o5 : Obj) (W : World) (hW : ((((w.alloc o1).alloc o2).alloc o3).alloc o4).alloc o5 = W) :
    W.heap[w.heap.size]? = some o1 ∧ W.heap[w.heap.size + 1]? = some o2 ∧ W.heap[w.heap.size + 2]? = some o3 ∧ W.heap[w.heap.size + 3]? = some o4 ∧ W.heap[w.heap.size + 4]? = some o5 ∧ W.heap.size = w.heap.size + 5 ∧ Below w.heap.size w W := by
  obtain ⟨a1, a2, a3, a4, s4, b4⟩ := lies4 w o1 o2 o3 o4 _ rfl
  obtain ⟨a5, s5, k5, b5⟩ := lies ((((w.alloc o1).alloc o2).alloc o3).alloc o4) o5 W hW
  rw [s4] at a5 s5 k5
  exact ⟨by rw [k5 _ (by omega), a1], by rw [k5 _ (by omega), a2], by rw [k5 _ (by omega), a3], by rw [k5 _ (by omega), a4], a5, by omega, b4.trans (b5 _ (by omega))⟩
/-- The list that grows: the box, the row in it, and where the row does not lie. -/
structure Grows (b lo hi : Nat) (base : Nat) (pre : List (Int × Int × Int × Int)) (W : World) : Prop where
  row : ∃ v, Boxed W b 38 v ∧ W.ownsRow base 33 3 v pre.length (cellsOf pre) ∧ ∀ k, v.ownBlock = some k → ¬ (lo ≤ k ∧ k ≤ hi)
theorem Grows.abide {b lo hi base : Nat} (hb : b < lo) : Abide lo hi (Grows b lo hi base) := by
  rintro s A B row ⟨v, h1, h2, h3⟩ hg hr
  exact ⟨v, h1.kept hg (fun e => by have := hr b e.symm; omega), rowGrown h2 hg (fun k e e' => h3 k e (hr k e')), h3⟩

set_option maxRecDepth 100000 in
set_option maxHeartbeats 4000000 in
theorem simulate_in (n : Nat) (hn : 3 ≤ n) (p v a : Int) (A : Option Addr) (xs : List Int) (cap : Nat) (w : World) (hN : A = none → xs = []) (hc : ∀ ad, A = some ad → ∀ j, j < xs.length → w.cell? (ad.add j) = some (.int .i64 (rd xs j))) (hmax : xs.length ≤ 1000000000000) :
    CallsIn Fence.wide n Try.prog 20 #[.agg #[.int .i64 p, .int .i64 v, .int .i64 a], .slice A xs.length cap] w fun e W' =>
      ∃ u, e = .returned u ∧ W'.ownsRow w.heap.size 33 3 u xs.length (cellsOf (tr p v a xs)) ∧ Below w.heap.size w W' := by
  have h1 : 1 ≤ n := by omega
  obtain ⟨i0, hi, hz0, hz1, hz2⟩ := info_parts info29
  have hmk : ∀ W : World, (Instr.makeSlice 38 (.int .i64 0) (.int .i64 xs.length)).run Try.prog W = .ok (.slice (some ⟨W.heap.size, 0, none⟩) 0 xs.length) (W.alloc (.cells (madeCells (Value.agg #[.int .i64 0, .int .i64 0, .int .i64 0]).cells (xs.length * i0.size)) 33 (0, 0))) := fun W => by
    have := run_make (P := Try.prog) W 38 33 i0 _ Try.underlying38 hi hz0 .i64 .i64 0 (xs.length : Int) (by omega) (by omega) (by rw [hz2]; omega) (by omega)
    simpa using this
  refine callsIn_of_wp_marks Try.func20 rfl trivial ?_ rfl
  simp only [Try.ntmps20, List.size_toArray, List.length_cons, List.length_nil, Nat.reduceAdd, Nat.reduceSub, Array.replicate_succ, Array.replicate_zero, List.push_toArray, List.append_toArray, List.nil_append, List.cons_append]
  gi_wp2_with (refine ⟨trivial, ?_⟩; gi_at_call 51; refine (ticks_in (n - 1) _ _ _ _ _ _ _).mono ?_; rintro e w' ⟨rfl, rfl⟩)
  have hL := lies5 w (Obj.cells #[Value.int IntKind.i64 p, Value.int IntKind.i64 v, Value.int IntKind.i64 a] 33 (0, 0)) (Obj.cells (madeCells #[Value.int IntKind.i64 0, Value.int IntKind.i64 0, Value.int IntKind.i64 0] (xs.length * 3)) 33 (0, 0)) (Obj.cells #[Value.slice (some ⟨w.heap.size + 1, 0, none⟩) 0 xs.length] 38 (0, 0)) (Obj.cells #[Value.int IntKind.i64 p, Value.int IntKind.i64 v, Value.int IntKind.i64 a] 33 (0, 0)) (Obj.cells #[Value.slice A xs.length cap] 27 (0, 0)) _ rfl
  obtain ⟨W0, hW0⟩ : ∃ W0, ((((w.alloc (Obj.cells #[Value.int IntKind.i64 p, Value.int IntKind.i64 v, Value.int IntKind.i64 a] 33 (0, 0))).alloc (Obj.cells (madeCells #[Value.int IntKind.i64 0, Value.int IntKind.i64 0, Value.int IntKind.i64 0] (xs.length * 3)) 33 (0, 0))).alloc (Obj.cells #[Value.slice (some ⟨w.heap.size + 1, 0, none⟩) 0 xs.length] 38 (0, 0))).alloc (Obj.cells #[Value.int IntKind.i64 p, Value.int IntKind.i64 v, Value.int IntKind.i64 a] 33 (0, 0))).alloc (Obj.cells #[Value.slice A xs.length cap] 27 (0, 0)) = W0 := ⟨_, rfl⟩
  rw [hW0] at hL ⊢
  clear hW0
  obtain ⟨_, b1, b2, b3, b4, hsz, hB0⟩ := hL
  have hc0 : ∀ ad, A = some ad → ∀ j, j < xs.length → W0.cell? (ad.add j) = some (.int .i64 (rd xs j)) := fun ad e j hj => (hB0.cell (World.block_lt_of_cell? w _ (hc ad e j hj))).trans (hc ad e j hj)
  have hA : ∀ ad, A = some ad → 0 < xs.length → ad.block < w.heap.size := fun ad e h0 => World.block_lt_of_cell? w _ (hc ad e 0 h0)
  have hrow0 : W0.ownsRow w.heap.size 33 3 (.slice (some ⟨w.heap.size + 1, 0, none⟩) 0 xs.length) 0 [] :=
    ⟨by simp, .inr ⟨w.heap.size + 1, xs.length, _, rfl, by omega, b1, Nat.zero_le _, by simp [maxLen]; omega, size_madeCells _ _, by simp⟩⟩
  refine wpIn_range rfl h1 (gf := 76) (lb := #[.pointer (some ⟨w.heap.size + 1 + 1 + 1, 0, none⟩), .pointer (some ⟨w.heap.size + 1 + 1 + 1 + 1, 0, none⟩)]) rfl trivial enters1
    (ticks_seq (n - 1) (by omega) (w.heap.size + 1 + 1 + 1) (w.heap.size + 1 + 1 + 1 + 1) w.heap.size p v a A xs cap W0 b3 b4 hA (by omega) hN hc0 (by omega)) (Below.refl _ _) (by omega) (fun _ => rfl)
    (fun pre W => Grows (w.heap.size + 1 + 1) W0.heap.size (W0.heap.size + 2) w.heap.size pre W ∧ Below w.heap.size w W)
    (fun _ _ _ => False)
    (fun q a' W => ∃ Bx, W0.heap.size + 2 < Bx ∧ Mot W Bx 33 q.2.1 q.2.2.1 q.2.2.2 ∧ a' = { tmps := #[.agg #[.int .i64 p, .int .i64 v, .int .i64 a], .slice A xs.length cap, .pointer (some ⟨w.heap.size, 0, none⟩), undef, .slice none 0 0, .pointer (some ⟨w.heap.size + 1 + 1, 0, none⟩), undef, .pointer (some ⟨Bx, 0, none⟩), .slice A xs.length cap, .int .i64 xs.length, .slice (some ⟨w.heap.size + 1, 0, none⟩) 0 xs.length, .agg #[.int .i64 p, .int .i64 v, .int .i64 a], .slice A xs.length cap, .func (.func 76) #[] #[.pointer (some ⟨w.heap.size + 1 + 1 + 1, 0, none⟩), .pointer (some ⟨w.heap.size + 1 + 1 + 1 + 1, 0, none⟩)], .int .i64 q.1, .agg #[.int .i64 q.2.1, .int .i64 q.2.2.1, .int .i64 q.2.2.2], undef, undef, undef, undef, undef], defers := [] })
    (Abide.and (Grows.abide (by omega)) (abide_below (by omega)))
    (fun _ => Abide.no)
    (fun q a' A B row hs hg hr => by obtain ⟨Bx, e1, e2, e3⟩ := hs; exact ⟨Bx, e1, (hg.block Bx e2.lt (fun e => by have := hr Bx e.symm; omega)).trans e2, e3⟩)
    ⟨⟨_, b2, hrow0, fun k hk => by simp [Value.ownBlock] at hk; omega⟩, hB0⟩ ?assign ?body ?done ?stop
  case assign =>
    rintro l pre q W K ⟨hgr, hB1⟩ hlt hK
    dsimp only [enc]
    gi_wp2
    exact hK _ _ ((Keep.refl _ _ _ _).alloc _) ⟨(Grows.abide (by omega)).alloc _ hgr, hB1.alloc hB1.size _⟩ ⟨W.heap.size, hlt, heap_alloc_new W _, rfl⟩
  case body =>
    rintro l pre q a' W ⟨⟨u, hv, hrow, hnot⟩, hB1⟩ ⟨Bx, hBx, bX, rfl⟩ hlt hpre
    have x0 := bX.c0
    have x1 := bX.c1
    have x2 := bX.c2
    have y0 := hv.cell
    gi_wp2_with (gi_at_builtin; refine wpListIn_append_own_at _ rfl _ _ 38 rfl w.heap.size 33 i0 (.agg #[.int .i64 0, .int .i64 0, .int .i64 0]) 3 24 Try.underlying38 hi hz0 hz1 hz2 rfl (by decide) _ _ _ rfl (hrow.alloc _) ⟨W.heap.size, 0, none⟩ 1 1 [.int .i64 q.2.1, .int .i64 q.2.2.1, .int .i64 q.2.2.2] rfl rfl (three_new W _ _ _ _) (by simp [Value.oneCell']) (by simp [maxLen]; omega) (by omega) (by have := hB1.size; simp; omega) ?_; intro u' w1 hown' hgrow _ hob; obtain ⟨g', cap', rfl⟩ := ownsRow_succ hown'; have hv1 := (hv.alloc (.cells #[.int .i64 q.2.1, .int .i64 q.2.2.1, .int .i64 q.2.2.2] 33 (0, 0))).kept hgrow (row_not hv (by decide) hrow); have hc1 := hv1.cell; have hf1 := hv1.frozen)
    have hg1 : (W.alloc (.cells #[.int .i64 q.2.1, .int .i64 q.2.2.1, .int .i64 q.2.2.2] 33 (0, 0))).grownBy w1 u.ownBlock := hgrow
    have hob' : u.ownBlock = some g' ∨ g' = W.heap.size + 1 := by
      rcases hob with h | h
      · exact .inl h.symm
      · exact .inr (by have := Option.some.inj h; simpa using this)
    have gA := World.grownBy_alloc W (.cells #[.int .i64 q.2.1, .int .i64 q.2.2.1, .int .i64 q.2.2.2] 33 (0, 0)) none
    have hlo : ∀ r, u.ownBlock = some r → w.heap.size ≤ r := fun r e => (hrow.lt r e).1
    have g2 := grownBy_setCell' w1 (w.heap.size + 1 + 1) (.slice (some ⟨g', 0, none⟩) (pre.length + 1) cap')
    have hB2 := below_grown (below_row (below_row hB1 gA (fun r e => by cases e)) hg1 hlo) g2 (by omega)
    have hK2 : Keep w.heap.size W0.heap.size (W0.heap.size + 2) W (w1.setCell ⟨w.heap.size + 1 + 1, 0, none⟩ (.slice (some ⟨g', 0, none⟩) (pre.length + 1) cap')) :=
      ((Keep.of_grownBy gA (fun r e => by cases e)).trans (Keep.of_grownBy hg1 (fun r e => by have := hlo r e; have := hnot r e; omega))).trans (Keep.of_grownBy g2 (fun r e => by cases e; omega))
    refine ⟨hK2, ⟨_, hv1.set _, ?_, ?_⟩, hB2⟩
    · rw [cellsOf_snoc, List.length_append]
      exact rowGrown hown' g2 (fun b hb e => (row_not hv1 (by decide) hown') (by rw [e, hb]))
    · intro k hk
      have e : g' = k := by simpa [Value.ownBlock] using hk
      subst e
      rcases hob' with h | h
      · exact hnot g' h
      · omega
  case done =>
    rintro ys W rfl ⟨⟨u, hv, hrow, hnot⟩, hB1⟩ hK
    have k0 := hv.cell
    gi_wp2
    refine ⟨by simp, .inl ⟨_, _, rfl, run_takeDeferred hK, ?_⟩⟩
    have g2 := grownBy_putObj' W W0.heap.size (.deferred none)
    exact ⟨u, by simp [results, Try.results20, go_sem], u, rfl, by rw [← tr_length xs p v a]; exact rowGrown hrow g2 (fun b hb e => hnot b hb (by have e' : W0.heap.size = b := Option.some.inj e; omega)), below_grown hB1 g2 (by omega)⟩
  case stop =>
    rintro c pre W _ h _
    exact h.elim
end Go.Proofs.Ytmmaodlngnjmlaa.Ticks
