/- A range over a function whose iterator keeps a variable of its own in memory: one law for the caller, over the laws of the library for the statement and for a round. The profile's iterator: one tick, the closure that hands over each jerk with the state behind it: for every profile and every body of a loop over it. -/
import Derived.RangeFuncNested
import Derived.RangeFuncBound
import Derived.RangeFuncCalls
import Derived.RangeFuncLeaves
import Derived.WalkKit
import Derived.OwnWalkIn
import Derived.TacticsInMore
import Derived.LoopNIn
import Derived.LoopIn
import Derived.RangeFuncBox
import Derived.Test.YtmmaodlngnjmlaaWWords
import Derived.Test.YtmmaodlngnjmlaaProg
import Derived.RegionTactic
import Derived.ChangeAlike
import Derived.WalkLawsBesides
import Derived.Outline
namespace Go.Proofs.Ytmmaodlngnjmlaa.Rng
open Go Go.RowKit

/-- The blocks below a and those from b to c lie as they lay. -/
structure Keep (a b c : Nat) (W W' : World) : Prop where
  size : W.heap.size ≤ W'.heap.size
  block : ∀ k, k < a ∨ (b ≤ k ∧ k ≤ c) → k < W.heap.size → W'.heap[k]? = W.heap[k]?
theorem Keep.refl (a b c : Nat) (W : World) : Keep a b c W W := ⟨Nat.le_refl _, fun _ _ _ => rfl⟩
theorem Keep.trans {a b c : Nat} {X Y Z : World} (h : Keep a b c X Y) (k : Keep a b c Y Z) : Keep a b c X Z :=
  ⟨Nat.le_trans h.size k.size, fun i hi hl => (k.block i hi (Nat.lt_of_lt_of_le hl h.size)).trans (h.block i hi hl)⟩
theorem Keep.of_grownBy {a b c : Nat} {W W' : World} {row : Option Nat} (hg : W.grownBy W' row) (hr : ∀ r, row = some r → ¬ (r < a ∨ (b ≤ r ∧ r ≤ c))) : Keep a b c W W' :=
  ⟨hg.size, fun k hk hl => hg.block k hl (fun e => hr k e.symm hk)⟩
theorem Keep.alloc {a b c : Nat} {X W : World} (h : Keep a b c X W) (o : Obj) : Keep a b c X (W.alloc o) := h.trans (Keep.of_grownBy (World.grownBy_alloc W o none) (fun r e => by cases e))
theorem Keep.set {a b c : Nat} {X W : World} (h : Keep a b c X W) (p j : Nat) (v : Value) (hp : ¬ (p < a ∨ (b ≤ p ∧ p ≤ c))) : Keep a b c X (W.setCell ⟨p, j, none⟩ v) :=
  h.trans ⟨(KeepsWalks.setCell W _ v).size, fun k hk _ => Below.heap_setCell _ _ _ k (fun e => hp (by have e' : k = p := e; rw [← e']; exact hk))⟩
theorem Keep.narrow {a b c a' b' c' : Nat} {X W : World} (h : Keep a b c X W) (ha : a' ≤ a) (hb : b ≤ b') (hc : c' ≤ c) : Keep a' b' c' X W :=
  ⟨h.size, fun k hk => h.block k (by omega)⟩
theorem Keep.lift {a b c : Nat} {X W : World} (h : Keep a b c X W) {k : Nat} {o : Obj} (hk : k < a ∨ (b ≤ k ∧ k ≤ c)) (ho : X.heap[k]? = some o) : W.heap[k]? = some o :=
  (h.block k hk (Array.getElem?_eq_some_iff.1 ho).1).trans ho
theorem Keep.cell {a b c : Nat} {X W : World} (h : Keep a b c X W) {p : Addr} {v : Value} (hk : p.block < a ∨ (b ≤ p.block ∧ p.block ≤ c)) (hc : X.cell? p = some v) : W.cell? p = some v :=
  (World.cell?_of_block (h.block p.block hk (World.block_lt_of_cell? X p hc))).trans hc
/-- What abides new blocks, and a turn of one block from b to c. -/
def Abide {β : Type} (b c : Nat) (J : β → World → Prop) : Prop := ∀ s A B row, J s A → A.grownBy B row → (∀ r, row = some r → b ≤ r ∧ r ≤ c) → J s B
theorem Abide.alloc {β : Type} {b c : Nat} {J : β → World → Prop} (h : Abide b c J) {s : β} {W : World} (o : Obj) (hs : J s W) : J s (W.alloc o) := h s W _ none hs (World.grownBy_alloc W o none) (fun r e => by cases e)
theorem Abide.putObj {β : Type} {b c : Nat} {J : β → World → Prop} (h : Abide b c J) {s : β} {W : World} (l : Nat) (o : Obj) (hs : J s W) (h0 : b ≤ l) (h1 : l ≤ c) : J s (W.putObj l o) :=
  h s W _ (some l) hs (grownBy_putObj' W l o) (fun r e => by cases e; exact ⟨h0, h1⟩)

/-- The iterator's contract: what it hands over, and in which order; its own variable lies in the first block that it lays. -/
def SeqQ {α : Type} (F : Fence) (n : Nat) (P : Program) (g : Nat) (lb : Array Value) (encs : α → Array Value) (a0 : Nat) (S Sp : List α → Prop) (N : Nat) (w0 : World) : Prop :=
  ∀ (l : Nat) (J Jx : List α → World → Prop) (W : World), Below w0.heap.size w0 W → Abide W.heap.size W.heap.size J → Abide W.heap.size W.heap.size Jx →
    (∀ pre x W1, J pre W1 → W.heap.size < W1.heap.size → pre.length < N → YieldAt F (n - 1) P l (encs x) W1 fun e W' =>
      (e = .returned (.bool true) ∧ J (pre ++ [x]) W' ∧ Keep a0 W.heap.size W.heap.size W1 W') ∨ (e = .returned (.bool false) ∧ Jx (pre ++ [x]) W')) →
    J [] W →
    CallsIn F n P g (#[.func (.yield l) #[] #[]] ++ lb) W fun e W' => (∃ v, e = .returned v) ∧ ((∃ xs, S xs ∧ J xs W') ∨ (∃ pre, Sp pre ∧ Jx pre W'))

/-- How the body of a round may be left. -/
def postQ {α : Type} (a0 h : Nat) (I : List α → World → Prop) (Ix : Code → List α → World → Prop) (xs : List α) (W : World) : Exit → Act → World → Prop
  | .normal, _, W' => Keep a0 h (h + 2) W W' ∧ I xs W'
  | .ret, _, W' => Keep a0 h (h + 2) W W' ∧ Ix .ret xs W'
  | .exit id, _, W' => Keep a0 h (h + 2) W W' ∧ Ix (.exit id) xs W'
  | .goto t, _, W' => Keep a0 h (h + 2) W W' ∧ Ix (.goto t) xs W'
  | .panic _, _, _ => False
  | .outgrown, _, _ => False

variable {F : Fence} {n : Nat} {P : Program}

theorem wpIn_range {α : Type} {g : Operand} {ps : Array Tmp} {assign body : Code} {Q : Exit → Act → World → Prop} {a : Act} {w : World}
    (hro : F.round = none) (h1 : 1 ≤ n) {gf : Nat} {lb : Array Value} (hg : a.eval g = .func (.func gf) #[] lb) (hFg : F.fn gf) (eg : ∀ args w, (callFunc gf args).run P w = .ok (.enter gf args) w)
    {encs : α → Array Value} {a0 : Nat} {S Sp : List α → Prop} {N : Nat} {w0 : World} (hseq : SeqQ F (n - 1) P gf lb encs a0 S Sp N w0) (hb0 : Below w0.heap.size w0 w) (ha0 : a0 ≤ w.heap.size) (hps : ∀ x, (encs x).size = ps.size)
    (I : List α → World → Prop) (Ix : Code → List α → World → Prop) (Ax : α → Act → World → Prop) (hI : Abide w.heap.size (w.heap.size + 2) I) (hIx : ∀ c, Abide w.heap.size (w.heap.size + 2) (Ix c)) (hAx : ∀ x, Abide w.heap.size (w.heap.size + 2) (Ax x)) (h0 : I [] w)
    (hassign : ∀ (l : Nat) (pre : List α) (x : α) (W : World) (K : Act → World → Prop), I pre W → w.heap.size + 2 < W.heap.size → (∀ a' W', Keep a0 w.heap.size (w.heap.size + 2) W W' → I pre W' → Ax x a' W' → K a' W') →
      assign.wpIn (F.inRound l) (n - 1 - 1) P (Exit.then K (fun _ _ _ => False)) { tmps := (ps.zip (encs x)).foldl (fun t (p, v) => t.setIfInBounds p v) a.tmps, defers := [] } W)
    (hbody : ∀ (l : Nat) (pre : List α) (x : α) (a' : Act) (W : World), I pre W → Ax x a' W → w.heap.size + 2 < W.heap.size → pre.length < N → body.wpIn (F.inRound l) (n - 1 - 1) P (postQ a0 w.heap.size I Ix (pre ++ [x]) W) a' W)
    (hdone : ∀ (xs : List α) (W : World), S xs → I xs W → W.heap[w.heap.size]? = some (.deferred (some [])) → Q .normal { a with defers := { target := .collected w.heap.size, args := #[] } :: a.defers } W)
    (hstop : ∀ (c : Code) (pre : List α) (W : World), Sp pre → Ix c pre W → W.heap[w.heap.size]? = some (.deferred (some [])) → c.wpIn F n P Q { a with defers := { target := .collected w.heap.size, args := #[] } :: a.defers } W) :
    (Code.rangeFunc g ps assign body).wpIn F n P Q a w := by
  refine wpIn_rangeFunc ?_
  intro fn hfn
  rw [hro]
  obtain ⟨rec, hrec⟩ : ∃ rec : LoopState → Option Code → Loop, rec = fun st pe => { state := st, pending := pe, fn, tmps := a.tmps, params := ps, assign, body, defers := w.heap.size } := ⟨_, rfl⟩
  obtain ⟨W1, hW1⟩ : ∃ W1, (w.alloc (.deferred (some []))).alloc (.loop (rec .ready none)) = W1 := ⟨_, rfl⟩
  have hsz : W1.heap.size = w.heap.size + 2 := by rw [← hW1]; simp
  have hL1 : W1.heap[w.heap.size + 1]? = some (.loop (rec .ready none)) := by
    rw [← hW1]
    have := World.alloc_heap_new (w.alloc (.deferred (some []))) (.loop (rec .ready none))
    rwa [World.size_alloc] at this
  have hK1 : W1.heap[w.heap.size]? = some (.deferred (some [])) := by
    rw [← hW1]
    exact (Below.heap_alloc _ _ _ (by simp)).trans (World.alloc_heap_new w _)
  have hI1 : I [] W1 := by rw [← hW1]; exact hI.alloc _ (hI.alloc _ h0)
  have hb1 : Below w0.heap.size w0 W1 := by
    rw [← hW1]
    exact hb0.trans ((((Below.refl _ w).alloc (Nat.le_refl _) _).alloc (by simp) _).mono hb0.size)
  refine ⟨w.heap.size + 1, [{ target := .collected w.heap.size, args := #[] }], W1, { target := .fn (.func gf) lb, args := #[.func (.yield (w.heap.size + 1)) #[] #[]] }, W1, gf,
    #[.func (.yield (w.heap.size + 1)) #[] #[]] ++ lb, W1, ?_, ?_, ?_, ?_, fun _ => h1, ?_⟩
  · rw [← hW1, hrec]; exact run_enterLoop_outer _ _ _ _ _
  · simp only [resolve, hg]
    simp [go_sem]
  · intro f' hf'; simp [Target.leads] at hf'; subst hf'; exact hFg
  · simp [invoke, go_sem, eg]
  · have keepB : ∀ {A B : World} {row : Option Nat} {k : Nat} {o : Obj}, A.grownBy B row → (∀ r, row = some r → W1.heap.size ≤ r ∧ r ≤ W1.heap.size) → k < W1.heap.size → A.heap[k]? = some o → B.heap[k]? = some o := fun hg' hr hk ho =>
      (hg'.block _ (Array.getElem?_eq_some_iff.1 ho).1 (fun e => by have := hr _ e.symm; omega)).trans ho
    refine (hseq (w.heap.size + 1)
      (fun pre W => I pre W ∧ W.heap[w.heap.size + 1]? = some (.loop (rec .ready none)) ∧ W.heap[w.heap.size]? = some (.deferred (some [])))
      (fun pre W => ∃ c, Ix c pre W ∧ W.heap[w.heap.size + 1]? = some (.loop (rec .done (some c))) ∧ W.heap[w.heap.size]? = some (.deferred (some [])))
      W1 hb1
      (fun s A B row hs hg' hr => ⟨hI s A B row hs.1 hg' (fun r e => by have := hr r e; omega), keepB hg' hr (by omega) hs.2.1, keepB hg' hr (by omega) hs.2.2⟩)
      (fun s A B row hs hg' hr => by
        obtain ⟨c, hc, hl, hk⟩ := hs
        exact ⟨c, hIx c s A B row hc hg' (fun r e => by have := hr r e; omega), keepB hg' hr (by omega) hl, keepB hg' hr (by omega) hk⟩)
      ?_ ⟨hI1, hL1, hK1⟩).mono ?_
    · rintro pre x W ⟨hi, hl, hk⟩ hlt hlen
      have hy := run_yield (P := P) (args := encs x) hl (by rw [hrec]; exact hps x)
      rw [hrec] at hy
      refine ⟨fn, _, assign, body, hy, roundIn_of_wpIn hfn (hassign _ pre x W _ hi (by omega) (fun a' W2 hkp hi2 hax => ?_))⟩
      have hl1 : W2.heap[w.heap.size + 1]? = some (.loop (rec .ready none)) := hkp.lift (.inr (by omega)) hl
      have hk1 : W2.heap[w.heap.size]? = some (.deferred (some [])) := hkp.lift (.inr (by omega)) hk
      have hlt1 := (Array.getElem?_eq_some_iff.1 hl1).1
      refine ⟨_, run_beginRound hl1 (by rw [hrec]), ?_⟩
      have hl2 : (W2.putObj (w.heap.size + 1) (.loop { rec .ready none with state := .busy })).heap[w.heap.size + 1]? = some (.loop { rec .ready none with state := .busy }) := World.putObj_heap_same hlt1
      have hk2 : (W2.putObj (w.heap.size + 1) (.loop { rec .ready none with state := .busy })).heap[w.heap.size]? = some (.deferred (some [])) := (World.putObj_heap_other (by omega)).trans hk1
      have hsz2 : w.heap.size + 2 < (W2.putObj (w.heap.size + 1) (.loop { rec .ready none with state := .busy })).heap.size := by
        have h3 := hkp.size
        have h4 := (grownBy_putObj' W2 (w.heap.size + 1) (.loop { rec .ready none with state := .busy })).size
        omega
      refine wpIn_mono (hbody _ pre x a' _ (hI.putObj _ _ hi2 (by omega) (by omega)) ((hAx x).putObj _ _ hax (by omega) (by omega)) hsz2 hlen) ?_
      have hput : ∀ (X : World) (o : Obj), Keep a0 W1.heap.size W1.heap.size X (X.putObj (w.heap.size + 1) o) := fun X o =>
        Keep.of_grownBy (grownBy_putObj' X _ o) (fun r e => by cases e; omega)
      have hnar : ∀ {X Y : World}, Keep a0 w.heap.size (w.heap.size + 2) X Y → Keep a0 W1.heap.size W1.heap.size X Y := fun h => h.narrow (Nat.le_refl _) (by omega) (by omega)
      have fin : ∀ (jump : Option Code) (W3 : World), Keep a0 w.heap.size (w.heap.size + 2) (W2.putObj (w.heap.size + 1) (.loop { rec .ready none with state := .busy })) W3 →
          (Instr.endRound (w.heap.size + 1) jump).run P W3 = .ok (.bool jump.isNone) (W3.putObj (w.heap.size + 1) (.loop (rec (if jump.isNone then .ready else .done) jump))) ∧
          (W3.putObj (w.heap.size + 1) (.loop (rec (if jump.isNone then .ready else .done) jump))).heap[w.heap.size + 1]? = some (.loop (rec (if jump.isNone then .ready else .done) jump)) ∧
          (W3.putObj (w.heap.size + 1) (.loop (rec (if jump.isNone then .ready else .done) jump))).heap[w.heap.size]? = some (.deferred (some [])) := fun jump W3 hk3 => by
        have hl3 := hk3.lift (.inr (by omega)) hl2
        have hk4 := hk3.lift (.inr (by omega)) hk2
        have := run_endRound (P := P) jump hl3
        rw [hrec] at this ⊢
        exact ⟨this, World.putObj_heap_same (Array.getElem?_eq_some_iff.1 hl3).1, (World.putObj_heap_other (by omega)).trans hk4⟩
      rintro e a3 W3 hp
      cases e with
      | normal =>
        obtain ⟨hk3, hi3⟩ := hp
        obtain ⟨hr, hl4, hk4⟩ := fin none W3 hk3
        exact ⟨_, _, hr, .inl ⟨rfl, ⟨hI.putObj _ _ hi3 (by omega) (by omega), hl4, hk4⟩, (((hnar hkp).trans (hput _ _)).trans (hnar hk3)).trans (hput _ _)⟩⟩
      | ret =>
        obtain ⟨hk3, hi3⟩ := hp
        obtain ⟨hr, hl4, hk4⟩ := fin (some .ret) W3 hk3
        exact ⟨_, _, hr, .inr ⟨rfl, .ret, (hIx _).putObj _ _ hi3 (by omega) (by omega), hl4, hk4⟩⟩
      | exit id =>
        obtain ⟨hk3, hi3⟩ := hp
        obtain ⟨hr, hl4, hk4⟩ := fin (some (.exit id)) W3 hk3
        exact ⟨_, _, hr, .inr ⟨rfl, .exit id, (hIx _).putObj _ _ hi3 (by omega) (by omega), hl4, hk4⟩⟩
      | goto t =>
        obtain ⟨hk3, hi3⟩ := hp
        obtain ⟨hr, hl4, hk4⟩ := fin (some (.goto t)) W3 hk3
        exact ⟨_, _, hr, .inr ⟨rfl, .goto t, (hIx _).putObj _ _ hi3 (by omega) (by omega), hl4, hk4⟩⟩
      | panic ch => exact hp.elim
      | outgrown => exact hp.elim
    · rintro e W2 ⟨⟨v, rfl⟩, (⟨xs, hS, hi, hl, hk⟩ | ⟨pre, hSp, c, hi, hl, hk⟩)⟩
      · refine ⟨none, _, ?_, hdone xs _ hS (hI.putObj (w.heap.size + 1) (.loop (rec .exhausted none)) hi (by omega) (by omega)) ((World.putObj_heap_other (by omega)).trans hk)⟩
        have := run_endLoop (P := P) hl (by rw [hrec]; simp)
        rw [hrec] at this ⊢
        exact this
      · refine ⟨some c, _, ?_, hstop c pre _ hSp ((hIx c).putObj (w.heap.size + 1) (.loop (rec .exhausted (some c))) hi (by omega) (by omega)) ((World.putObj_heap_other (by omega)).trans hk)⟩
        have := run_endLoop (P := P) hl (by rw [hrec]; simp)
        rw [hrec] at this ⊢
        exact this

end Go.Proofs.Ytmmaodlngnjmlaa.Rng
namespace Go.Proofs.Ytmmaodlngnjmlaa.Ticks
open Go Go.RowKit Go.Proofs.Ytmmaodlngnjmlaa.Rng Go.Proofs.YtmmaodlngnjmlaaW.PrintWords
attribute [local go_sem] Oper.semAt_some

/-- The block of a motion. -/
def Mot (W : World) (b t : Nat) (p v a : Int) : Prop := W.heap[b]? = some (.cells #[.int .i64 p, .int .i64 v, .int .i64 a] t (0, 0))
theorem Mot.c0 {W : World} {b t : Nat} {p v a : Int} (h : Mot W b t p v a) : W.cell? ⟨b, 0, none⟩ = some (.int .i64 p) := (blk_cell h 0).trans rfl
theorem Mot.c1 {W : World} {b t : Nat} {p v a : Int} (h : Mot W b t p v a) : W.cell? ⟨b, 1, none⟩ = some (.int .i64 v) := (blk_cell h 1).trans rfl
theorem Mot.c2 {W : World} {b t : Nat} {p v a : Int} (h : Mot W b t p v a) : W.cell? ⟨b, 2, none⟩ = some (.int .i64 a) := (blk_cell h 2).trans rfl
theorem Mot.fz {W : World} {b t : Nat} {p v a : Int} (h : Mot W b t p v a) (j : Nat) : W.frozen? ⟨b, j, none⟩ = false := blk_frozen h j
theorem Mot.lt {W : World} {b t : Nat} {p v a : Int} (h : Mot W b t p v a) : b < W.heap.size := blk_lt h
theorem grown_set (W : World) (b j : Nat) (v : Value) : W.grownBy (W.setCell ⟨b, j, none⟩ v) (some b) :=
  ⟨rfl, rfl, rfl, (KeepsWalks.setCell W _ v).size, fun k _ hk => Below.heap_setCell _ _ _ k (fun e => hk (by have e' : k = b := e; rw [e']))⟩

theorem tick_run (b : Nat) (p v a j : Int) (W : World) (h0 : W.cell? ⟨b, 0, none⟩ = some (.int .i64 p)) (h1 : W.cell? ⟨b, 1, none⟩ = some (.int .i64 v)) (h2 : W.cell? ⟨b, 2, none⟩ = some (.int .i64 a))
    (f0 : W.frozen? ⟨b, 0, none⟩ = false) (f1 : W.frozen? ⟨b, 1, none⟩ = false) (f2 : W.frozen? ⟨b, 2, none⟩ = false) :
    Calls Try.prog 77 #[.pointer (some ⟨b, 0, none⟩), .int .i64 j] W fun e w' => e = .returned (.tuple #[]) ∧
      w' = (((W.setCell ⟨b, 2, none⟩ (.int .i64 (wrap64 (a + j)))).setCell ⟨b, 1, none⟩ (.int .i64 (wrap64 (v + wrap64 (a + j))))).setCell ⟨b, 0, none⟩ (.int .i64 (wrap64 (p + wrap64 (v + wrap64 (a + j)))))).drew.drew := by
  go_enter Try.func77, Try.ntmps77
  go_wp2
  go_region
  go_wp2
  go_region
  go_wp2
  go_end0
  exact ⟨rfl, rfl⟩
/-- One tick. -/
theorem tick (b : Nat) (p v a j : Int) (W : World) (h : Mot W b 132 p v a) :
    Calls Try.prog 77 #[.pointer (some ⟨b, 0, none⟩), .int .i64 j] W fun e w' => e = .returned (.tuple #[]) ∧
      Mot w' b 132 (wrap64 (p + wrap64 (v + wrap64 (a + j)))) (wrap64 (v + wrap64 (a + j))) (wrap64 (a + j)) ∧ W.grownBy w' (some b) := by
  refine (tick_run b p v a j W h.c0 h.c1 h.c2 (h.fz 0) (h.fz 1) (h.fz 2)).mono ?_
  rintro e w' ⟨rfl, rfl⟩
  have g2 := grown_set W b 2 (.int .i64 (wrap64 (a + j)))
  have b2 : (W.setCell ⟨b, 2, none⟩ (.int .i64 (wrap64 (a + j)))).heap[b]? = some (.cells #[.int .i64 p, .int .i64 v, .int .i64 (wrap64 (a + j))] 132 (0, 0)) := by simpa using blk_set h 2 (.int .i64 (wrap64 (a + j)))
  generalize (W.setCell ⟨b, 2, none⟩ (.int .i64 (wrap64 (a + j)))) = W2 at g2 b2 ⊢
  have g1 := grown_set W2 b 1 (.int .i64 (wrap64 (v + wrap64 (a + j))))
  have b1 : (W2.setCell ⟨b, 1, none⟩ (.int .i64 (wrap64 (v + wrap64 (a + j))))).heap[b]? = some (.cells #[.int .i64 p, .int .i64 (wrap64 (v + wrap64 (a + j))), .int .i64 (wrap64 (a + j))] 132 (0, 0)) := by simpa using blk_set b2 1 (.int .i64 (wrap64 (v + wrap64 (a + j))))
  generalize (W2.setCell ⟨b, 1, none⟩ (.int .i64 (wrap64 (v + wrap64 (a + j))))) = W1 at g1 b1 ⊢
  have g0 := grown_set W1 b 0 (.int .i64 (wrap64 (p + wrap64 (v + wrap64 (a + j)))))
  have b0 : (W1.setCell ⟨b, 0, none⟩ (.int .i64 (wrap64 (p + wrap64 (v + wrap64 (a + j)))))).heap[b]? = some (.cells #[.int .i64 (wrap64 (p + wrap64 (v + wrap64 (a + j)))), .int .i64 (wrap64 (v + wrap64 (a + j))), .int .i64 (wrap64 (a + j))] 132 (0, 0)) := by simpa using blk_set b1 0 (.int .i64 (wrap64 (p + wrap64 (v + wrap64 (a + j)))))
  exact ⟨rfl, b0, ((g2.trans g1).trans g0).trans ⟨rfl, rfl, rfl, Nat.le_refl _, fun _ _ _ => rfl⟩⟩

/-- The states behind each jerk, with the jerk. -/
def tr : Int → Int → Int → List Int → List (Int × Int × Int × Int)
  | _, _, _, [] => []
  | p, v, a, j :: l => (j, wrap64 (p + wrap64 (v + wrap64 (a + j))), wrap64 (v + wrap64 (a + j)), wrap64 (a + j)) :: tr (wrap64 (p + wrap64 (v + wrap64 (a + j)))) (wrap64 (v + wrap64 (a + j))) (wrap64 (a + j)) l
def enc (x : Int × Int × Int × Int) : Array Value := #[.int .i64 x.1, .agg #[.int .i64 x.2.1, .int .i64 x.2.2.1, .int .i64 x.2.2.2]]
/-- Where the loop of the iterator stands: what has come, the state, what is still to come. -/
structure At (p v a : Int) (xs : List Int) (k : Nat) (pre : List (Int × Int × Int × Int)) (q u b : Int) : Prop where
  all : tr p v a xs = pre ++ tr q u b (xs.drop k)
  len : pre.length = k
theorem At.zero (p v a : Int) (xs : List Int) : At p v a xs 0 [] p v a := ⟨rfl, rfl⟩
theorem At.next {p v a : Int} {xs : List Int} {k : Nat} {pre : List (Int × Int × Int × Int)} {q u b : Int} (h : At p v a xs k pre q u b) (hk : k < xs.length) (j : Int) (hj : rd xs k = j) :
    At p v a xs (k + 1) (pre ++ [(j, wrap64 (q + wrap64 (u + wrap64 (b + j))), wrap64 (u + wrap64 (b + j)), wrap64 (b + j))]) (wrap64 (q + wrap64 (u + wrap64 (b + j)))) (wrap64 (u + wrap64 (b + j))) (wrap64 (b + j)) := by
  refine ⟨?_, by simp [h.len]⟩
  have e : xs.drop k = j :: xs.drop (k + 1) := by
    rw [List.drop_eq_getElem_cons hk]
    congr 1
    rw [← hj]
    simp [rd, List.getD_eq_getElem?_getD, List.getElem?_eq_getElem hk]
  rw [h.all, e]
  simp [tr]
theorem tr_length (xs : List Int) : ∀ p v a, (tr p v a xs).length = xs.length := by
  induction xs with
  | nil => intro p v a; rfl
  | cons j l ih => intro p v a; simp [tr, ih]

set_option maxRecDepth 100000 in
set_option maxHeartbeats 4000000 in
theorem ticks1_some (n : Nat) (hn : 1 ≤ n) (l bm bl a0 : Nat) (p v a : Int) (ad : Addr) (xs : List Int) (cap : Nat) (J Jx : List (Int × Int × Int × Int) → World → Prop) (W : World) (hJ : Abide W.heap.size W.heap.size J)
    (hY : ∀ pre x W1, J pre W1 → W.heap.size < W1.heap.size → pre.length < xs.length → YieldAt Fence.wide (n - 1) Try.prog l (enc x) W1 fun e W' =>
      (e = .returned (.bool true) ∧ J (pre ++ [x]) W' ∧ Keep a0 W.heap.size W.heap.size W1 W') ∨ (e = .returned (.bool false) ∧ Jx (pre ++ [x]) W'))
    (hm : Mot W bm 33 p v a) (hl : W.heap[bl]? = some (.cells #[.slice (some ad) xs.length cap] 27 (0, 0))) (hA : 0 < xs.length → ad.block < a0) (hc : ∀ j, j < xs.length → W.cell? (ad.add j) = some (.int .i64 (rd xs j))) (ha0 : a0 ≤ W.heap.size) (hmax : xs.length ≤ 9223372036854775807) (h0 : J [] W) :
    CallsIn Fence.wide n Try.prog 76 #[.func (.yield l) #[] #[], .pointer (some ⟨bm, 0, none⟩), .pointer (some ⟨bl, 0, none⟩)] W fun e W' => (∃ v, e = .returned v) ∧
      ((∃ ys, ys = tr p v a xs ∧ J ys W') ∨ (∃ pre, pre <+: tr p v a xs ∧ Jx pre W')) := by
  have m0 := hm.c0
  have m1 := hm.c1
  have m2 := hm.c2
  have l0 : W.cell? ⟨bl, 0, none⟩ = some (.slice (some ad) xs.length cap) := (blk_cell hl 0).trans rfl
  have l1 : ∀ o, (W.alloc o).cell? ⟨bl, 0, none⟩ = some (.slice (some ad) xs.length cap) := fun o => (World.cell?_of_block (Below.heap_alloc W o bl (blk_lt hl))).trans l0
  clear l0
  refine callsIn_of_wp Try.func76 rfl trivial ?_ rfl
  simp only [Try.ntmps76, List.size_toArray, List.length_cons, List.length_nil, Nat.reduceAdd, Nat.reduceSub, Array.replicate_succ, Array.replicate_zero, List.push_toArray, List.append_toArray, List.nil_append, List.cons_append]
  gi_wp2
  have hJ' := Aside0.mk hJ
  clear hJ
  have hY' := Aside0.mk hY
  clear hY
  gi_loopw [11] (fun i wr => ∃ (k : Nat) (pre : List (Int × Int × Int × Int)) (q u b : Int), i = .int .i64 k ∧ k ≤ xs.length ∧ At p v a xs k pre q u b ∧ Mot wr W.heap.size 132 q u b ∧ J pre wr ∧ (∀ j, j < xs.length → wr.cell? (ad.add j) = some (.int .i64 (rd xs j))))
    (fun i _ => xs.length - (intOf i).toNat)
  case atStart => exact ⟨0, [], p, v, a, rfl, Nat.zero_le _, At.zero _ _ _ _, heap_alloc_new W _, hJ'.out.alloc _ h0, fun j hj => pw_cell_below ((Below.refl _ W).alloc (Nat.le_refl _) _) (hc j hj)⟩
  case round =>
    obtain ⟨k, pre, q, u, b, rfl, hk, hat, hmot, hj, hcell⟩ := hrel
    by_cases hlt : k < xs.length
    · have hck := hcell k hlt
      have hcellH := Aside0.mk hcell
      clear hcell
      obtain ⟨j, hjd⟩ : ∃ j, rd xs k = j := ⟨_, rfl⟩
      rw [hjd] at hck
      have hnext := hat.next hlt j hjd
      have hjdH := Aside0.mk hjd
      clear hjd
      gi_wp2_with (refine ⟨trivial, ?_⟩; gi_at_call 77; refine (callsIn_wide.2 (tick W.heap.size q u b j wr hmot)).mono ?_; rintro e w2 ⟨rfl, hm2, hg2⟩; have q0 := hm2.c0; have q1 := hm2.c1; have q2 := hm2.c2; have hm2H := Aside0.mk hm2; clear hm2; have hlt2 := hm2H.out.lt; obtain ⟨fn, tmps, assign, body, hy, hR⟩ := hY'.out pre (j, wrap64 (q + wrap64 (u + wrap64 (b + j))), wrap64 (u + wrap64 (b + j)), wrap64 (b + j)) w2 (hJ'.out _ _ _ _ hj hg2 (fun r e => by cases e; exact ⟨Nat.le_refl _, Nat.le_refl _⟩)) hlt2 (by rw [hat.len]; exact hlt); dsimp only [enc] at hy; have hRH := Aside0.mk hR; clear hR)
      refine hRH.out.mono ?_
      rintro e w3 (⟨rfl, hJ3, hk3⟩ | ⟨rfl, hJx3⟩)
      · have hb3 : Mot w3 W.heap.size 132 (wrap64 (q + wrap64 (u + wrap64 (b + j)))) (wrap64 (u + wrap64 (b + j))) (wrap64 (b + j)) := hk3.lift (.inr ⟨Nat.le_refl _, Nat.le_refl _⟩) hm2H.out
        have hc3 : ∀ j, j < xs.length → w3.cell? (ad.add j) = some (.int .i64 (rd xs j)) := fun i hi => by
          have ha : (ad.add i).block < a0 := (show (ad.add i).block = ad.block by unfold Addr.add; split <;> rfl) ▸ hA (by omega)
          exact hk3.cell (.inl ha) ((World.cell?_of_block (hg2.block _ (World.block_lt_of_cell? wr _ (hcellH.out i hi)) (fun e => by have e' : (ad.add i).block = W.heap.size := Option.some.inj e; omega))).trans (hcellH.out i hi))
        gi_wp2
        exact ⟨⟨k + 1, _, _, _, _, by go_num, by omega, hnext, hb3, hJ3, hc3⟩, by simp [intOf]; omega⟩
      · gi_wp2
        refine bodyPost_ret (results_none rfl _ _ _) rfl ⟨⟨_, rfl⟩, .inr ⟨_, ⟨_, hnext.all.symm⟩, hJx3⟩⟩
    · gi_wp2
      go_end0
      exact ⟨⟨_, rfl⟩, .inl ⟨pre, by rw [hat.all, List.drop_of_length_le (by omega)]; simp [tr], hj⟩⟩
set_option maxRecDepth 100000 in
set_option maxHeartbeats 4000000 in
theorem ticks1_nil (n : Nat) (l bm bl : Nat) (p v a : Int) (cap : Nat) (J Jx : List (Int × Int × Int × Int) → World → Prop) (W : World) (hJ : Abide W.heap.size W.heap.size J)
    (hm : Mot W bm 33 p v a) (hl : W.heap[bl]? = some (.cells #[.slice none 0 cap] 27 (0, 0))) (h0 : J [] W) :
    CallsIn Fence.wide n Try.prog 76 #[.func (.yield l) #[] #[], .pointer (some ⟨bm, 0, none⟩), .pointer (some ⟨bl, 0, none⟩)] W fun e W' => (∃ v, e = .returned v) ∧
      ((∃ ys, ys = tr p v a [] ∧ J ys W') ∨ (∃ pre, pre <+: tr p v a [] ∧ Jx pre W')) := by
  have m0 := hm.c0
  have m1 := hm.c1
  have m2 := hm.c2
  have l1 : ∀ o, (W.alloc o).cell? ⟨bl, 0, none⟩ = some (.slice none 0 cap) := fun o => (World.cell?_of_block (Below.heap_alloc W o bl (blk_lt hl))).trans ((blk_cell hl 0).trans rfl)
  refine callsIn_of_wp Try.func76 rfl trivial ?_ rfl
  simp only [Try.ntmps76, List.size_toArray, List.length_cons, List.length_nil, Nat.reduceAdd, Nat.reduceSub, Array.replicate_succ, Array.replicate_zero, List.push_toArray, List.append_toArray, List.nil_append, List.cons_append]
  gi_wp2
  have hJ' := Aside0.mk hJ
  clear hJ
  gi_loopw [11] (fun i wr => i = .int .i64 0 ∧ J [] wr)
    (fun _ _ => 0)
  case atStart => exact ⟨rfl, hJ'.out.alloc _ h0⟩
  case round =>
    obtain ⟨rfl, hj⟩ := hrel
    gi_wp2
    go_end0
    exact ⟨⟨_, rfl⟩, .inl ⟨[], rfl, hj⟩⟩

set_option maxHeartbeats 1000000 in
/-- The function that hands back the iterator. -/
theorem ticks_in (n : Nat) (p v a : Int) (A : Option Addr) (k c : Nat) (w : World) :
    CallsIn Fence.wide n Try.prog 51 #[.agg #[.int .i64 p, .int .i64 v, .int .i64 a], .slice A k c] w fun e w' => e = .returned (.func (.func 76) #[] #[.pointer (some ⟨w.heap.size, 0, none⟩), .pointer (some ⟨w.heap.size + 1, 0, none⟩)]) ∧
      w' = (w.alloc (.cells #[.int .i64 p, .int .i64 v, .int .i64 a] 33 (0, 0))).alloc (.cells #[.slice A k c] 27 (0, 0)) := by
  refine callsIn_of_wp Try.func51 rfl trivial ?_ rfl
  simp only [Try.ntmps51, List.size_toArray, List.length_cons, List.length_nil, Nat.reduceAdd, Nat.reduceSub, Array.replicate_succ, Array.replicate_zero, List.push_toArray, List.append_toArray, List.nil_append, List.cons_append]
  gi_wp2
  go_ret
  exact ⟨rfl, rfl⟩

/-- What the iterator hands over. -/
theorem ticks_seq (n : Nat) (hn : 1 ≤ n) (bm bl a0 : Nat) (p v a : Int) (A : Option Addr) (xs : List Int) (cap : Nat) (w0 : World) (hm : Mot w0 bm 33 p v a)
    (hl : w0.heap[bl]? = some (.cells #[.slice A xs.length cap] 27 (0, 0))) (hA : ∀ ad, A = some ad → 0 < xs.length → ad.block < a0) (ha0 : a0 ≤ w0.heap.size)
    (hN : A = none → xs = []) (hc : ∀ ad, A = some ad → ∀ j, j < xs.length → w0.cell? (ad.add j) = some (.int .i64 (rd xs j))) (hmax : xs.length ≤ 9223372036854775807) :
    SeqQ Fence.wide n Try.prog 76 #[.pointer (some ⟨bm, 0, none⟩), .pointer (some ⟨bl, 0, none⟩)] enc a0 (fun ys => ys = tr p v a xs) (fun pre => pre <+: tr p v a xs) xs.length w0 := by
  intro l J Jx W hB hJ _ hY h0
  have hm' : Mot W bm 33 p v a := (hB.block bm hm.lt).trans hm
  have hl' := (hB.block bl (blk_lt hl)).trans hl
  cases A with
  | none =>
    obtain rfl := hN rfl
    exact ticks1_nil n l bm bl p v a cap J Jx W hJ hm' hl' h0
  | some ad =>
    exact ticks1_some n hn l bm bl a0 p v a ad xs cap J Jx W hJ hY hm' hl' (hA ad rfl) (fun j hj => (hB.cell (World.block_lt_of_cell? w0 _ (hc ad rfl j hj))).trans (hc ad rfl j hj)) (Nat.le_trans ha0 hB.size) hmax h0
end Go.Proofs.Ytmmaodlngnjmlaa.Ticks
