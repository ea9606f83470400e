/- A range over a function whose iterator keeps a variable of its own in memory: one law for the caller, over the laws of the library for the statement and for a round. -/
import Derived.RangeFuncNested
import Derived.RangeFuncBound
import Derived.RangeFuncCalls
import Derived.RangeFuncLeaves
import Derived.WalkKit
import Derived.OwnWalkIn
import Derived.TacticsInMore
import Derived.LoopNIn
import Derived.LoopIn
import Derived.RangeFuncBox
namespace Go.Proofs.Ytmmaodlngnjmlaa.Rng2
open Go Go.RowKit

/-- The blocks below a and those from b to c lie as they lay. -/
structure Keep (a : Nat → Prop) (b c : Nat) (W W' : World) : Prop where
  size : W.heap.size ≤ W'.heap.size
  block : ∀ k, a k ∨ (b ≤ k ∧ k ≤ c) → k < W.heap.size → W'.heap[k]? = W.heap[k]?
theorem Keep.refl (a : Nat → Prop) (b c : Nat) (W : World) : Keep a b c W W := ⟨Nat.le_refl _, fun _ _ _ => rfl⟩
theorem Keep.trans {a : Nat → Prop} {b c : Nat} {X Y Z : World} (h : Keep a b c X Y) (k : Keep a b c Y Z) : Keep a b c X Z :=
  ⟨Nat.le_trans h.size k.size, fun i hi hl => (k.block i hi (Nat.lt_of_lt_of_le hl h.size)).trans (h.block i hi hl)⟩
theorem Keep.of_grownBy {a : Nat → Prop} {b c : Nat} {W W' : World} {row : Option Nat} (hg : W.grownBy W' row) (hr : ∀ r, row = some r → ¬ (a r ∨ (b ≤ r ∧ r ≤ c))) : Keep a b c W W' :=
  ⟨hg.size, fun k hk hl => hg.block k hl (fun e => hr k e.symm hk)⟩
theorem Keep.alloc {a : Nat → Prop} {b c : Nat} {X W : World} (h : Keep a b c X W) (o : Obj) : Keep a b c X (W.alloc o) := h.trans (Keep.of_grownBy (World.grownBy_alloc W o none) (fun r e => by cases e))
theorem Keep.set {a : Nat → Prop} {b c : Nat} {X W : World} (h : Keep a b c X W) (p j : Nat) (v : Value) (hp : ¬ (a p ∨ (b ≤ p ∧ p ≤ c))) : Keep a b c X (W.setCell ⟨p, j, none⟩ v) :=
  h.trans ⟨(KeepsWalks.setCell W _ v).size, fun k hk _ => Below.heap_setCell _ _ _ k (fun e => hp (by have e' : k = p := e; rw [← e']; exact hk))⟩
theorem Keep.narrow {a a' : Nat → Prop} {b c b' c' : Nat} {X W : World} (h : Keep a b c X W) (ha : ∀ k, a' k → a k) (hb : b ≤ b') (hc : c' ≤ c) : Keep a' b' c' X W :=
  ⟨h.size, fun k hk => h.block k (hk.imp (ha k) (fun h2 => ⟨by omega, by omega⟩))⟩
theorem Keep.lift {a : Nat → Prop} {b c : Nat} {X W : World} (h : Keep a b c X W) {k : Nat} {o : Obj} (hk : a k ∨ (b ≤ k ∧ k ≤ c)) (ho : X.heap[k]? = some o) : W.heap[k]? = some o :=
  (h.block k hk (Array.getElem?_eq_some_iff.1 ho).1).trans ho
theorem Keep.cell {a : Nat → Prop} {b c : Nat} {X W : World} (h : Keep a b c X W) {p : Addr} {v : Value} (hk : a p.block ∨ (b ≤ p.block ∧ p.block ≤ c)) (hc : X.cell? p = some v) : W.cell? p = some v :=
  (World.cell?_of_block (h.block p.block hk (World.block_lt_of_cell? X p hc))).trans hc
/-- What abides new blocks, and a turn of one block from b to c. -/
def Abide {β : Type} (b c : Nat) (J : β → World → Prop) : Prop := ∀ s A B row, J s A → A.grownBy B row → (∀ r, row = some r → b ≤ r ∧ r ≤ c) → J s B
theorem Abide.alloc {β : Type} {b c : Nat} {J : β → World → Prop} (h : Abide b c J) {s : β} {W : World} (o : Obj) (hs : J s W) : J s (W.alloc o) := h s W _ none hs (World.grownBy_alloc W o none) (fun r e => by cases e)
theorem Abide.putObj {β : Type} {b c : Nat} {J : β → World → Prop} (h : Abide b c J) {s : β} {W : World} (l : Nat) (o : Obj) (hs : J s W) (h0 : b ≤ l) (h1 : l ≤ c) : J s (W.putObj l o) :=
  h s W _ (some l) hs (grownBy_putObj' W l o) (fun r e => by cases e; exact ⟨h0, h1⟩)

/-- The iterator's contract: what it hands over, and in which order; its own variable lies in the first block that it lays. -/
def SeqQ {α : Type} (F : Fence) (n : Nat) (P : Program) (g : Nat) (lb : Array Value) (encs : α → Array Value) (a0 : Nat → Prop) (Ok : α → Prop) (S Sp : List α → Prop) (N : Nat) (w0 : World) : Prop :=
  ∀ (l : Nat) (J Jx : List α → World → Prop) (W : World), Below w0.heap.size w0 W → Abide W.heap.size W.heap.size J → Abide W.heap.size W.heap.size Jx →
    (∀ pre x W1, Ok x → J pre W1 → W.heap.size < W1.heap.size → pre.length < N → YieldAt F (n - 1) P l (encs x) W1 fun e W' =>
      (e = .returned (.bool true) ∧ J (pre ++ [x]) W' ∧ Keep a0 W.heap.size W.heap.size W1 W') ∨ (e = .returned (.bool false) ∧ Jx (pre ++ [x]) W')) →
    J [] W →
    CallsIn F n P g (#[.func (.yield l) #[] #[]] ++ lb) W fun e W' => (∃ v, e = .returned v) ∧ ((∃ xs, S xs ∧ J xs W') ∨ (∃ pre, Sp pre ∧ Jx pre W'))

/-- How the body of a round may be left. -/
def postQ {α : Type} (a0 : Nat → Prop) (h : Nat) (I : List α → World → Prop) (Ix : Code → List α → World → Prop) (xs : List α) (W : World) : Exit → Act → World → Prop
  | .normal, _, W' => Keep a0 h (h + 2) W W' ∧ I xs W'
  | .ret, _, W' => Keep a0 h (h + 2) W W' ∧ Ix .ret xs W'
  | .exit id, _, W' => Keep a0 h (h + 2) W W' ∧ Ix (.exit id) xs W'
  | .goto t, _, W' => Keep a0 h (h + 2) W W' ∧ Ix (.goto t) xs W'
  | .panic _, _, _ => False
  | .outgrown, _, _ => False

variable {F : Fence} {n : Nat} {P : Program}

theorem wpIn_range {α : Type} {g : Operand} {ps : Array Tmp} {assign body : Code} {Q : Exit → Act → World → Prop} {a : Act} {w : World}
    (hro : F.round = none) (h1 : 1 ≤ n) {gf : Nat} {lb : Array Value} (hg : a.eval g = .func (.func gf) #[] lb) (hFg : F.fn gf) (eg : ∀ args w, (callFunc gf args).run P w = .ok (.enter gf args) w)
    {encs : α → Array Value} {a0 : Nat → Prop} {Ok : α → Prop} {S Sp : List α → Prop} {N : Nat} {w0 : World} (hseq : SeqQ F (n - 1) P gf lb encs a0 Ok S Sp N w0) (hb0 : Below w0.heap.size w0 w) (ha0 : ∀ k, a0 k → k < w.heap.size) (hps : ∀ x, (encs x).size = ps.size)
    (I : List α → World → Prop) (Ix : Code → List α → World → Prop) (Ax : α → Act → World → Prop) (hI : Abide w.heap.size (w.heap.size + 2) I) (hIx : ∀ c, Abide w.heap.size (w.heap.size + 2) (Ix c)) (hAx : ∀ x, Abide w.heap.size (w.heap.size + 2) (Ax x)) (h0 : I [] w)
    (hassign : ∀ (l : Nat) (pre : List α) (x : α) (W : World) (K : Act → World → Prop), Ok x → I pre W → w.heap.size + 2 < W.heap.size → (∀ a' W', Keep a0 w.heap.size (w.heap.size + 2) W W' → I pre W' → Ax x a' W' → K a' W') →
      assign.wpIn (F.inRound l) (n - 1 - 1) P (Exit.then K (fun _ _ _ => False)) { tmps := (ps.zip (encs x)).foldl (fun t (p, v) => t.setIfInBounds p v) a.tmps, defers := [] } W)
    (hbody : ∀ (l : Nat) (pre : List α) (x : α) (a' : Act) (W : World), Ok x → I pre W → Ax x a' W → w.heap.size + 2 < W.heap.size → pre.length < N → body.wpIn (F.inRound l) (n - 1 - 1) P (postQ a0 w.heap.size I Ix (pre ++ [x]) W) a' W)
    (hdone : ∀ (xs : List α) (W : World), S xs → I xs W → W.heap[w.heap.size]? = some (.deferred (some [])) → Q .normal { a with defers := { target := .collected w.heap.size, args := #[] } :: a.defers } W)
    (hstop : ∀ (c : Code) (pre : List α) (W : World), Sp pre → Ix c pre W → W.heap[w.heap.size]? = some (.deferred (some [])) → c.wpIn F n P Q { a with defers := { target := .collected w.heap.size, args := #[] } :: a.defers } W) :
    (Code.rangeFunc g ps assign body).wpIn F n P Q a w := by
  refine wpIn_rangeFunc ?_
  intro fn hfn
  rw [hro]
  obtain ⟨rec, hrec⟩ : ∃ rec : LoopState → Option Code → Loop, rec = fun st pe => { state := st, pending := pe, fn, tmps := a.tmps, params := ps, assign, body, defers := w.heap.size } := ⟨_, rfl⟩
  obtain ⟨W1, hW1⟩ : ∃ W1, (w.alloc (.deferred (some []))).alloc (.loop (rec .ready none)) = W1 := ⟨_, rfl⟩
  have hsz : W1.heap.size = w.heap.size + 2 := by rw [← hW1]; simp
  have hL1 : W1.heap[w.heap.size + 1]? = some (.loop (rec .ready none)) := by
    rw [← hW1]
    have := World.alloc_heap_new (w.alloc (.deferred (some []))) (.loop (rec .ready none))
    rwa [World.size_alloc] at this
  have hK1 : W1.heap[w.heap.size]? = some (.deferred (some [])) := by
    rw [← hW1]
    exact (Below.heap_alloc _ _ _ (by simp)).trans (World.alloc_heap_new w _)
  have hI1 : I [] W1 := by rw [← hW1]; exact hI.alloc _ (hI.alloc _ h0)
  have hb1 : Below w0.heap.size w0 W1 := by
    rw [← hW1]
    exact hb0.trans ((((Below.refl _ w).alloc (Nat.le_refl _) _).alloc (by simp) _).mono hb0.size)
  refine ⟨w.heap.size + 1, [{ target := .collected w.heap.size, args := #[] }], W1, { target := .fn (.func gf) lb, args := #[.func (.yield (w.heap.size + 1)) #[] #[]] }, W1, gf,
    #[.func (.yield (w.heap.size + 1)) #[] #[]] ++ lb, W1, ?_, ?_, ?_, ?_, fun _ => h1, ?_⟩
  · rw [← hW1, hrec]; exact run_enterLoop_outer _ _ _ _ _
  · simp only [resolve, hg]
    simp [go_sem]
  · intro f' hf'; simp [Target.leads] at hf'; subst hf'; exact hFg
  · simp [invoke, go_sem, eg]
  · have keepB : ∀ {A B : World} {row : Option Nat} {k : Nat} {o : Obj}, A.grownBy B row → (∀ r, row = some r → W1.heap.size ≤ r ∧ r ≤ W1.heap.size) → k < W1.heap.size → A.heap[k]? = some o → B.heap[k]? = some o := fun hg' hr hk ho =>
      (hg'.block _ (Array.getElem?_eq_some_iff.1 ho).1 (fun e => by have := hr _ e.symm; omega)).trans ho
    refine (hseq (w.heap.size + 1)
      (fun pre W => I pre W ∧ W.heap[w.heap.size + 1]? = some (.loop (rec .ready none)) ∧ W.heap[w.heap.size]? = some (.deferred (some [])))
      (fun pre W => ∃ c, Ix c pre W ∧ W.heap[w.heap.size + 1]? = some (.loop (rec .done (some c))) ∧ W.heap[w.heap.size]? = some (.deferred (some [])))
      W1 hb1
      (fun s A B row hs hg' hr => ⟨hI s A B row hs.1 hg' (fun r e => by have := hr r e; omega), keepB hg' hr (by omega) hs.2.1, keepB hg' hr (by omega) hs.2.2⟩)
      (fun s A B row hs hg' hr => by
        obtain ⟨c, hc, hl, hk⟩ := hs
        exact ⟨c, hIx c s A B row hc hg' (fun r e => by have := hr r e; omega), keepB hg' hr (by omega) hl, keepB hg' hr (by omega) hk⟩)
      ?_ ⟨hI1, hL1, hK1⟩).mono ?_
    · rintro pre x W hx ⟨hi, hl, hk⟩ hlt hlen
      have hy := run_yield (P := P) (args := encs x) hl (by rw [hrec]; exact hps x)
      rw [hrec] at hy
      refine ⟨fn, _, assign, body, hy, roundIn_of_wpIn hfn (hassign _ pre x W _ hx hi (by omega) (fun a' W2 hkp hi2 hax => ?_))⟩
      have hl1 : W2.heap[w.heap.size + 1]? = some (.loop (rec .ready none)) := hkp.lift (.inr (by omega)) hl
      have hk1 : W2.heap[w.heap.size]? = some (.deferred (some [])) := hkp.lift (.inr (by omega)) hk
      have hlt1 := (Array.getElem?_eq_some_iff.1 hl1).1
      refine ⟨_, run_beginRound hl1 (by rw [hrec]), ?_⟩
      have hl2 : (W2.putObj (w.heap.size + 1) (.loop { rec .ready none with state := .busy })).heap[w.heap.size + 1]? = some (.loop { rec .ready none with state := .busy }) := World.putObj_heap_same hlt1
      have hk2 : (W2.putObj (w.heap.size + 1) (.loop { rec .ready none with state := .busy })).heap[w.heap.size]? = some (.deferred (some [])) := (World.putObj_heap_other (by omega)).trans hk1
      have hsz2 : w.heap.size + 2 < (W2.putObj (w.heap.size + 1) (.loop { rec .ready none with state := .busy })).heap.size := by
        have h3 := hkp.size
        have h4 := (grownBy_putObj' W2 (w.heap.size + 1) (.loop { rec .ready none with state := .busy })).size
        omega
      refine wpIn_mono (hbody _ pre x a' _ hx (hI.putObj _ _ hi2 (by omega) (by omega)) ((hAx x).putObj _ _ hax (by omega) (by omega)) hsz2 hlen) ?_
      have hput : ∀ (X : World) (o : Obj), Keep a0 W1.heap.size W1.heap.size X (X.putObj (w.heap.size + 1) o) := fun X o =>
        Keep.of_grownBy (grownBy_putObj' X _ o) (fun r e => by
          cases e
          rintro (h | h)
          · have := ha0 _ h; omega
          · omega)
      have hnar : ∀ {X Y : World}, Keep a0 w.heap.size (w.heap.size + 2) X Y → Keep a0 W1.heap.size W1.heap.size X Y := fun h => h.narrow (fun _ hk => hk) (by omega) (by omega)
      have fin : ∀ (jump : Option Code) (W3 : World), Keep a0 w.heap.size (w.heap.size + 2) (W2.putObj (w.heap.size + 1) (.loop { rec .ready none with state := .busy })) W3 →
          (Instr.endRound (w.heap.size + 1) jump).run P W3 = .ok (.bool jump.isNone) (W3.putObj (w.heap.size + 1) (.loop (rec (if jump.isNone then .ready else .done) jump))) ∧
          (W3.putObj (w.heap.size + 1) (.loop (rec (if jump.isNone then .ready else .done) jump))).heap[w.heap.size + 1]? = some (.loop (rec (if jump.isNone then .ready else .done) jump)) ∧
          (W3.putObj (w.heap.size + 1) (.loop (rec (if jump.isNone then .ready else .done) jump))).heap[w.heap.size]? = some (.deferred (some [])) := fun jump W3 hk3 => by
        have hl3 := hk3.lift (.inr (by omega)) hl2
        have hk4 := hk3.lift (.inr (by omega)) hk2
        have := run_endRound (P := P) jump hl3
        rw [hrec] at this ⊢
        exact ⟨this, World.putObj_heap_same (Array.getElem?_eq_some_iff.1 hl3).1, (World.putObj_heap_other (by omega)).trans hk4⟩
      rintro e a3 W3 hp
      cases e with
      | normal =>
        obtain ⟨hk3, hi3⟩ := hp
        obtain ⟨hr, hl4, hk4⟩ := fin none W3 hk3
        exact ⟨_, _, hr, .inl ⟨rfl, ⟨hI.putObj _ _ hi3 (by omega) (by omega), hl4, hk4⟩, (((hnar hkp).trans (hput _ _)).trans (hnar hk3)).trans (hput _ _)⟩⟩
      | ret =>
        obtain ⟨hk3, hi3⟩ := hp
        obtain ⟨hr, hl4, hk4⟩ := fin (some .ret) W3 hk3
        exact ⟨_, _, hr, .inr ⟨rfl, .ret, (hIx _).putObj _ _ hi3 (by omega) (by omega), hl4, hk4⟩⟩
      | exit id =>
        obtain ⟨hk3, hi3⟩ := hp
        obtain ⟨hr, hl4, hk4⟩ := fin (some (.exit id)) W3 hk3
        exact ⟨_, _, hr, .inr ⟨rfl, .exit id, (hIx _).putObj _ _ hi3 (by omega) (by omega), hl4, hk4⟩⟩
      | goto t =>
        obtain ⟨hk3, hi3⟩ := hp
        obtain ⟨hr, hl4, hk4⟩ := fin (some (.goto t)) W3 hk3
        exact ⟨_, _, hr, .inr ⟨rfl, .goto t, (hIx _).putObj _ _ hi3 (by omega) (by omega), hl4, hk4⟩⟩
      | panic ch => exact hp.elim
      | outgrown => exact hp.elim
    · rintro e W2 ⟨⟨v, rfl⟩, (⟨xs, hS, hi, hl, hk⟩ | ⟨pre, hSp, c, hi, hl, hk⟩)⟩
      · refine ⟨none, _, ?_, hdone xs _ hS (hI.putObj (w.heap.size + 1) (.loop (rec .exhausted none)) hi (by omega) (by omega)) ((World.putObj_heap_other (by omega)).trans hk)⟩
        have := run_endLoop (P := P) hl (by rw [hrec]; simp)
        rw [hrec] at this ⊢
        exact this
      · refine ⟨some c, _, ?_, hstop c pre _ hSp ((hIx c).putObj (w.heap.size + 1) (.loop (rec .exhausted (some c))) hi (by omega) (by omega)) ((World.putObj_heap_other (by omega)).trans hk)⟩
        have := run_endLoop (P := P) hl (by rw [hrec]; simp)
        rw [hrec] at this ⊢
        exact this

end Go.Proofs.Ytmmaodlngnjmlaa.Rng2
