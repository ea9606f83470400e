/- A range over a function whose iterator keeps a variable of its own in memory: one law for the caller, over the laws of the library for the statement and for a round. The timetable's iterator over the moves of segments and how far each has gone: for every list of segments, every tick, every body of a loop over it. -/
import Derived.RangeFuncNested
import Derived.RangeFuncBound
import Derived.RangeFuncCalls
import Derived.RangeFuncLeaves
import Derived.WalkKit
import Derived.OwnWalkIn
import Derived.TacticsInMore
import Derived.LoopNIn
import Derived.LoopIn
import Derived.RangeFuncBox
import Derived.Test.YtmmaodlngnjmlaaP0
import Derived.Stop.RegionWithIn
namespace Go.Proofs.Ytmmaodlngnjmlaa.Rng2
open Go Go.RowKit

/-- The blocks below a and those from b to c lie as they lay. -/
structure Keep (a : Nat → Prop) (b c : Nat) (W W' : World) : Prop where
  size : W.heap.size ≤ W'.heap.size
  block : ∀ k, a k ∨ (b ≤ k ∧ k ≤ c) → k < W.heap.size → W'.heap[k]? = W.heap[k]?
theorem Keep.refl (a : Nat → Prop) (b c : Nat) (W : World) : Keep a b c W W := ⟨Nat.le_refl _, fun _ _ _ => rfl⟩
theorem Keep.trans {a : Nat → Prop} {b c : Nat} {X Y Z : World} (h : Keep a b c X Y) (k : Keep a b c Y Z) : Keep a b c X Z :=
  ⟨Nat.le_trans h.size k.size, fun i hi hl => (k.block i hi (Nat.lt_of_lt_of_le hl h.size)).trans (h.block i hi hl)⟩
theorem Keep.of_grownBy {a : Nat → Prop} {b c : Nat} {W W' : World} {row : Option Nat} (hg : W.grownBy W' row) (hr : ∀ r, row = some r → ¬ (a r ∨ (b ≤ r ∧ r ≤ c))) : Keep a b c W W' :=
  ⟨hg.size, fun k hk hl => hg.block k hl (fun e => hr k e.symm hk)⟩
theorem Keep.alloc {a : Nat → Prop} {b c : Nat} {X W : World} (h : Keep a b c X W) (o : Obj) : Keep a b c X (W.alloc o) := h.trans (Keep.of_grownBy (World.grownBy_alloc W o none) (fun r e => by cases e))
theorem Keep.set {a : Nat → Prop} {b c : Nat} {X W : World} (h : Keep a b c X W) (p j : Nat) (v : Value) (hp : ¬ (a p ∨ (b ≤ p ∧ p ≤ c))) : Keep a b c X (W.setCell ⟨p, j, none⟩ v) :=
  h.trans ⟨(KeepsWalks.setCell W _ v).size, fun k hk _ => Below.heap_setCell _ _ _ k (fun e => hp (by have e' : k = p := e; rw [← e']; exact hk))⟩
theorem Keep.narrow {a a' : Nat → Prop} {b c b' c' : Nat} {X W : World} (h : Keep a b c X W) (ha : ∀ k, a' k → a k) (hb : b ≤ b') (hc : c' ≤ c) : Keep a' b' c' X W :=
  ⟨h.size, fun k hk => h.block k (hk.imp (ha k) (fun h2 => ⟨by omega, by omega⟩))⟩
theorem Keep.lift {a : Nat → Prop} {b c : Nat} {X W : World} (h : Keep a b c X W) {k : Nat} {o : Obj} (hk : a k ∨ (b ≤ k ∧ k ≤ c)) (ho : X.heap[k]? = some o) : W.heap[k]? = some o :=
  (h.block k hk (Array.getElem?_eq_some_iff.1 ho).1).trans ho
theorem Keep.cell {a : Nat → Prop} {b c : Nat} {X W : World} (h : Keep a b c X W) {p : Addr} {v : Value} (hk : a p.block ∨ (b ≤ p.block ∧ p.block ≤ c)) (hc : X.cell? p = some v) : W.cell? p = some v :=
  (World.cell?_of_block (h.block p.block hk (World.block_lt_of_cell? X p hc))).trans hc
/-- What abides new blocks, and a turn of one block from b to c. -/
def Abide {β : Type} (b c : Nat) (J : β → World → Prop) : Prop := ∀ s A B row, J s A → A.grownBy B row → (∀ r, row = some r → b ≤ r ∧ r ≤ c) → J s B
theorem Abide.alloc {β : Type} {b c : Nat} {J : β → World → Prop} (h : Abide b c J) {s : β} {W : World} (o : Obj) (hs : J s W) : J s (W.alloc o) := h s W _ none hs (World.grownBy_alloc W o none) (fun r e => by cases e)
theorem Abide.putObj {β : Type} {b c : Nat} {J : β → World → Prop} (h : Abide b c J) {s : β} {W : World} (l : Nat) (o : Obj) (hs : J s W) (h0 : b ≤ l) (h1 : l ≤ c) : J s (W.putObj l o) :=
  h s W _ (some l) hs (grownBy_putObj' W l o) (fun r e => by cases e; exact ⟨h0, h1⟩)

/-- The iterator's contract: what it hands over, and in which order; its own variable lies in the first block that it lays. -/
def SeqQ {α : Type} (F : Fence) (n : Nat) (P : Program) (g : Nat) (lb : Array Value) (encs : α → Array Value) (a0 : Nat → Prop) (Ok : α → Prop) (S Sp : List α → Prop) (N : Nat) (w0 : World) : Prop :=
  ∀ (l : Nat) (J Jx : List α → World → Prop) (W : World), Below w0.heap.size w0 W → Abide W.heap.size W.heap.size J → Abide W.heap.size W.heap.size Jx →
    (∀ pre x W1, Ok x → J pre W1 → W.heap.size < W1.heap.size → pre.length < N → YieldAt F (n - 1) P l (encs x) W1 fun e W' =>
      (e = .returned (.bool true) ∧ J (pre ++ [x]) W' ∧ Keep a0 W.heap.size W.heap.size W1 W') ∨ (e = .returned (.bool false) ∧ Jx (pre ++ [x]) W')) →
    J [] W →
    CallsIn F n P g (#[.func (.yield l) #[] #[]] ++ lb) W fun e W' => (∃ v, e = .returned v) ∧ ((∃ xs, S xs ∧ J xs W') ∨ (∃ pre, Sp pre ∧ Jx pre W'))

/-- How the body of a round may be left. -/
def postQ {α : Type} (a0 : Nat → Prop) (h : Nat) (I : List α → World → Prop) (Ix : Code → List α → World → Prop) (xs : List α) (W : World) : Exit → Act → World → Prop
  | .normal, _, W' => Keep a0 h (h + 2) W W' ∧ I xs W'
  | .ret, _, W' => Keep a0 h (h + 2) W W' ∧ Ix .ret xs W'
  | .exit id, _, W' => Keep a0 h (h + 2) W W' ∧ Ix (.exit id) xs W'
  | .goto t, _, W' => Keep a0 h (h + 2) W W' ∧ Ix (.goto t) xs W'
  | .panic _, _, _ => False
  | .outgrown, _, _ => False

variable {F : Fence} {n : Nat} {P : Program}

theorem wpIn_range {α : Type} {g : Operand} {ps : Array Tmp} {assign body : Code} {Q : Exit → Act → World → Prop} {a : Act} {w : World}
    (hro : F.round = none) (h1 : 1 ≤ n) {gf : Nat} {lb : Array Value} (hg : a.eval g = .func (.func gf) #[] lb) (hFg : F.fn gf) (eg : ∀ args w, (callFunc gf args).run P w = .ok (.enter gf args) w)
    {encs : α → Array Value} {a0 : Nat → Prop} {Ok : α → Prop} {S Sp : List α → Prop} {N : Nat} {w0 : World} (hseq : SeqQ F (n - 1) P gf lb encs a0 Ok S Sp N w0) (hb0 : Below w0.heap.size w0 w) (ha0 : ∀ k, a0 k → k < w.heap.size) (hps : ∀ x, (encs x).size = ps.size)
    (I : List α → World → Prop) (Ix : Code → List α → World → Prop) (Ax : α → Act → World → Prop) (hI : Abide w.heap.size (w.heap.size + 2) I) (hIx : ∀ c, Abide w.heap.size (w.heap.size + 2) (Ix c)) (hAx : ∀ x, Abide w.heap.size (w.heap.size + 2) (Ax x)) (h0 : I [] w)
    (hassign : ∀ (l : Nat) (pre : List α) (x : α) (W : World) (K : Act → World → Prop), Ok x → I pre W → w.heap.size + 2 < W.heap.size → (∀ a' W', Keep a0 w.heap.size (w.heap.size + 2) W W' → I pre W' → Ax x a' W' → K a' W') →
      assign.wpIn (F.inRound l) (n - 1 - 1) P (Exit.then K (fun _ _ _ => False)) { tmps := (ps.zip (encs x)).foldl (fun t (p, v) => t.setIfInBounds p v) a.tmps, defers := [] } W)
    (hbody : ∀ (l : Nat) (pre : List α) (x : α) (a' : Act) (W : World), Ok x → I pre W → Ax x a' W → w.heap.size + 2 < W.heap.size → pre.length < N → body.wpIn (F.inRound l) (n - 1 - 1) P (postQ a0 w.heap.size I Ix (pre ++ [x]) W) a' W)
    (hdone : ∀ (xs : List α) (W : World), S xs → I xs W → W.heap[w.heap.size]? = some (.deferred (some [])) → Q .normal { a with defers := { target := .collected w.heap.size, args := #[] } :: a.defers } W)
    (hstop : ∀ (c : Code) (pre : List α) (W : World), Sp pre → Ix c pre W → W.heap[w.heap.size]? = some (.deferred (some [])) → c.wpIn F n P Q { a with defers := { target := .collected w.heap.size, args := #[] } :: a.defers } W) :
    (Code.rangeFunc g ps assign body).wpIn F n P Q a w := by
  refine wpIn_rangeFunc ?_
  intro fn hfn
  rw [hro]
  obtain ⟨rec, hrec⟩ : ∃ rec : LoopState → Option Code → Loop, rec = fun st pe => { state := st, pending := pe, fn, tmps := a.tmps, params := ps, assign, body, defers := w.heap.size } := ⟨_, rfl⟩
  obtain ⟨W1, hW1⟩ : ∃ W1, (w.alloc (.deferred (some []))).alloc (.loop (rec .ready none)) = W1 := ⟨_, rfl⟩
  have hsz : W1.heap.size = w.heap.size + 2 := by rw [← hW1]; simp
  have hL1 : W1.heap[w.heap.size + 1]? = some (.loop (rec .ready none)) := by
    rw [← hW1]
    have := World.alloc_heap_new (w.alloc (.deferred (some []))) (.loop (rec .ready none))
    rwa [World.size_alloc] at this
  have hK1 : W1.heap[w.heap.size]? = some (.deferred (some [])) := by
    rw [← hW1]
    exact (Below.heap_alloc _ _ _ (by simp)).trans (World.alloc_heap_new w _)
  have hI1 : I [] W1 := by rw [← hW1]; exact hI.alloc _ (hI.alloc _ h0)
  have hb1 : Below w0.heap.size w0 W1 := by
    rw [← hW1]
    exact hb0.trans ((((Below.refl _ w).alloc (Nat.le_refl _) _).alloc (by simp) _).mono hb0.size)
  refine ⟨w.heap.size + 1, [{ target := .collected w.heap.size, args := #[] }], W1, { target := .fn (.func gf) lb, args := #[.func (.yield (w.heap.size + 1)) #[] #[]] }, W1, gf,
    #[.func (.yield (w.heap.size + 1)) #[] #[]] ++ lb, W1, ?_, ?_, ?_, ?_, fun _ => h1, ?_⟩
  · rw [← hW1, hrec]; exact run_enterLoop_outer _ _ _ _ _
  · simp only [resolve, hg]
    simp [go_sem]
  · intro f' hf'; simp [Target.leads] at hf'; subst hf'; exact hFg
  · simp [invoke, go_sem, eg]
  · have keepB : ∀ {A B : World} {row : Option Nat} {k : Nat} {o : Obj}, A.grownBy B row → (∀ r, row = some r → W1.heap.size ≤ r ∧ r ≤ W1.heap.size) → k < W1.heap.size → A.heap[k]? = some o → B.heap[k]? = some o := fun hg' hr hk ho =>
      (hg'.block _ (Array.getElem?_eq_some_iff.1 ho).1 (fun e => by have := hr _ e.symm; omega)).trans ho
    refine (hseq (w.heap.size + 1)
      (fun pre W => I pre W ∧ W.heap[w.heap.size + 1]? = some (.loop (rec .ready none)) ∧ W.heap[w.heap.size]? = some (.deferred (some [])))
      (fun pre W => ∃ c, Ix c pre W ∧ W.heap[w.heap.size + 1]? = some (.loop (rec .done (some c))) ∧ W.heap[w.heap.size]? = some (.deferred (some [])))
      W1 hb1
      (fun s A B row hs hg' hr => ⟨hI s A B row hs.1 hg' (fun r e => by have := hr r e; omega), keepB hg' hr (by omega) hs.2.1, keepB hg' hr (by omega) hs.2.2⟩)
      (fun s A B row hs hg' hr => by
        obtain ⟨c, hc, hl, hk⟩ := hs
        exact ⟨c, hIx c s A B row hc hg' (fun r e => by have := hr r e; omega), keepB hg' hr (by omega) hl, keepB hg' hr (by omega) hk⟩)
      ?_ ⟨hI1, hL1, hK1⟩).mono ?_
    · rintro pre x W hx ⟨hi, hl, hk⟩ hlt hlen
      have hy := run_yield (P := P) (args := encs x) hl (by rw [hrec]; exact hps x)
      rw [hrec] at hy
      refine ⟨fn, _, assign, body, hy, roundIn_of_wpIn hfn (hassign _ pre x W _ hx hi (by omega) (fun a' W2 hkp hi2 hax => ?_))⟩
      have hl1 : W2.heap[w.heap.size + 1]? = some (.loop (rec .ready none)) := hkp.lift (.inr (by omega)) hl
      have hk1 : W2.heap[w.heap.size]? = some (.deferred (some [])) := hkp.lift (.inr (by omega)) hk
      have hlt1 := (Array.getElem?_eq_some_iff.1 hl1).1
      refine ⟨_, run_beginRound hl1 (by rw [hrec]), ?_⟩
      have hl2 : (W2.putObj (w.heap.size + 1) (.loop { rec .ready none with state := .busy })).heap[w.heap.size + 1]? = some (.loop { rec .ready none with state := .busy }) := World.putObj_heap_same hlt1
      have hk2 : (W2.putObj (w.heap.size + 1) (.loop { rec .ready none with state := .busy })).heap[w.heap.size]? = some (.deferred (some [])) := (World.putObj_heap_other (by omega)).trans hk1
      have hsz2 : w.heap.size + 2 < (W2.putObj (w.heap.size + 1) (.loop { rec .ready none with state := .busy })).heap.size := by
        have h3 := hkp.size
        have h4 := (grownBy_putObj' W2 (w.heap.size + 1) (.loop { rec .ready none with state := .busy })).size
        omega
      refine wpIn_mono (hbody _ pre x a' _ hx (hI.putObj _ _ hi2 (by omega) (by omega)) ((hAx x).putObj _ _ hax (by omega) (by omega)) hsz2 hlen) ?_
      have hput : ∀ (X : World) (o : Obj), Keep a0 W1.heap.size W1.heap.size X (X.putObj (w.heap.size + 1) o) := fun X o =>
        Keep.of_grownBy (grownBy_putObj' X _ o) (fun r e => by
          cases e
          rintro (h | h)
          · have := ha0 _ h; omega
          · omega)
      have hnar : ∀ {X Y : World}, Keep a0 w.heap.size (w.heap.size + 2) X Y → Keep a0 W1.heap.size W1.heap.size X Y := fun h => h.narrow (fun _ hk => hk) (by omega) (by omega)
      have fin : ∀ (jump : Option Code) (W3 : World), Keep a0 w.heap.size (w.heap.size + 2) (W2.putObj (w.heap.size + 1) (.loop { rec .ready none with state := .busy })) W3 →
          (Instr.endRound (w.heap.size + 1) jump).run P W3 = .ok (.bool jump.isNone) (W3.putObj (w.heap.size + 1) (.loop (rec (if jump.isNone then .ready else .done) jump))) ∧
          (W3.putObj (w.heap.size + 1) (.loop (rec (if jump.isNone then .ready else .done) jump))).heap[w.heap.size + 1]? = some (.loop (rec (if jump.isNone then .ready else .done) jump)) ∧
          (W3.putObj (w.heap.size + 1) (.loop (rec (if jump.isNone then .ready else .done) jump))).heap[w.heap.size]? = some (.deferred (some [])) := fun jump W3 hk3 => by
        have hl3 := hk3.lift (.inr (by omega)) hl2
        have hk4 := hk3.lift (.inr (by omega)) hk2
        have := run_endRound (P := P) jump hl3
        rw [hrec] at this ⊢
        exact ⟨this, World.putObj_heap_same (Array.getElem?_eq_some_iff.1 hl3).1, (World.putObj_heap_other (by omega)).trans hk4⟩
      rintro e a3 W3 hp
      cases e with
      | normal =>
        obtain ⟨hk3, hi3⟩ := hp
        obtain ⟨hr, hl4, hk4⟩ := fin none W3 hk3
        exact ⟨_, _, hr, .inl ⟨rfl, ⟨hI.putObj _ _ hi3 (by omega) (by omega), hl4, hk4⟩, (((hnar hkp).trans (hput _ _)).trans (hnar hk3)).trans (hput _ _)⟩⟩
      | ret =>
        obtain ⟨hk3, hi3⟩ := hp
        obtain ⟨hr, hl4, hk4⟩ := fin (some .ret) W3 hk3
        exact ⟨_, _, hr, .inr ⟨rfl, .ret, (hIx _).putObj _ _ hi3 (by omega) (by omega), hl4, hk4⟩⟩
      | exit id =>
        obtain ⟨hk3, hi3⟩ := hp
        obtain ⟨hr, hl4, hk4⟩ := fin (some (.exit id)) W3 hk3
        exact ⟨_, _, hr, .inr ⟨rfl, .exit id, (hIx _).putObj _ _ hi3 (by omega) (by omega), hl4, hk4⟩⟩
      | goto t =>
        obtain ⟨hk3, hi3⟩ := hp
        obtain ⟨hr, hl4, hk4⟩ := fin (some (.goto t)) W3 hk3
        exact ⟨_, _, hr, .inr ⟨rfl, .goto t, (hIx _).putObj _ _ hi3 (by omega) (by omega), hl4, hk4⟩⟩
      | panic ch => exact hp.elim
      | outgrown => exact hp.elim
    · rintro e W2 ⟨⟨v, rfl⟩, (⟨xs, hS, hi, hl, hk⟩ | ⟨pre, hSp, c, hi, hl, hk⟩)⟩
      · refine ⟨none, _, ?_, hdone xs _ hS (hI.putObj (w.heap.size + 1) (.loop (rec .exhausted none)) hi (by omega) (by omega)) ((World.putObj_heap_other (by omega)).trans hk)⟩
        have := run_endLoop (P := P) hl (by rw [hrec]; simp)
        rw [hrec] at this ⊢
        exact this
      · refine ⟨some c, _, ?_, hstop c pre _ hSp ((hIx c).putObj (w.heap.size + 1) (.loop (rec .exhausted (some c))) hi (by omega) (by omega)) ((World.putObj_heap_other (by omega)).trans hk)⟩
        have := run_endLoop (P := P) hl (by rw [hrec]; simp)
        rw [hrec] at this ⊢
        exact this

end Go.Proofs.Ytmmaodlngnjmlaa.Rng2
namespace Go.Proofs.Ytmmaodlngnjmlaa.Gone
set_option linter.unusedVariables false
set_option linter.unusedSimpArgs false
open Go Go.RowKit Go.Shelf Go.Proofs.Ytmmaodlngnjmlaa.Rng2 Go.Proofs.YtmmaodlngnjmlaaW.PrintWords Go.Proofs.YtmmaodlngnjmlaaW.PrintMore Go.Proofs.Ytmmaodlngnjmlaa.P
open Go.Proofs.Ytmmaodlngnjmlaa.Ticks (tr lastOf final_in argOf tr_length)
attribute [local go_sem] Oper.semAt_some

abbrev Seg := S67
/-- How many of a segment's jerks have been played at a tick. -/
def gN (tick : Int) (s : Seg) : Nat := if s.f1 < tick then (mn (wrap64 (tick - s.f1)) s.f2.length).toNat else 0
/-- How far it has gone. -/
def gP (tick : Int) (s : Seg) : Int := (lastOf 0 0 0 (tr 0 0 0 (s.f2.take (gN tick s)))).1
def goodB (tick : Int) (s : Seg) : Bool := decide ((s.f1 < tick → 0 ≤ wrap64 (tick - s.f1)) ∧ s.f2.length ≤ 1000000000000)
def gOf (tick : Int) (s : Seg) : (Int × Int × Int) × Int := ((s.f0.f0.f0, s.f0.f0.f1, s.f0.f0.f2), gP tick s)
def gEnc (x : (Int × Int × Int) × Int) : Array Value := #[.agg #[.int .i64 x.1.1, .int .i64 x.1.2.1, .int .i64 x.1.2.2], .int .i64 x.2]

theorem gN_le (tick : Int) (s : Seg) : gN tick s ≤ s.f2.length := by
  unfold gN mn
  split
  · split <;> omega
  · omega
/-- The call of Final on the first jerks. -/
theorem final_take (n : Nat) (hn : 3 ≤ n) (A : Option Addr) (tick : Int) (s : Seg) (m : Nat) (hm : gN tick s = m) (cap : Nat) (W : World) (hN : A = none → s.f2 = []) (hc : ∀ ad, A = some ad → ∀ j, j < s.f2.length → W.cell? (ad.add j) = some (.int .i64 (rd s.f2 j))) (hmax : s.f2.length ≤ 1000000000000) :
    CallsIn Fence.wide n Try.prog 18 #[.agg #[.int .i64 0, .int .i64 0, .int .i64 0], .slice A m cap] W fun e W' =>
      ∃ p v a, p = gP tick s ∧ e = .returned (.agg #[.int .i64 p, .int .i64 v, .int .i64 a]) ∧ Below W.heap.size W W' := by
  have hle := gN_le tick s
  have hl : (s.f2.take m).length = m := by rw [List.length_take]; omega
  have h := final_in n hn 0 0 0 A (s.f2.take m) cap W (fun e => by rw [hN e]; simp) (fun ad e j hj => by
    rw [hl] at hj
    rw [hc ad e j (by omega)]
    simp [rd, List.getD_eq_getElem?_getD, List.getElem?_take, hj]) (by omega)
  rw [hl] at h
  subst hm
  exact h.mono fun e W' ⟨he, hB⟩ => ⟨_, _, _, rfl, he, hB⟩

/-- What is known of one segment's cells. -/
structure SegAt (w0 : World) (ad : Addr) (A5 : Option Addr) (k5 : Nat) (s : Seg) : Prop where
  c0 : w0.cell? ad = some (.int .i64 s.f0.f0.f0)
  c1 : w0.cell? ⟨ad.block, ad.off + 1, none⟩ = some (.int .i64 s.f0.f0.f1)
  c2 : w0.cell? ⟨ad.block, ad.off + 2, none⟩ = some (.int .i64 s.f0.f0.f2)
  c3 : w0.cell? ⟨ad.block, ad.off + 3, none⟩ = some (.int .i64 s.f0.f1)
  c4 : w0.cell? ⟨ad.block, ad.off + 4, none⟩ = some (.int .i64 s.f1)
  c5 : w0.cell? ⟨ad.block, ad.off + 5, none⟩ = some (.slice A5 s.f2.length k5)
  le : s.f2.length ≤ k5
  hN : A5 = none → s.f2 = []
  hc : ∀ a5, A5 = some a5 → ∀ j, j < s.f2.length → w0.cell? (a5.add j) = some (.int .i64 (rd s.f2 j))
theorem seg_at {w : World} {ad : Addr} {l : List Seg} (h : Kd.C k67 w (some ad) l.length l) (k : Nat) (hk : k < l.length) : ∃ A5 k5, SegAt w (ad.add (k * 6)) A5 k5 l[k] := by
  obtain ⟨ad', A5, c5, e, h0, h1, h2, h3, h4, h5, hl, hC⟩ := at_T67 h (k : Int) (by omega) (by omega)
  cases e
  have e : rd_T67 l (k : Int) = l[k] := by
    unfold rd_T67
    rw [Int.toNat_natCast, List.getD_eq_getElem?_getD, List.getElem?_eq_getElem hk]
    rfl
  rw [e] at h0 h1 h2 h3 h4 h5 hl hC
  simp only [Int.toNat_natCast] at h0 h1 h2 h3 h4 h5
  exact ⟨A5, c5, h0, h1, h2, h3, h4, h5, hl, (argOf hC).1, (argOf hC).2⟩
/-- The blocks of an elder world lie as they lay. -/
def Old (w0 w : World) : Prop := ∀ k, k < w0.heap.size → w.heap[k]? = w0.heap[k]?
theorem Old.cell {w0 w : World} (h : Old w0 w) {p : Addr} {v : Value} (hc : w0.cell? p = some v) : w.cell? p = some v := (World.cell?_of_block (h _ (World.block_lt_of_cell? w0 _ hc))).trans hc
theorem SegAt.old {w0 w : World} {ad : Addr} {A5 : Option Addr} {k5 : Nat} {s : Seg} (h : SegAt w0 ad A5 k5 s) (ho : Old w0 w) : SegAt w ad A5 k5 s :=
  ⟨ho.cell h.c0, ho.cell h.c1, ho.cell h.c2, ho.cell h.c3, ho.cell h.c4, ho.cell h.c5, h.le, h.hN, fun a5 e j hj => ho.cell (h.hc a5 e j hj)⟩
/-- What holds behind the body of the loop, by what it hands back. -/
structure After (J Jx : List ((Int × Int × Int) × Int) → World → Prop) (a0 : Nat → Prop) (h : Nat) (xs : List ((Int × Int × Int) × Int)) (W1 : World) (b : Bool) (W' : World) : Prop where
  yes : b = true → J xs W' ∧ Keep a0 h h W1 W'
  no : b = false → Jx xs W'
theorem only_of_below {a w : World} (h : Below a.heap.size a w) (row : Option Nat) : a.grownBy w row := ⟨h.os, h.tape, h.output, h.size, fun i hi _ => h.block i hi⟩

theorem fieldA33_0 (w : World) (x0 x1 x2 : Int) : Sem.run Try.prog (Instr.field 33 (.agg #[.int .i64 x0, .int .i64 x1, .int .i64 x2]) 0) w = .ok (.int .i64 x0) w := by kernel_rfl
attribute [local go_sem high] fieldA33_0
theorem lift_old {wr w4 w5 : World} {o : Obj} {a0 : Nat → Prop} {h : Nat} (hB4 : Below (wr.alloc o).drew.heap.size (wr.alloc o).drew w4) (hk : Keep a0 h h w4 w5) {k : Nat} {ob : Obj} (hb : wr.heap[k]? = some ob) (ha : a0 k) : w5.heap[k]? = some ob := by
  have hlt : k < wr.heap.size := (Array.getElem?_eq_some_iff.1 hb).1
  have h1 : (wr.alloc o).heap[k]? = some ob := (Below.heap_alloc wr o k hlt).trans hb
  have h2 : w4.heap[k]? = some ob := (hB4.block k (by show _ < (wr.alloc o).heap.size; simp; omega)).trans h1
  exact hk.lift (.inl ha) h2
theorem next_old {w0 wr w4 w5 : World} {o : Obj} {a0 : Nat → Prop} {h : Nat} (hB4 : Below (wr.alloc o).drew.heap.size (wr.alloc o).drew w4) (hk : Keep a0 h h w4 w5) (ho : Old w0 wr) (ha : ∀ k, k < w0.heap.size → a0 k) : Old w0 w5 := by
  intro k hlt
  have h0 : w0.heap[k]? = some w0.heap[k] := Array.getElem?_eq_getElem hlt
  rw [h0]
  exact lift_old hB4 hk ((ho k hlt).trans h0) (ha k hlt)
theorem next_size {wr w4 w5 : World} {o : Obj} {a0 : Nat → Prop} {h n : Nat} (hB4 : Below (wr.alloc o).drew.heap.size (wr.alloc o).drew w4) (hk : Keep a0 h h w4 w5) (hs : n ≤ wr.heap.size) : n ≤ w5.heap.size := by
  have h1 := hB4.size
  have h2 := hk.size
  have h3 : (wr.alloc o).drew.heap.size = wr.heap.size + 1 := by show (wr.alloc o).heap.size = _; simp
  omega
set_option maxRecDepth 100000 in
set_option maxHeartbeats 4000000 in
theorem gone1_some (n : Nat) (hn : 4 ≤ n) (lb bl bt : Nat) (ad : Addr) (l : List Seg) (cap : Nat) (tick : Int) (a0 : Nat → Prop) (w0 : World) (hC : Kd.C k67 w0 (some ad) l.length l) (hgood : ∀ s ∈ l, goodB tick s = true)
    (J Jx : List ((Int × Int × Int) × Int) → World → Prop) (W : World) (hJ : Abide W.heap.size W.heap.size J)
    (Ok : (Int × Int × Int) × Int → Prop) (hOk : ∀ s ∈ l, Ok (gOf tick s))
    (hY : ∀ pre x W1, Ok x → J pre W1 → W.heap.size < W1.heap.size → pre.length < l.length → YieldAt Fence.wide (n - 1) Try.prog lb (gEnc x) W1 fun e W' =>
      (e = .returned (.bool true) ∧ J (pre ++ [x]) W' ∧ Keep a0 W.heap.size W.heap.size W1 W') ∨ (e = .returned (.bool false) ∧ Jx (pre ++ [x]) W'))
    (ha : ∀ k, k < w0.heap.size ∨ k = bt → a0 k) (hbt : w0.heap.size ≤ bt)
    (hl : W.heap[bl]? = some (.cells #[.slice (some ad) l.length cap] 53 (0, 0))) (ht : W.heap[bt]? = some (.cells #[.int .i64 tick] 3 (0, 0))) (hold : Old w0 W) (hmax : l.length ≤ 9223372036854775807) (h0 : J [] W) :
    CallsIn Fence.wide n Try.prog 81 #[.func (.yield lb) #[] #[], .pointer (some ⟨bl, 0, none⟩), .pointer (some ⟨bt, 0, none⟩)] W fun e W' => (∃ v, e = .returned v) ∧
      ((∃ ys, ys = l.map (gOf tick) ∧ J ys W') ∨ (∃ pre, pre <+: l.map (gOf tick) ∧ Jx pre W')) := by
  have l0 : W.cell? ⟨bl, 0, none⟩ = some (.slice (some ad) l.length cap) := (blk_cell hl 0).trans rfl
  refine callsIn_of_wp Try.func81 rfl trivial ?_ rfl
  simp only [Try.ntmps81, List.size_toArray, List.length_cons, List.length_nil, Nat.reduceAdd, Nat.reduceSub, Array.replicate_succ, Array.replicate_zero, List.push_toArray, List.append_toArray, List.nil_append, List.cons_append]
  gi_wp2
  have hJ' := Aside0.mk hJ
  clear hJ
  have hY' := Aside0.mk hY
  clear hY
  have hC' := Aside0.mk hC
  clear hC
  have hg' := Aside0.mk hgood
  clear hgood
  have ha' := Aside0.mk ha
  clear ha
  gi_loopw [9] (fun i wr => ∃ (k : Nat) (pre : List ((Int × Int × Int) × Int)), i = .int .i64 k ∧ k ≤ l.length ∧ Aside0 (pre = (l.map (gOf tick)).take k) ∧ Aside0 (J pre wr) ∧ Aside0 (Old w0 wr) ∧ Aside0 (wr.heap[bt]? = some (.cells #[.int .i64 tick] 3 (0, 0))) ∧ Aside0 (W.heap.size ≤ wr.heap.size))
    (fun i _ => l.length - (intOf i).toNat)
  case atStart => exact ⟨0, [], rfl, Nat.zero_le _, ⟨by simp⟩, ⟨h0⟩, ⟨hold⟩, ⟨ht⟩, ⟨Nat.le_refl _⟩⟩
  case round =>
    obtain ⟨k, pre, rfl, hk, hpre, hj, ho, hbt', hsz⟩ := hrel
    by_cases hlt : k < l.length
    · obtain ⟨A5, k5, hS⟩ := seg_at hC'.out k hlt
      have hS1 := hS.old ho.out
      have hgd := hg'.out _ (List.getElem_mem hlt)
      obtain ⟨s, hs⟩ : ∃ s, l[k] = s := ⟨_, rfl⟩
      rw [hs] at hS hS1 hgd
      unfold goodB at hgd
      obtain ⟨g1, g2⟩ := of_decide_eq_true hgd
      clear hgd
      have HS := Aside0.mk hS
      clear hS
      have HS1 := Aside0.mk hS1
      obtain ⟨x0, x1, x2, x3, x4, x5, xle, xN, xc⟩ := hS1
      have XN := Aside0.mk xN
      have XC := Aside0.mk xc
      clear xN xc
      have t0 : ∀ o, (wr.alloc o).cell? ⟨bt, 0, none⟩ = some (.int .i64 tick) := fun o => (World.cell?_of_block (Below.heap_alloc wr o bt (blk_lt hbt'.out))).trans ((blk_cell hbt'.out 0).trans rfl)
      have hsA := Aside0.mk hs
      clear hs
      have xi : (s.f2.length : Int) ≤ (k5 : Int) := by omega
      have x9 : (0 : Int) ≤ (s.f2.length : Int) := by omega
      have x8 : (0 : Int) ≤ (k5 : Int) := by omega
      have HYB : ∀ o w4, Below (wr.alloc o).drew.heap.size (wr.alloc o).drew w4 → YieldAt Fence.wide (n - 1) Try.prog lb (gEnc (gOf tick s)) w4 fun e W' => ∃ b, e = .returned (.bool b) ∧ After J Jx a0 W.heap.size (pre ++ [gOf tick s]) w4 b W' := fun o w4 hB4 => by
        have hs4 := hB4.size
        have hsz1 := hsz.out
        have hlen : pre.length < l.length := by rw [hpre.out, List.length_take, List.length_map]; omega
        refine (hY'.out pre (gOf tick s) w4 (by have := hOk _ (List.getElem_mem hlt); rwa [hsA.out] at this) ?_ ?_ hlen).mono ?_
        · exact hJ'.out _ _ _ none (hJ'.out _ _ _ none hj.out (World.grownBy_alloc wr o none) (fun r e => by cases e)) ⟨hB4.os, hB4.tape, hB4.output, hB4.size, fun i hi _ => hB4.block i hi⟩ (fun r e => by cases e)
        · have : (wr.alloc o).drew.heap.size = wr.heap.size + 1 := by show (wr.alloc o).heap.size = _; simp
          omega
        · rintro e W' (⟨rfl, h1, h2⟩ | ⟨rfl, h1⟩)
          · exact ⟨true, rfl, fun _ => ⟨h1, h2⟩, fun e => by cases e⟩
          · exact ⟨false, rfl, fun e => (by cases e), fun _ => h1⟩
      have HY4 := Aside0.mk HYB
      clear HYB
      have XC4 : ∀ o ad, A5 = some ad → ∀ j, j < s.f2.length → (wr.alloc o).drew.cell? (ad.add j) = some (.int .i64 (rd s.f2 j)) := fun o ad e j hj =>
        (show (wr.alloc o).cell? (ad.add j) = _ from (World.cell?_of_block (Below.heap_alloc wr o _ (World.block_lt_of_cell? wr _ (XC.out ad e j hj)))).trans (XC.out ad e j hj))
      have XC' := Aside0.mk XC4
      clear XC4
      have HB0 : ∀ o, (wr.alloc o).heap[wr.heap.size]? = some o := fun o => heap_alloc_new wr o
      have B0 := Aside0.mk HB0
      clear HB0
      have hnext : (l.map (gOf tick)).take (k + 1) = pre ++ [gOf tick s] := by
        rw [List.take_succ_eq_append_getElem (by simpa using hlt), ← hpre.out]
        simp [hsA.out]
      have HN := Aside0.mk hnext
      clear hnext
      have hgN : gN tick s = if s.f1 < tick then (if (s.f2.length : Int) < wrap64 (tick - s.f1) then s.f2.length else (wrap64 (tick - s.f1)).toNat) else 0 := by
        unfold gN mn
        split
        · split
          · simp
          · rfl
        · rfl
      have HG := Aside0.mk hgN
      clear hgN
      cases A5 with
      | none =>
        gi_wp2
        · skip
          gi_region_with (first
            | (refine ⟨trivial, fun _ => by omega, ?_⟩; gi_at_call 18; refine (final_take (n - 1) (by omega) _ tick s _ (by rw [HG.out, if_pos (by assumption), if_pos (by assumption)]) _ _ (fun e => by first | exact XN.out e | exact XN.out trivial) (fun ad e j hj => XC'.out _ ad e j hj) g2).mono ?_; rintro e w4 ⟨p4, v4, q4, rfl, rfl, hB4⟩; have b4 := (hB4.block _ (by show _ < (wr.alloc _).heap.size; simp)).trans (B0.out _); have y0 := blk_cell b4 0; have y1 := blk_cell b4 1; have y2 := blk_cell b4 2; have HB4 := Aside0.mk hB4; obtain ⟨fn, tmps, assign, body, hy, hR⟩ := HY4.out _ _ hB4; dsimp only [gEnc, gOf] at hy; have hRH := Aside0.mk hR; clear hR hB4 b4)
            | (refine ⟨fun _ => by omega, ?_⟩; refine hRH.out.mono ?_; rintro e w5 ⟨b, rfl, hp⟩; have HP := Aside0.mk hp; clear hp))
          all_goals
            cases b with
            | true =>
              obtain ⟨hp1, hp2⟩ := HP.out.yes rfl
              gi_wp2
              exact ⟨⟨k + 1, _, by go_num, by omega, ⟨HN.out.symm⟩, ⟨hp1⟩, ⟨next_old HB4.out hp2 ho.out (fun k hk => ha'.out k (.inl hk))⟩, ⟨lift_old HB4.out hp2 hbt'.out (ha'.out bt (.inr rfl))⟩, ⟨next_size HB4.out hp2 hsz.out⟩⟩, by simp [intOf]; omega⟩
            | false =>
              have hp1 := HP.out.no rfl
              gi_wp2
              refine bodyPost_ret (results_none rfl _ _ _) rfl ⟨⟨_, rfl⟩, .inr ⟨_, by rw [← HN.out]; exact List.take_prefix _ _, hp1⟩⟩
        · skip
          have z1 := g1 (by assumption)
          have z2 : wrap64 (tick - s.f1) ≤ (k5 : Int) := by omega
          gi_region_with (first
            | (refine ⟨trivial, fun _ => by omega, ?_⟩; gi_at_call 18; refine (final_take (n - 1) (by omega) _ tick s _ (by rw [HG.out, if_pos (by assumption), if_neg (by omega)]) _ _ (fun e => by first | exact XN.out e | exact XN.out trivial) (fun ad e j hj => XC'.out _ ad e j hj) g2).mono ?_; rintro e w4 ⟨p4, v4, q4, rfl, rfl, hB4⟩; have b4 := (hB4.block _ (by show _ < (wr.alloc _).heap.size; simp)).trans (B0.out _); have y0 := blk_cell b4 0; have y1 := blk_cell b4 1; have y2 := blk_cell b4 2; have HB4 := Aside0.mk hB4; obtain ⟨fn, tmps, assign, body, hy, hR⟩ := HY4.out _ _ hB4; dsimp only [gEnc, gOf] at hy; have hRH := Aside0.mk hR; clear hR hB4 b4)
            | (refine ⟨fun _ => by omega, ?_⟩; refine hRH.out.mono ?_; rintro e w5 ⟨b, rfl, hp⟩; have HP := Aside0.mk hp; clear hp))
          all_goals
            cases b with
            | true =>
              obtain ⟨hp1, hp2⟩ := HP.out.yes rfl
              gi_wp2
              exact ⟨⟨k + 1, _, by go_num, by omega, ⟨HN.out.symm⟩, ⟨hp1⟩, ⟨next_old HB4.out hp2 ho.out (fun k hk => ha'.out k (.inl hk))⟩, ⟨lift_old HB4.out hp2 hbt'.out (ha'.out bt (.inr rfl))⟩, ⟨next_size HB4.out hp2 hsz.out⟩⟩, by simp [intOf]; omega⟩
            | false =>
              have hp1 := HP.out.no rfl
              gi_wp2
              refine bodyPost_ret (results_none rfl _ _ _) rfl ⟨⟨_, rfl⟩, .inr ⟨_, by rw [← HN.out]; exact List.take_prefix _ _, hp1⟩⟩
        · skip
          gi_region_with (first
            | (refine ⟨trivial, fun _ => by omega, ?_⟩; gi_at_call 18; refine (final_take (n - 1) (by omega) _ tick s _ (by rw [HG.out, if_neg (by omega)]) _ _ (fun e => by first | exact XN.out e | exact XN.out trivial) (fun ad e j hj => XC'.out _ ad e j hj) g2).mono ?_; rintro e w4 ⟨p4, v4, q4, rfl, rfl, hB4⟩; have b4 := (hB4.block _ (by show _ < (wr.alloc _).heap.size; simp)).trans (B0.out _); have y0 := blk_cell b4 0; have y1 := blk_cell b4 1; have y2 := blk_cell b4 2; have HB4 := Aside0.mk hB4; obtain ⟨fn, tmps, assign, body, hy, hR⟩ := HY4.out _ _ hB4; dsimp only [gEnc, gOf] at hy; have hRH := Aside0.mk hR; clear hR hB4 b4)
            | (refine ⟨fun _ => by omega, ?_⟩; refine hRH.out.mono ?_; rintro e w5 ⟨b, rfl, hp⟩; have HP := Aside0.mk hp; clear hp))
          all_goals
            cases b with
            | true =>
              obtain ⟨hp1, hp2⟩ := HP.out.yes rfl
              gi_wp2
              exact ⟨⟨k + 1, _, by go_num, by omega, ⟨HN.out.symm⟩, ⟨hp1⟩, ⟨next_old HB4.out hp2 ho.out (fun k hk => ha'.out k (.inl hk))⟩, ⟨lift_old HB4.out hp2 hbt'.out (ha'.out bt (.inr rfl))⟩, ⟨next_size HB4.out hp2 hsz.out⟩⟩, by simp [intOf]; omega⟩
            | false =>
              have hp1 := HP.out.no rfl
              gi_wp2
              refine bodyPost_ret (results_none rfl _ _ _) rfl ⟨⟨_, rfl⟩, .inr ⟨_, by rw [← HN.out]; exact List.take_prefix _ _, hp1⟩⟩
      | some a5 =>
        gi_wp2
        · skip
          gi_region_with (first
            | (refine ⟨trivial, fun _ => by omega, ?_⟩; gi_at_call 18; refine (final_take (n - 1) (by omega) _ tick s _ (by rw [HG.out, if_pos (by assumption), if_pos (by assumption)]) _ _ (fun e => by first | exact XN.out e | exact XN.out trivial) (fun ad e j hj => XC'.out _ ad e j hj) g2).mono ?_; rintro e w4 ⟨p4, v4, q4, rfl, rfl, hB4⟩; have b4 := (hB4.block _ (by show _ < (wr.alloc _).heap.size; simp)).trans (B0.out _); have y0 := blk_cell b4 0; have y1 := blk_cell b4 1; have y2 := blk_cell b4 2; have HB4 := Aside0.mk hB4; obtain ⟨fn, tmps, assign, body, hy, hR⟩ := HY4.out _ _ hB4; dsimp only [gEnc, gOf] at hy; have hRH := Aside0.mk hR; clear hR hB4 b4)
            | (refine ⟨fun _ => by omega, ?_⟩; refine hRH.out.mono ?_; rintro e w5 ⟨b, rfl, hp⟩; have HP := Aside0.mk hp; clear hp))
          all_goals
            cases b with
            | true =>
              obtain ⟨hp1, hp2⟩ := HP.out.yes rfl
              gi_wp2
              exact ⟨⟨k + 1, _, by go_num, by omega, ⟨HN.out.symm⟩, ⟨hp1⟩, ⟨next_old HB4.out hp2 ho.out (fun k hk => ha'.out k (.inl hk))⟩, ⟨lift_old HB4.out hp2 hbt'.out (ha'.out bt (.inr rfl))⟩, ⟨next_size HB4.out hp2 hsz.out⟩⟩, by simp [intOf]; omega⟩
            | false =>
              have hp1 := HP.out.no rfl
              gi_wp2
              refine bodyPost_ret (results_none rfl _ _ _) rfl ⟨⟨_, rfl⟩, .inr ⟨_, by rw [← HN.out]; exact List.take_prefix _ _, hp1⟩⟩
        · skip
          have z1 := g1 (by assumption)
          have z2 : wrap64 (tick - s.f1) ≤ (k5 : Int) := by omega
          gi_region_with (first
            | (refine ⟨trivial, fun _ => by omega, ?_⟩; gi_at_call 18; refine (final_take (n - 1) (by omega) _ tick s _ (by rw [HG.out, if_pos (by assumption), if_neg (by omega)]) _ _ (fun e => by first | exact XN.out e | exact XN.out trivial) (fun ad e j hj => XC'.out _ ad e j hj) g2).mono ?_; rintro e w4 ⟨p4, v4, q4, rfl, rfl, hB4⟩; have b4 := (hB4.block _ (by show _ < (wr.alloc _).heap.size; simp)).trans (B0.out _); have y0 := blk_cell b4 0; have y1 := blk_cell b4 1; have y2 := blk_cell b4 2; have HB4 := Aside0.mk hB4; obtain ⟨fn, tmps, assign, body, hy, hR⟩ := HY4.out _ _ hB4; dsimp only [gEnc, gOf] at hy; have hRH := Aside0.mk hR; clear hR hB4 b4)
            | (refine ⟨fun _ => by omega, ?_⟩; refine hRH.out.mono ?_; rintro e w5 ⟨b, rfl, hp⟩; have HP := Aside0.mk hp; clear hp))
          all_goals
            cases b with
            | true =>
              obtain ⟨hp1, hp2⟩ := HP.out.yes rfl
              gi_wp2
              exact ⟨⟨k + 1, _, by go_num, by omega, ⟨HN.out.symm⟩, ⟨hp1⟩, ⟨next_old HB4.out hp2 ho.out (fun k hk => ha'.out k (.inl hk))⟩, ⟨lift_old HB4.out hp2 hbt'.out (ha'.out bt (.inr rfl))⟩, ⟨next_size HB4.out hp2 hsz.out⟩⟩, by simp [intOf]; omega⟩
            | false =>
              have hp1 := HP.out.no rfl
              gi_wp2
              refine bodyPost_ret (results_none rfl _ _ _) rfl ⟨⟨_, rfl⟩, .inr ⟨_, by rw [← HN.out]; exact List.take_prefix _ _, hp1⟩⟩
        · skip
          gi_region_with (first
            | (refine ⟨trivial, fun _ => by omega, ?_⟩; gi_at_call 18; refine (final_take (n - 1) (by omega) _ tick s _ (by rw [HG.out, if_neg (by omega)]) _ _ (fun e => by first | exact XN.out e | exact XN.out trivial) (fun ad e j hj => XC'.out _ ad e j hj) g2).mono ?_; rintro e w4 ⟨p4, v4, q4, rfl, rfl, hB4⟩; have b4 := (hB4.block _ (by show _ < (wr.alloc _).heap.size; simp)).trans (B0.out _); have y0 := blk_cell b4 0; have y1 := blk_cell b4 1; have y2 := blk_cell b4 2; have HB4 := Aside0.mk hB4; obtain ⟨fn, tmps, assign, body, hy, hR⟩ := HY4.out _ _ hB4; dsimp only [gEnc, gOf] at hy; have hRH := Aside0.mk hR; clear hR hB4 b4)
            | (refine ⟨fun _ => by omega, ?_⟩; refine hRH.out.mono ?_; rintro e w5 ⟨b, rfl, hp⟩; have HP := Aside0.mk hp; clear hp))
          all_goals
            cases b with
            | true =>
              obtain ⟨hp1, hp2⟩ := HP.out.yes rfl
              gi_wp2
              exact ⟨⟨k + 1, _, by go_num, by omega, ⟨HN.out.symm⟩, ⟨hp1⟩, ⟨next_old HB4.out hp2 ho.out (fun k hk => ha'.out k (.inl hk))⟩, ⟨lift_old HB4.out hp2 hbt'.out (ha'.out bt (.inr rfl))⟩, ⟨next_size HB4.out hp2 hsz.out⟩⟩, by simp [intOf]; omega⟩
            | false =>
              have hp1 := HP.out.no rfl
              gi_wp2
              refine bodyPost_ret (results_none rfl _ _ _) rfl ⟨⟨_, rfl⟩, .inr ⟨_, by rw [← HN.out]; exact List.take_prefix _ _, hp1⟩⟩
    · gi_wp2
      go_end0
      exact ⟨⟨_, rfl⟩, .inl ⟨pre, by rw [hpre.out, List.take_of_length_le (by simp; omega)], hj.out⟩⟩

set_option maxRecDepth 100000 in
set_option maxHeartbeats 4000000 in
theorem gone1_nil (n : Nat) (lb bl bt : Nat) (cap : Nat) (tick : Int) (J Jx : List ((Int × Int × Int) × Int) → World → Prop) (W : World)
    (hl : W.heap[bl]? = some (.cells #[.slice none 0 cap] 53 (0, 0))) (h0 : J [] W) :
    CallsIn Fence.wide n Try.prog 81 #[.func (.yield lb) #[] #[], .pointer (some ⟨bl, 0, none⟩), .pointer (some ⟨bt, 0, none⟩)] W fun e W' => (∃ v, e = .returned v) ∧
      ((∃ ys, ys = ([] : List Seg).map (gOf tick) ∧ J ys W') ∨ (∃ pre, pre <+: ([] : List Seg).map (gOf tick) ∧ Jx pre W')) := by
  have l0 : W.cell? ⟨bl, 0, none⟩ = some (.slice none 0 cap) := (blk_cell hl 0).trans rfl
  refine callsIn_of_wp Try.func81 rfl trivial ?_ rfl
  simp only [Try.ntmps81, List.size_toArray, List.length_cons, List.length_nil, Nat.reduceAdd, Nat.reduceSub, Array.replicate_succ, Array.replicate_zero, List.push_toArray, List.append_toArray, List.nil_append, List.cons_append]
  gi_wp2
  gi_loopw [9] (fun i wr => i = .int .i64 0 ∧ J [] wr)
    (fun _ _ => 0)
  case atStart => exact ⟨rfl, h0⟩
  case round =>
    obtain ⟨rfl, hj⟩ := hrel
    gi_wp2
    go_end0
    exact ⟨⟨_, rfl⟩, .inl ⟨[], rfl, hj⟩⟩

set_option maxHeartbeats 1000000 in
/-- The function that hands back the iterator. -/
theorem gone_in (n : Nat) (tick : Int) (A : Option Addr) (k c : Nat) (w : World) :
    CallsIn Fence.wide n Try.prog 63 #[.slice A k c, .int .i64 tick] w fun e w' => e = .returned (.func (.func 81) #[] #[.pointer (some ⟨w.heap.size, 0, none⟩), .pointer (some ⟨w.heap.size + 1, 0, none⟩)]) ∧
      w' = (w.alloc (.cells #[.slice A k c] 53 (0, 0))).alloc (.cells #[.int .i64 tick] 3 (0, 0)) := by
  refine callsIn_of_wp Try.func63 rfl trivial ?_ rfl
  simp only [Try.ntmps63, List.size_toArray, List.length_cons, List.length_nil, Nat.reduceAdd, Nat.reduceSub, Array.replicate_succ, Array.replicate_zero, List.push_toArray, List.append_toArray, List.nil_append, List.cons_append]
  gi_wp2
  go_ret
  exact ⟨rfl, rfl⟩
theorem nil_of_C {w : World} {l : List Seg} (h : Kd.C k67 w none l.length l) : l = [] := by
  cases l with
  | nil => rfl
  | cons x l =>
    obtain ⟨ad, _, _, e, _⟩ := at_T67 h 0 (by omega) (by simp)
    cases e
/-- What the iterator hands over. -/
theorem gone_seq (n : Nat) (hn : 4 ≤ n) (bl bt : Nat) (a0 : Nat → Prop) (tick : Int) (A : Option Addr) (l : List Seg) (cap : Nat) (w0 w1 : World) (hC : Kd.C k67 w0 A l.length l) (hgood : ∀ s ∈ l, goodB tick s = true)
    (hl : w1.heap[bl]? = some (.cells #[.slice A l.length cap] 53 (0, 0))) (ht : w1.heap[bt]? = some (.cells #[.int .i64 tick] 3 (0, 0))) (ha : ∀ k, k < w0.heap.size ∨ k = bt → a0 k) (hbt : w0.heap.size ≤ bt) (hold : Old w0 w1) (hsz : w0.heap.size ≤ w1.heap.size) (hmax : l.length ≤ 9223372036854775807) (Ok : (Int × Int × Int) × Int → Prop) (hOk : ∀ s ∈ l, Ok (gOf tick s)) :
    SeqQ Fence.wide n Try.prog 81 #[.pointer (some ⟨bl, 0, none⟩), .pointer (some ⟨bt, 0, none⟩)] gEnc a0 Ok (fun ys => ys = l.map (gOf tick)) (fun pre => pre <+: l.map (gOf tick)) l.length w1 := by
  intro lb J Jx W hB hJ _ hY h0
  have hl' := (hB.block bl (blk_lt hl)).trans hl
  have ht' := (hB.block bt (blk_lt ht)).trans ht
  cases A with
  | none =>
    obtain rfl := nil_of_C hC
    exact gone1_nil n lb bl bt cap tick J Jx W hl' h0
  | some ad =>
    exact gone1_some n hn lb bl bt ad l cap tick a0 w0 hC hgood J Jx W hJ Ok hOk hY ha hbt hl' ht' (fun k hk => (hB.block k (Nat.lt_of_lt_of_le hk hsz)).trans (hold k hk)) hmax h0
end Go.Proofs.Ytmmaodlngnjmlaa.Gone
