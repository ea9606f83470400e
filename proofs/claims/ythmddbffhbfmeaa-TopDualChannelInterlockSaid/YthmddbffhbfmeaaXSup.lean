/- The supervisor's tick, for every state, every list of violations, every request. -/
import Derived.Test.YthmddbffhbfmeaaXProfile
import Derived.Test.YthmddbffhbfmeaaXMap
import Derived.Test.YthmddbffhbfmeaaWWords
import Derived.Test.YthmddbffhbfmeaaWEqStruct
import Derived.Test.YthmddbffhbfmeaaWGuard
import Derived.Test.YthmddbffhbfmeaaWMore
import Derived.KernelRfl
import Derived.RegionTactic
import Derived.ChangeAlike
import Derived.WalkKit
import Derived.Deep.LoopGhost
import Derived.Deep.AppendLies
import Derived.Maps.AppendAt
import Derived.Deep.RegionLaw
import Derived.Deep.RegionWith
import Derived.StillTailTactics
import Derived.ArgAppend
import Derived.LoopN
import Derived.WalkLawsBesides
namespace Go.Proofs.Ythmddbffhbfmeaa.Sup
set_option linter.unusedVariables false
set_option linter.unusedSimpArgs false
open Go Go.RowKit Go.Proofs.YthmddbffhbfmeaaW.PrintWords Go.Proofs.YthmddbffhbfmeaaW.PrintMore Go.Proofs.Ythmddbffhbfmeaa.Ticks

/-! ### The category of a violation -/
def catOf (k : Int) : Int := if k = 1 ∨ k = 6 ∨ k = 8 then 0 else if k = 2 ∨ k = 3 ∨ k = 5 then 1 else if k = 4 ∨ k = 7 then 2 else 3
def ent (k v : Int) (b : Nat) : MapEntry := { key := .int .i64 k, val := .int .i64 v, born := b }
def tab : Array MapEntry := #[ent 1 0 0, ent 6 0 1, ent 8 0 2, ent 2 1 3, ent 3 1 4, ent 5 1 5, ent 4 2 6, ent 7 2 7]
theorem zero_int (w : World) : (zeroValue 3).run Try.prog w = .ok (.int .i64 0) w := by kernel_rfl
def tb1 : Array MapEntry := #[ent 1 0 0]
def tb2 : Array MapEntry := #[ent 1 0 0, ent 6 0 1]
def tb3 : Array MapEntry := #[ent 1 0 0, ent 6 0 1, ent 8 0 2]
def tb4 : Array MapEntry := #[ent 1 0 0, ent 6 0 1, ent 8 0 2, ent 2 1 3]
def tb5 : Array MapEntry := #[ent 1 0 0, ent 6 0 1, ent 8 0 2, ent 2 1 3, ent 3 1 4]
def tb6 : Array MapEntry := #[ent 1 0 0, ent 6 0 1, ent 8 0 2, ent 2 1 3, ent 3 1 4, ent 5 1 5]
def tb7 : Array MapEntry := #[ent 1 0 0, ent 6 0 1, ent 8 0 2, ent 2 1 3, ent 3 1 4, ent 5 1 5, ent 4 2 6]
theorem ins1 (W : World) (n : Nat) (hn : W.heap.size = n) : (Instr.mapUpdate 105 (.map (some n)) (.int .i64 1) (.int .i64 0)).run Try.prog (W.alloc (.map #[] 0)) = .ok () (W.alloc (.map tb1 1)) := MapOne.run_insert_new (P := Try.prog) (es := #[]) (clock := 0) (key := 1) Try.underlying105 Try.underlying3 rfl W n hn (.int .i64 0)
theorem ins2 (W : World) (n : Nat) (hn : W.heap.size = n) : (Instr.mapUpdate 105 (.map (some n)) (.int .i64 6) (.int .i64 0)).run Try.prog (W.alloc (.map tb1 1)) = .ok () (W.alloc (.map tb2 2)) := MapOne.run_insert_new (P := Try.prog) (es := tb1) (clock := 1) (key := 6) Try.underlying105 Try.underlying3 rfl W n hn (.int .i64 0)
theorem ins3 (W : World) (n : Nat) (hn : W.heap.size = n) : (Instr.mapUpdate 105 (.map (some n)) (.int .i64 8) (.int .i64 0)).run Try.prog (W.alloc (.map tb2 2)) = .ok () (W.alloc (.map tb3 3)) := MapOne.run_insert_new (P := Try.prog) (es := tb2) (clock := 2) (key := 8) Try.underlying105 Try.underlying3 rfl W n hn (.int .i64 0)
theorem ins4 (W : World) (n : Nat) (hn : W.heap.size = n) : (Instr.mapUpdate 105 (.map (some n)) (.int .i64 2) (.int .i64 1)).run Try.prog (W.alloc (.map tb3 3)) = .ok () (W.alloc (.map tb4 4)) := MapOne.run_insert_new (P := Try.prog) (es := tb3) (clock := 3) (key := 2) Try.underlying105 Try.underlying3 rfl W n hn (.int .i64 1)
theorem ins5 (W : World) (n : Nat) (hn : W.heap.size = n) : (Instr.mapUpdate 105 (.map (some n)) (.int .i64 3) (.int .i64 1)).run Try.prog (W.alloc (.map tb4 4)) = .ok () (W.alloc (.map tb5 5)) := MapOne.run_insert_new (P := Try.prog) (es := tb4) (clock := 4) (key := 3) Try.underlying105 Try.underlying3 rfl W n hn (.int .i64 1)
theorem ins6 (W : World) (n : Nat) (hn : W.heap.size = n) : (Instr.mapUpdate 105 (.map (some n)) (.int .i64 5) (.int .i64 1)).run Try.prog (W.alloc (.map tb5 5)) = .ok () (W.alloc (.map tb6 6)) := MapOne.run_insert_new (P := Try.prog) (es := tb5) (clock := 5) (key := 5) Try.underlying105 Try.underlying3 rfl W n hn (.int .i64 1)
theorem ins7 (W : World) (n : Nat) (hn : W.heap.size = n) : (Instr.mapUpdate 105 (.map (some n)) (.int .i64 4) (.int .i64 2)).run Try.prog (W.alloc (.map tb6 6)) = .ok () (W.alloc (.map tb7 7)) := MapOne.run_insert_new (P := Try.prog) (es := tb6) (clock := 6) (key := 4) Try.underlying105 Try.underlying3 rfl W n hn (.int .i64 2)
theorem ins8 (W : World) (n : Nat) (hn : W.heap.size = n) : (Instr.mapUpdate 105 (.map (some n)) (.int .i64 7) (.int .i64 2)).run Try.prog (W.alloc (.map tb7 7)) = .ok () (W.alloc (.map tab 8)) := MapOne.run_insert_new (P := Try.prog) (es := tb7) (clock := 7) (key := 7) Try.underlying105 Try.underlying3 rfl W n hn (.int .i64 2)
theorem look_tab (k : Int) {n : Nat} {W : World} {clock : Nat} (hb : W.heap[n]? = some (.map tab clock)) : (Instr.lookup 105 (.map (some n)) (.int .i64 k) true).run Try.prog W = .ok (.tuple #[.int .i64 (if catOf k = 3 then 0 else catOf k), .bool (decide (catOf k ≠ 3))]) W := by
  have key : ∀ j c, 0 ≤ c → c < 3 → Instr.findNow (.int .i64) (.int .i64 k) tab.toList 0 = some (some (j, .int .i64 c)) → catOf k = c → (Instr.lookup 105 (.map (some n)) (.int .i64 k) true).run Try.prog W = .ok (.tuple #[.int .i64 (if catOf k = 3 then 0 else catOf k), .bool (decide (catOf k ≠ 3))]) W := by
    intro j c h0 h1 hf hc
    have h := MapOne.run_lookup_known (P := Try.prog) (key := k) Try.underlying105 Try.underlying3 hb hf
    rw [h, hc, if_neg (by omega), decide_eq_true (by omega)]
  by_cases c1 : k = 1
  · subst c1; exact key 0 0 (by omega) (by omega) rfl rfl
  by_cases c2 : k = 6
  · subst c2; exact key 1 0 (by omega) (by omega) rfl rfl
  by_cases c3 : k = 8
  · subst c3; exact key 2 0 (by omega) (by omega) rfl rfl
  by_cases c4 : k = 2
  · subst c4; exact key 3 1 (by omega) (by omega) rfl rfl
  by_cases c5 : k = 3
  · subst c5; exact key 4 1 (by omega) (by omega) rfl rfl
  by_cases c6 : k = 5
  · subst c6; exact key 5 1 (by omega) (by omega) rfl rfl
  by_cases c7 : k = 4
  · subst c7; exact key 6 2 (by omega) (by omega) rfl rfl
  by_cases c8 : k = 7
  · subst c8; exact key 7 2 (by omega) (by omega) rfl rfl
  have hf : Instr.findNow (.int .i64) (.int .i64 k) tab.toList 0 = some none := by
    simp [tab, ent, Instr.findNow, Instr.sameNow, beq_eq_false_iff_ne.mpr c1, beq_eq_false_iff_ne.mpr c2, beq_eq_false_iff_ne.mpr c3, beq_eq_false_iff_ne.mpr c4, beq_eq_false_iff_ne.mpr c5, beq_eq_false_iff_ne.mpr c6, beq_eq_false_iff_ne.mpr c7, beq_eq_false_iff_ne.mpr c8]
  have h := MapOne.run_lookup_lacks (P := Try.prog) (key := k) Try.underlying105 Try.underlying3 hb (zero_int W) hf
  have hc : catOf k = 3 := by
    unfold catOf
    rw [if_neg (by omega), if_neg (by omega), if_neg (by omega)]
  rw [h, hc]
  rfl
theorem look_hit (k : Int) (h : catOf k ≠ 3) {n : Nat} {W : World} {clock : Nat} (hb : W.heap[n]? = some (.map tab clock)) : (Instr.lookup 105 (.map (some n)) (.int .i64 k) true).run Try.prog W = .ok (.tuple #[.int .i64 (catOf k), .bool true]) W := by
  have := look_tab k hb
  rwa [if_neg h, decide_eq_true h] at this
theorem look_miss (k : Int) (h : catOf k = 3) {n : Nat} {W : World} {clock : Nat} (hb : W.heap[n]? = some (.map tab clock)) : (Instr.lookup 105 (.map (some n)) (.int .i64 k) true).run Try.prog W = .ok (.tuple #[.int .i64 0, .bool false]) W := by
  have := look_tab k hb
  rwa [if_pos h, decide_eq_false (fun e => e h)] at this
theorem below_allocs2 (w : World) (o1 o2 : Obj) : Below w.heap.size w ((w.alloc o1).alloc o2) := ((Below.refl _ w).alloc (Nat.le_refl _) _).alloc (by simp) _
set_option maxRecDepth 100000 in
set_option maxHeartbeats 4000000 in
theorem category_run (k x y z : Int) (w : World) : Calls Try.prog 28 #[.agg #[.int .i64 k, .int .i64 x, .int .i64 y, .int .i64 z]] w fun e w' => e = .returned (.int .i64 (catOf k)) ∧ Below w.heap.size w w' := by
  have hmm := @run_makeMap Try.prog
  have hi1 := ins1
  have hi2 := ins2
  have hi3 := ins3
  have hi4 := ins4
  have hi5 := ins5
  have hi6 := ins6
  have hi7 := ins7
  have hi8 := ins8
  by_cases hc : catOf k = 3
  · have hlk := fun (W : World) (n : Nat) (hn : W.heap.size = n) => look_miss k hc (MapOne.heap_last W (.map tab 8) n hn)
    have HC := Aside0.mk hc
    clear hc
    go_enter Try.func28, Try.ntmps28
    go_wp2
    go_ret
    exact ⟨by rw [HC.out]; rfl, below_allocs2 _ _ _⟩
  · have hlk := fun (W : World) (n : Nat) (hn : W.heap.size = n) => look_hit k hc (MapOne.heap_last W (.map tab 8) n hn)
    clear hc
    go_enter Try.func28, Try.ntmps28
    go_wp2
    go_ret
    exact ⟨rfl, below_allocs2 _ _ _⟩

/-! ### The smaller of two, by a list -/
set_option maxRecDepth 100000 in
set_option maxHeartbeats 4000000 in
theorem min_run (g c : Nat) (x y : Int) (w : World) (h0 : w.cell? ⟨g, 0, none⟩ = some (.int .i64 x)) (h1 : w.cell? ⟨g, 1, none⟩ = some (.int .i64 y)) :
    Calls Try.prog 61 #[.slice (some ⟨g, 0, none⟩) 2 c] w fun e w' => e = .returned (.int .i64 (if y < x then y else x)) ∧ w' = w := by
  go_enter Try.func61, Try.ntmps61
  go_wp2
  refine wp_loop_rounds 3 ?_
  rw [rounds_succ]
  go_wp2
  all_goals
    rw [rounds_succ]
    go_wp2
    go_ret
    first | exact ⟨rfl, rfl⟩ | exact ⟨by rw [if_pos (by assumption)]; rfl, rfl⟩ | exact ⟨by rw [if_neg (by omega)]; rfl, rfl⟩
theorem info_int : (Try.prog.info? 3).map (fun i => (i.zero, i.size, i.bytes)) = some (some (.int .i64 0), 1, 8) := by kernel_rfl
theorem cells_two {W : World} {base : Nat} {v : Value} {x y : Int} (h : W.ownsRow base 3 1 v 2 [.int .i64 x, .int .i64 y]) : ∃ g cap, v = .slice (some ⟨g, 0, none⟩) 2 cap ∧ W.cell? ⟨g, 0, none⟩ = some (.int .i64 x) ∧ W.cell? ⟨g, 1, none⟩ = some (.int .i64 y) := by
  obtain ⟨_, ⟨_, h2⟩ | ⟨g, cap, cur, rfl, _, hb, _, _, hs, ht⟩⟩ := h
  · omega
  · have key : ∀ j u, [Value.int .i64 x, .int .i64 y][j]? = some u → W.cell? ⟨g, j, none⟩ = some u := by
      intro j u hu
      rw [← ht, List.getElem?_take] at hu
      split at hu
      · exact (blk_cell hb j).trans (by simpa using hu)
      · cases hu
    exact ⟨g, cap, rfl, key 0 _ rfl, key 1 _ rfl⟩
theorem one_new' (W : World) (x : Int) (t : Nat) : ∀ (j : Nat) (u : Value), [Value.int .i64 x][j]? = some u → (W.alloc (.cells #[.int .i64 x] t (0, 0))).cell? ((⟨W.heap.size, 0, none⟩ : Addr).add j) = some u := by
  intro j u hj
  have hb := heap_alloc_new W (.cells #[.int .i64 x] t (0, 0))
  match j, hj with
  | 0, hj => exact (blk_cell hb 0).trans (by simpa using hj)
  | k + 1, hj => simp at hj
theorem one_old (W : World) (o : Obj) (g : Nat) (x : Int) (h : W.cell? ⟨g, 0, none⟩ = some (.int .i64 x)) : ∀ b, some (⟨g, 0, none⟩ : Addr) = some b → ∀ (j : Nat) (u : Value), [Value.int .i64 x][j]? = some u → (W.alloc o).cell? (b.add j) = some u := by
  intro b hb j u hj
  cases hb
  match j, hj with
  | 0, hj => exact ((World.cell?_of_block (Below.heap_alloc W o g (World.block_lt_of_cell? W _ h))).trans h).trans (by simpa using hj)
  | k + 1, hj => simp at hj
theorem below_none {w W W' : World} (hB : Below w.heap.size w W) (hg : W.grownBy W' none) : Below w.heap.size w W' :=
  ⟨hg.os.trans hB.os, hg.tape.trans hB.tape, hg.output.trans hB.output, Nat.le_trans hB.size hg.size, fun k hk => (hg.block k (Nat.lt_of_lt_of_le hk hB.size) (fun e => by cases e)).trans (hB.block k hk)⟩
/-- The smaller of two. -/
def worstL (x y : Int) : Int := if x < y then x else y
set_option maxRecDepth 100000 in
set_option maxHeartbeats 4000000 in
theorem worst_run (g : Nat) (x y : Int) (w : World) (h0 : w.cell? ⟨g, 0, none⟩ = some (.int .i64 y)) :
    Calls Try.prog 42 #[.int .i64 x, .slice (some ⟨g, 0, none⟩) 1 1] w fun e w' => e = .returned (.int .i64 (worstL x y)) ∧ Below w.heap.size w w' := by
  obtain ⟨i0, hi, hz0, hz1, hz2⟩ := info_parts info_int
  have H0 := Aside0.mk h0
  clear h0
  go_enter Try.func42, Try.ntmps42
  go_wp2_with (first
    | (at_builtin; refine wpList_append_grows _ rfl _ _ 27 rfl 3 i0 (.int .i64 0) 1 8 Try.underlying27 hi hz0 hz1 hz2 rfl (by decide) (some ⟨g, 0, none⟩) 1 1 [.int .i64 y] rfl (fun e => by cases e) rfl (one_old w _ g y H0.out) ⟨w.heap.size, 0, none⟩ 1 1 [.int .i64 x] rfl rfl (one_new' w x _) (by simp [Value.oneCell']) (by decide) (by simp [maxLen]) (by decide) ?_; intro v' w4 hown hg; obtain ⟨g4, c4, rfl, k0, k1⟩ := cells_two hown; have HG := Aside0.mk hg; clear hown hg)
    | (go_at_call 61; refine (min_run g4 c4 y x w4 k0 k1).mono ?_; rintro e w5 ⟨rfl, rfl⟩))
  all_goals
    go_ret
    exact ⟨by unfold worstL; first | rfl | (rw [if_pos (by omega)]; rfl) | (rw [if_neg (by omega)]; rfl), below_none (((Below.refl _ w).alloc (Nat.le_refl _) _)) HG.out⟩

/-! ### The causes -/
/-- A list of violations that may be read: nil, or some cells. -/
def Good (W : World) (cv : Value) : Prop := cv = .slice none 0 0 ∨ ∃ (ad : Addr) (n c : Nat) (xs : List Value), cv = .slice (some ad) n c ∧ 1 ≤ n ∧ n ≤ 1000 ∧ n ≤ c ∧ xs.length = n * 4 ∧ (∀ j u, xs[j]? = some u → W.cell? (ad.add j) = some u) ∧ (∀ u ∈ xs, u.oneCell' = true) ∧ ∃ cur fz, W.heap[ad.block]? = some (.cells cur 67 fz)
theorem Good.below {w W : World} {cv : Value} (h : Good w cv) (hB : Below w.heap.size w W) : Good W cv := by
  rcases h with h | ⟨ad, n, c, xs, h1, h2, h3, h4, h5, h6, h7, cur, fz, h8⟩
  · exact .inl h
  · exact .inr ⟨ad, n, c, xs, h1, h2, h3, h4, h5, fun j u hj => (hB.cell (World.block_lt_of_cell? w _ (h6 j u hj))).trans (h6 j u hj), h7, cur, fz, (hB.block _ (Array.getElem?_eq_some_iff.1 h8).1).trans h8⟩
theorem Good.typed {W : World} {cv : Value} (h : Good W cv) {B t : Nat} {cs : Array Value} {fz : Nat × Nat} (hb : W.heap[B]? = some (.cells cs t fz)) (ht : t ≠ 67) : ∀ (ad : Addr) (n c : Nat), cv = .slice (some ad) n c → ad.block ≠ B := by
  intro ad n c e hB
  rcases h with h | ⟨ad', n', c', xs, h1, _, _, _, _, _, _, cur, fz', h8⟩
  · rw [h] at e; cases e
  · rw [h1] at e
    cases e
    rw [hB, hb] at h8
    cases h8
    exact ht rfl
theorem Good.of_row {W : World} {base n : Nat} {v : Value} {ys : List Value} (h : W.ownsRow base 67 4 v n ys) (hn : n ≤ 1000) (h0 : n = 0 → v = .slice none 0 0) (h1 : ∀ u ∈ ys, u.oneCell' = true) : Good W v := by
  by_cases hz : n = 0
  · exact .inl (h0 hz)
  obtain ⟨hl, ⟨h2, h3⟩ | ⟨g, cap, cur, rfl, _, hb, hc, _, hs, ht⟩⟩ := h
  · exact .inl h2
  · refine .inr ⟨⟨g, 0, none⟩, n, cap, ys, rfl, by omega, hn, hc, hl, fun j u hu => ?_, h1, cur, (0, 0), hb⟩
    rw [← ht, List.getElem?_take] at hu
    split at hu
    · have e : (⟨g, 0, none⟩ : Addr).add j = ⟨g, j, none⟩ := by rw [Addr.add_lit, Nat.zero_add]
      rw [e]
      exact (blk_cell hb j).trans (by simpa using hu)
    · cases hu
theorem info_viol : (Try.prog.info? 67).map (fun i => (i.zero, i.size, i.bytes)) = some (some (.agg #[.int .i64 0, .int .i64 0, .int .i64 0, .int .i64 0]), 4, 32) := by kernel_rfl
set_option maxRecDepth 100000 in
set_option maxHeartbeats 4000000 in
theorem clone_nil (w : World) : Calls Try.prog 75 #[.slice none 0 0] w fun e w' => e = .returned (.slice none 0 0) ∧ w' = w := by
  have hnil := fun (W : World) (a : Option Addr) (n c : Nat) => Lib.run_eql_slice_nil (P := Try.prog) W 39 67 a n c 0 0 Try.underlying39
  go_enter Try.func75, Try.ntmps75
  go_wp2
  go_ret
  exact ⟨rfl, rfl⟩
theorem cells_old {w : World} (o : Obj) {ad : Addr} {xs : List Value} (h : ∀ (j : Nat) (u : Value), xs[j]? = some u → w.cell? (ad.add j) = some u) (j : Nat) (u : Value) (hj : xs[j]? = some u) : (w.alloc o).cell? (ad.add j) = some u :=
  (World.cell?_of_block (Below.heap_alloc w o _ (World.block_lt_of_cell? w _ (h j u hj)))).trans (h j u hj)
set_option maxRecDepth 100000 in
set_option maxHeartbeats 4000000 in
theorem clone_some (ad : Addr) (n c : Nat) (xs : List Value) (w : World) (h1 : 1 ≤ n) (h2 : n ≤ 1000) (h3 : n ≤ c) (h4 : xs.length = n * 4) (h5 : ∀ (j : Nat) (u : Value), xs[j]? = some u → w.cell? (ad.add j) = some u) (h6 : ∀ u ∈ xs, u.oneCell' = true) :
    Calls Try.prog 75 #[.slice (some ad) n c] w fun e w' => ∃ v, e = .returned v ∧ w'.ownsRow w.heap.size 67 4 v n xs ∧ Below w.heap.size w w' := by
  obtain ⟨i0, hi, hz0, hz1, hz2⟩ := info_parts info_viol
  have H5 := Aside0.mk h5
  have H6 := Aside0.mk h6
  clear h5 h6
  have hnil := fun (W : World) (a : Option Addr) (n c : Nat) => Lib.run_eql_slice_nil (P := Try.prog) W 39 67 a n c 0 0 Try.underlying39
  go_enter Try.func75, Try.ntmps75
  go_wp2_with (at_builtin; refine wpList_append_grows _ rfl _ _ 39 rfl 67 i0 (.agg #[.int .i64 0, .int .i64 0, .int .i64 0, .int .i64 0]) 4 32 Try.underlying39 hi hz0 hz1 hz2 rfl (by decide) _ 0 0 [] rfl (fun _ => ⟨rfl, rfl⟩) rfl (fun _ _ j u hj => by simp at hj) ad n c xs rfl h4 (cells_old _ H5.out) H6.out (by omega) (by simp only [maxLen]; omega) (by omega) ?_; intro v' w4 hown hg; have HO := Aside0.mk hown; have HG := Aside0.mk hg; clear hown hg)
  go_ret
  have ho := own_weaken (base' := w.heap.size) HO.out (by simp)
  rw [Nat.zero_add, List.nil_append] at ho
  exact ⟨v', rfl, ho, below_none (((Below.refl _ w).alloc (Nat.le_refl _) _)) HG.out⟩

/-- The block of a tick's work. -/
def Wk (W : World) (B : Nat) (mode cat left : Int) (cv : Value) (t0 t1 : Int) (lv : Value) (ask : Int) (rest : Bool) (call : Int) : Prop :=
  W.heap[B]? = some (.cells #[.int .i64 mode, .int .i64 cat, .int .i64 left, cv, .int .i64 t0, .int .i64 t1, lv, .int .i64 ask, .bool rest, .int .i64 call] 97 (0, 0))
/-- The violations of a tick. -/
structure VL (W : World) (A : Option Addr) (l : List (Int × Int × Int × Int)) : Prop where
  none : A = none → l = []
  cell : ∀ ad, A = some ad → ∀ (j : Nat) (x : Int × Int × Int × Int), l[j]? = some x → W.cell? (ad.add (j * 4)) = some (.int .i64 x.1) ∧ W.cell? ⟨(ad.add (j * 4)).block, (ad.add (j * 4)).off + 1, Option.none⟩ = some (.int .i64 x.2.1) ∧ W.cell? ⟨(ad.add (j * 4)).block, (ad.add (j * 4)).off + 2, Option.none⟩ = some (.int .i64 x.2.2.1) ∧ W.cell? ⟨(ad.add (j * 4)).block, (ad.add (j * 4)).off + 3, Option.none⟩ = some (.int .i64 x.2.2.2)
/-- The blocks of an elder world lie as they lay. -/
def Old (w0 w : World) : Prop := ∀ k, k < w0.heap.size → w.heap[k]? = w0.heap[k]?
theorem Old.cell {w0 w : World} (h : Old w0 w) {p : Addr} {v : Value} (hc : w0.cell? p = some v) : w.cell? p = some v := (World.cell?_of_block (h _ (World.block_lt_of_cell? w0 _ hc))).trans hc
theorem Old.grown {w0 w w' : World} (h : Old w0 w) {B : Nat} (hg : w.grownBy w' (some B)) (hB : w0.heap.size ≤ B) (hs : w0.heap.size ≤ w.heap.size) : Old w0 w' := fun k hk =>
  (hg.block k (Nat.lt_of_lt_of_le hk hs) (fun e => by have e' : k = B := Option.some.inj e; omega)).trans (h k hk)
theorem grown_refl (W : World) (r : Option Nat) : W.grownBy W r := ⟨rfl, rfl, rfl, Nat.le_refl _, fun _ _ _ => rfl⟩
theorem grown_below {W W1 W2 : World} {r : Option Nat} (hg : W.grownBy W1 r) (hb : Below W1.heap.size W1 W2) : W.grownBy W2 r := ⟨hb.os.trans hg.os, hb.tape.trans hg.tape, hb.output.trans hg.output, Nat.le_trans hg.size hb.size, fun k hk hr => (hb.block k (Nat.lt_of_lt_of_le hk hg.size)).trans (hg.block k hk hr)⟩
theorem grown_none {W W1 W2 : World} {r : Option Nat} (hg : W.grownBy W1 r) (hb : W1.grownBy W2 none) : W.grownBy W2 r := ⟨hb.os.trans hg.os, hb.tape.trans hg.tape, hb.output.trans hg.output, Nat.le_trans hg.size hb.size, fun k hk hr => (hb.block k (Nat.lt_of_lt_of_le hk hg.size) (fun e => by cases e)).trans (hg.block k hk hr)⟩
theorem grown_row {W W1 W2 : World} {r row : Option Nat} (hg : W.grownBy W1 r) (hb : W1.grownBy W2 row) (hr : ∀ b, row = some b → W.heap.size ≤ b) : W.grownBy W2 r := ⟨hb.os.trans hg.os, hb.tape.trans hg.tape, hb.output.trans hg.output, Nat.le_trans hg.size hb.size, fun k hk hne => (hb.block k (Nat.lt_of_lt_of_le hk hg.size) (fun e => by have := hr k e.symm; omega)).trans (hg.block k hk hne)⟩
theorem grown_alloc_drew (W : World) (o : Obj) : W.grownBy (W.alloc o).drew none := ⟨rfl, rfl, rfl, by show _ ≤ (W.alloc o).heap.size; simp, fun k hk _ => Below.heap_alloc W o k hk⟩
theorem grown_drew (W : World) (r : Option Nat) : W.grownBy W.drew r := ⟨rfl, rfl, rfl, Nat.le_refl _, fun _ _ _ => rfl⟩

theorem Wk.c0 {W : World} {B : Nat} {mode cat left : Int} {cv : Value} {t0 t1 : Int} {lv : Value} {ask : Int} {rest : Bool} {call : Int} (h : Wk W B mode cat left cv t0 t1 lv ask rest call) : W.cell? ⟨B, 0, none⟩ = some (.int .i64 mode) := (blk_cell h 0).trans rfl
theorem Wk.c1 {W : World} {B : Nat} {mode cat left : Int} {cv : Value} {t0 t1 : Int} {lv : Value} {ask : Int} {rest : Bool} {call : Int} (h : Wk W B mode cat left cv t0 t1 lv ask rest call) : W.cell? ⟨B, 1, none⟩ = some (.int .i64 cat) := (blk_cell h 1).trans rfl
theorem Wk.c2 {W : World} {B : Nat} {mode cat left : Int} {cv : Value} {t0 t1 : Int} {lv : Value} {ask : Int} {rest : Bool} {call : Int} (h : Wk W B mode cat left cv t0 t1 lv ask rest call) : W.cell? ⟨B, 2, none⟩ = some (.int .i64 left) := (blk_cell h 2).trans rfl
theorem Wk.c3 {W : World} {B : Nat} {mode cat left : Int} {cv : Value} {t0 t1 : Int} {lv : Value} {ask : Int} {rest : Bool} {call : Int} (h : Wk W B mode cat left cv t0 t1 lv ask rest call) : W.cell? ⟨B, 3, none⟩ = some (cv) := (blk_cell h 3).trans rfl
theorem Wk.c4 {W : World} {B : Nat} {mode cat left : Int} {cv : Value} {t0 t1 : Int} {lv : Value} {ask : Int} {rest : Bool} {call : Int} (h : Wk W B mode cat left cv t0 t1 lv ask rest call) : W.cell? ⟨B, 4, none⟩ = some (.int .i64 t0) := (blk_cell h 4).trans rfl
theorem Wk.c5 {W : World} {B : Nat} {mode cat left : Int} {cv : Value} {t0 t1 : Int} {lv : Value} {ask : Int} {rest : Bool} {call : Int} (h : Wk W B mode cat left cv t0 t1 lv ask rest call) : W.cell? ⟨B, 5, none⟩ = some (.int .i64 t1) := (blk_cell h 5).trans rfl
theorem Wk.c6 {W : World} {B : Nat} {mode cat left : Int} {cv : Value} {t0 t1 : Int} {lv : Value} {ask : Int} {rest : Bool} {call : Int} (h : Wk W B mode cat left cv t0 t1 lv ask rest call) : W.cell? ⟨B, 6, none⟩ = some (lv) := (blk_cell h 6).trans rfl
theorem Wk.c7 {W : World} {B : Nat} {mode cat left : Int} {cv : Value} {t0 t1 : Int} {lv : Value} {ask : Int} {rest : Bool} {call : Int} (h : Wk W B mode cat left cv t0 t1 lv ask rest call) : W.cell? ⟨B, 7, none⟩ = some (.int .i64 ask) := (blk_cell h 7).trans rfl
theorem Wk.c8 {W : World} {B : Nat} {mode cat left : Int} {cv : Value} {t0 t1 : Int} {lv : Value} {ask : Int} {rest : Bool} {call : Int} (h : Wk W B mode cat left cv t0 t1 lv ask rest call) : W.cell? ⟨B, 8, none⟩ = some (.bool rest) := (blk_cell h 8).trans rfl
theorem Wk.c9 {W : World} {B : Nat} {mode cat left : Int} {cv : Value} {t0 t1 : Int} {lv : Value} {ask : Int} {rest : Bool} {call : Int} (h : Wk W B mode cat left cv t0 t1 lv ask rest call) : W.cell? ⟨B, 9, none⟩ = some (.int .i64 call) := (blk_cell h 9).trans rfl
theorem Wk.set0 {W : World} {B : Nat} {mode cat left : Int} {cv : Value} {t0 t1 : Int} {lv : Value} {ask : Int} {rest : Bool} {call : Int} (h : Wk W B mode cat left cv t0 t1 lv ask rest call) (x : Int) : Wk (W.setCell ⟨B, 0, none⟩ (.int .i64 x)) B x cat left cv t0 t1 lv ask rest call := by simpa [Wk] using blk_set h 0 (.int .i64 x)
theorem Wk.set1 {W : World} {B : Nat} {mode cat left : Int} {cv : Value} {t0 t1 : Int} {lv : Value} {ask : Int} {rest : Bool} {call : Int} (h : Wk W B mode cat left cv t0 t1 lv ask rest call) (x : Int) : Wk (W.setCell ⟨B, 1, none⟩ (.int .i64 x)) B mode x left cv t0 t1 lv ask rest call := by simpa [Wk] using blk_set h 1 (.int .i64 x)
theorem Wk.set2 {W : World} {B : Nat} {mode cat left : Int} {cv : Value} {t0 t1 : Int} {lv : Value} {ask : Int} {rest : Bool} {call : Int} (h : Wk W B mode cat left cv t0 t1 lv ask rest call) (x : Int) : Wk (W.setCell ⟨B, 2, none⟩ (.int .i64 x)) B mode cat x cv t0 t1 lv ask rest call := by simpa [Wk] using blk_set h 2 (.int .i64 x)
theorem Wk.set3 {W : World} {B : Nat} {mode cat left : Int} {cv : Value} {t0 t1 : Int} {lv : Value} {ask : Int} {rest : Bool} {call : Int} (h : Wk W B mode cat left cv t0 t1 lv ask rest call) (x : Value) : Wk (W.setCell ⟨B, 3, none⟩ (x)) B mode cat left x t0 t1 lv ask rest call := by simpa [Wk] using blk_set h 3 (x)
theorem Wk.set4 {W : World} {B : Nat} {mode cat left : Int} {cv : Value} {t0 t1 : Int} {lv : Value} {ask : Int} {rest : Bool} {call : Int} (h : Wk W B mode cat left cv t0 t1 lv ask rest call) (x : Int) : Wk (W.setCell ⟨B, 4, none⟩ (.int .i64 x)) B mode cat left cv x t1 lv ask rest call := by simpa [Wk] using blk_set h 4 (.int .i64 x)
theorem Wk.set5 {W : World} {B : Nat} {mode cat left : Int} {cv : Value} {t0 t1 : Int} {lv : Value} {ask : Int} {rest : Bool} {call : Int} (h : Wk W B mode cat left cv t0 t1 lv ask rest call) (x : Int) : Wk (W.setCell ⟨B, 5, none⟩ (.int .i64 x)) B mode cat left cv t0 x lv ask rest call := by simpa [Wk] using blk_set h 5 (.int .i64 x)
theorem Wk.set9 {W : World} {B : Nat} {mode cat left : Int} {cv : Value} {t0 t1 : Int} {lv : Value} {ask : Int} {rest : Bool} {call : Int} (h : Wk W B mode cat left cv t0 t1 lv ask rest call) (x : Int) : Wk (W.setCell ⟨B, 9, none⟩ (.int .i64 x)) B mode cat left cv t0 t1 lv ask rest x := by simpa [Wk] using blk_set h 9 (.int .i64 x)
theorem Wk.fz {W : World} {B : Nat} {mode cat left : Int} {cv : Value} {t0 t1 : Int} {lv : Value} {ask : Int} {rest : Bool} {call : Int} (h : Wk W B mode cat left cv t0 t1 lv ask rest call) (j : Nat) : W.frozen? ⟨B, j, none⟩ = false := blk_frozen h j
theorem Wk.lt {W : World} {B : Nat} {mode cat left : Int} {cv : Value} {t0 t1 : Int} {lv : Value} {ask : Int} {rest : Bool} {call : Int} (h : Wk W B mode cat left cv t0 t1 lv ask rest call) : B < W.heap.size := blk_lt h
theorem Wk.below {W : World} {B : Nat} {mode cat left : Int} {cv : Value} {t0 t1 : Int} {lv : Value} {ask : Int} {rest : Bool} {call : Int} {W' : World} (h : Wk W B mode cat left cv t0 t1 lv ask rest call) (hb : Below W.heap.size W W') : Wk W' B mode cat left cv t0 t1 lv ask rest call := (hb.block B h.lt).trans h

/-! ### The end of a stop -/
def endMode (cat : Int) : Int := if cat = 2 then 5 else 4
set_option maxRecDepth 100000 in
set_option maxHeartbeats 4000000 in
theorem end_run (B : Nat) (mode cat left : Int) (cv : Value) (t0 t1 : Int) (lv : Value) (ask : Int) (rest : Bool) (call : Int) (W : World) (h : Wk W B mode cat left cv t0 t1 lv ask rest call) :
    Calls Try.prog 71 #[.pointer (some ⟨B, 0, none⟩)] W fun e W' => e = .returned (.tuple #[]) ∧ Wk W' B (endMode cat) cat 0 cv t0 t1 lv ask rest call ∧ W.grownBy W' (some B) := by
  have c0 := h.c0
  have c1 := h.c1
  have c2 := h.c2
  have f0 := h.fz 0
  have f2 := h.fz 2
  have H := Aside0.mk h
  clear h
  by_cases hc : cat = 2
  · subst hc
    go_enter Try.func71, Try.ntmps71
    go_wp2
    go_end0
    exact ⟨rfl, ((H.out.set2 0).set0 4).set0 5, ((grown_set _ B 2 _).trans (grown_set _ B 0 _)).trans (grown_set _ B 0 _)⟩
  · have HC := Aside0.mk hc
    have hd : (cat == 2) = false := beq_eq_false_iff_ne.mpr hc
    clear hc
    go_enter Try.func71, Try.ntmps71
    go_wp2
    go_end0
    have he : endMode cat = 4 := if_neg HC.out
    rw [he]
    exact ⟨rfl, (H.out.set2 0).set0 4, (grown_set _ B 2 _).trans (grown_set _ B 0 _)⟩
/-! ### The causes of a stop -/
/-- A row of violations of the call's own. -/
structure Own (W : World) (base : Nat) (A : Option Addr) (n c : Nat) (ys : List Value) : Prop where
  row : W.ownsRow base 67 4 (.slice A n c) n ys
  nil : n = 0 → A = none ∧ c = 0
  le : n ≤ 1000
  one : ∀ u ∈ ys, u.oneCell' = true
/-- The cells of a list lie in another block than B. -/
def Apart (B : Nat) (cv : Value) : Prop := ∀ (ad : Addr) (n c : Nat), cv = .slice (some ad) n c → ad.block ≠ B
theorem Own.apart {W : World} {base n c : Nat} {A : Option Addr} {ys : List Value} (h : Own W base A n c ys) {B : Nat} (hB : B < base) : Apart B (.slice A n c) := by
  intro ad n' c' e
  obtain ⟨_, ⟨e1, _⟩ | ⟨g, cap, cur, e1, hg, _⟩⟩ := h.row
  · rw [e1] at e; cases e
  · rw [e1] at e
    cases e
    show g ≠ B
    omega
theorem Own.good {W : World} {base n c : Nat} {A : Option Addr} {ys : List Value} (h : Own W base A n c ys) : Good W (.slice A n c) := Good.of_row h.row h.le (fun e => by obtain ⟨rfl, rfl⟩ := h.nil e; rw [e]) h.one
theorem own_typed' {W : World} {base n c : Nat} {A : Option Addr} {ys : List Value} (h : W.ownsRow base 67 4 (.slice A n c) n ys) {B t : Nat} {cs : Array Value} (hb : W.heap[B]? = some (.cells cs t (0, 0))) (ht : t ≠ 67) : some B ≠ (Value.slice A n c).ownBlock := by
  obtain ⟨_, ⟨e, _⟩ | ⟨g, cap, cur, e, _, hg, _⟩⟩ := h
  · rw [e]; simp [Value.ownBlock]
  · rw [e]
    intro e1
    have e2 : B = g := by simpa [Value.ownBlock] using e1
    subst e2
    rw [hg] at hb
    cases hb
    exact ht rfl
theorem Own.set {W : World} {base n c : Nat} {A : Option Addr} {ys : List Value} (h : Own W base A n c ys) {B : Nat} (hB : B < base) (j : Nat) (v : Value) : Own (W.setCell ⟨B, j, none⟩ v) base A n c ys :=
  ⟨own_move h.row (fun k hk => Below.heap_setCell W _ v k (fun e => by have e' : k = B := e; have := own_base h.row k hk; omega)), h.nil, h.le, h.one⟩
theorem Own.below {W W' : World} {base n c : Nat} {A : Option Addr} {ys : List Value} (h : Own W base A n c ys) (hB : Below W.heap.size W W') : Own W' base A n c ys :=
  ⟨own_move h.row (fun k hk => hB.block k (own_lt h.row k hk)), h.nil, h.le, h.one⟩
theorem Own.drewAlloc {W : World} {base n c : Nat} {A : Option Addr} {ys : List Value} (h : Own W base A n c ys) (o : Obj) : Own (W.alloc o).drew base A n c ys :=
  ⟨own_move (w1 := (W.alloc o).drew) h.row (fun k hk => Below.heap_alloc W o k (own_lt h.row k hk)), h.nil, h.le, h.one⟩
theorem four_new (W : World) (a b c d : Int) (t : Nat) : ∀ (j : Nat) (u : Value), [Value.int .i64 a, .int .i64 b, .int .i64 c, .int .i64 d][j]? = some u → (W.alloc (.cells #[.int .i64 a, .int .i64 b, .int .i64 c, .int .i64 d] t (0, 0))).drew.cell? ((⟨W.heap.size, 0, none⟩ : Addr).add j) = some u := by
  intro j u hj
  have hb := heap_alloc_new W (.cells #[.int .i64 a, .int .i64 b, .int .i64 c, .int .i64 d] t (0, 0))
  match j, hj with
  | 0, hj => exact (blk_cell hb 0).trans (by simpa using hj)
  | 1, hj => exact (blk_cell hb 1).trans (by simpa using hj)
  | 2, hj => exact (blk_cell hb 2).trans (by simpa using hj)
  | 3, hj => exact (blk_cell hb 3).trans (by simpa using hj)
  | k + 4, hj => simp at hj
theorem Wk.appended {W W' : World} {B : Nat} {mode cat left : Int} {cv : Value} {t0 t1 : Int} {lv : Value} {ask : Int} {rest : Bool} {call : Int} (h : Wk W B mode cat left cv t0 t1 lv ask rest call) {base n c : Nat} {A : Option Addr} {ys : List Value} (ho : Own W base A n c ys) {o : Obj} (hg : (W.alloc o).drew.grownBy W' (Value.slice A n c).ownBlock) : Wk W' B mode cat left cv t0 t1 lv ask rest call := by
  have h1 : (W.alloc o).drew.heap[B]? = _ := (Below.heap_alloc W o B h.lt).trans h
  exact (hg.block B (blk_lt h1) (own_typed' ho.row h (by decide))).trans h1
theorem clone_run {W : World} {cv : Value} (h : Good W cv) : Calls Try.prog 75 #[cv] W fun e W' => ∃ A n c ys, e = .returned (.slice A n c) ∧ Own W' W.heap.size A n c ys ∧ Below W.heap.size W W' := by
  rcases h with rfl | ⟨ad, n, c, xs, rfl, h1, h2, h3, h4, h5, h6, _⟩
  · refine (clone_nil W).mono ?_
    rintro e w' ⟨rfl, rfl⟩
    exact ⟨none, 0, 0, [], rfl, ⟨⟨by simp, .inl ⟨rfl, rfl⟩⟩, fun _ => ⟨rfl, rfl⟩, by omega, fun u hu => (by simp at hu)⟩, Below.refl _ _⟩
  · refine (clone_some ad n c xs W h1 h2 h3 h4 h5 h6).mono ?_
    rintro e w' ⟨v, rfl, ho, hB⟩
    obtain ⟨A, c', rfl⟩ : ∃ A c', v = .slice A n c' := by
      obtain ⟨_, ⟨rfl, e⟩ | ⟨g, cap, cur, rfl, _⟩⟩ := ho
      · exact ⟨none, 0, by rw [e]⟩
      · exact ⟨_, _, rfl⟩
    exact ⟨A, n, c', xs, rfl, ⟨ho, fun e => by omega, h2, h6⟩, hB⟩
set_option maxRecDepth 100000 in
set_option maxHeartbeats 4000000 in
theorem blame_run (B : Nat) (mode cat left : Int) (cv : Value) (t0 t1 : Int) (lv : Value) (ask : Int) (rest : Bool) (call : Int) (W : World) (h : Wk W B mode cat left cv t0 t1 lv ask rest call) (low : Int) (hgood : Good W cv) (w0 : World) (A : Option Addr) (c_ : Nat) (l : List (Int × Int × Int × Int)) (hlv : lv = .slice A l.length c_) (hV : VL w0 A l) (hold : Old w0 W) (hB0 : w0.heap.size ≤ B) (hmax : l.length ≤ 1000000) :
    Calls Try.prog 74 #[.pointer (some ⟨B, 0, none⟩), .int .i64 low] W fun e W' => e = .returned (.tuple #[]) ∧ (∃ cv', Wk W' B mode cat left cv' t0 t1 lv ask rest call ∧ Good W' cv' ∧ Apart B cv') ∧ W.grownBy W' (some B) := by
  obtain ⟨i0, hi, hz0, hz1, hz2⟩ := info_parts info_viol
  subst hlv
  have c3 := h.c3
  have f3 := h.fz 3
  have H := Aside0.mk h
  clear h
  have HG := Aside0.mk hgood
  clear hgood
  have HV := Aside0.mk hV
  clear hV
  have HO := Aside0.mk hold
  clear hold
  go_enter Try.func74, Try.ntmps74
  go_wp2_with (go_at_call 75; refine (clone_run HG.out).mono ?_; rintro e w1 ⟨A1, n1, c1, ys, rfl, ho, hB⟩; have K1 := H.out.below hB; have f31 := K1.fz 3; have c31 := K1.c3; have c61 := K1.c6; have HK1 := Aside0.mk K1; have HO1 := Aside0.mk ho; have HB1 := Aside0.mk hB; clear K1 ho hB)
  clear f3 c3
  have HS := Aside0.mk (HB1.out.size)
  have HL := Aside0.mk (H.out.lt)
  go_loopw [21] (fun i wr => ∃ (k n c : Nat) (A' : Option Addr) (ys : List Value), i = .int .i64 k ∧ k ≤ l.length ∧ Aside0 (Wk wr B mode cat left (.slice A' n c) t0 t1 (.slice A l.length c_) ask rest call) ∧ Aside0 (Own wr W.heap.size A' n c ys) ∧ Aside0 (W.grownBy wr (some B)))
    (fun i _ => l.length - (intOf i).toNat)
  case atStart =>
    have hw : Wk (w1.setCell ⟨B, 3, none⟩ (.slice A1 n1 c1)) B mode cat left (.slice A1 n1 c1) t0 t1 (.slice A l.length c_) ask rest call := HK1.out.set3 _
    exact ⟨0, n1, c1, A1, ys, rfl, Nat.zero_le _, ⟨hw⟩, ⟨HO1.out.set HL.out _ _⟩, ⟨(grown_below (grown_refl _ _) HB1.out).trans (grown_set w1 B 3 _)⟩⟩
  case round =>
    obtain ⟨k, n, c, A', ys', rfl, hk, hK, hO, hGr⟩ := hrel
    by_cases hlt : k < l.length
    · obtain ⟨ad, hA⟩ : ∃ ad, A = some ad := by
        cases A with
        | none => rw [HV.out.none rfl] at hlt; simp at hlt
        | some ad => exact ⟨ad, rfl⟩
      subst hA
      obtain ⟨x, hx⟩ : ∃ x, l[k] = x := ⟨_, rfl⟩
      obtain ⟨xk, xa, xb, xc⟩ := x
      have hold' : Old w0 wr := fun b hb => (hGr.out.block b (Nat.lt_of_lt_of_le hb (by have := HO.out; have := HL.out; omega)) (fun e => by have e' : b = B := Option.some.inj e; omega)).trans (HO.out b hb)
      obtain ⟨y0, y1, y2, y3⟩ := HV.out.cell ad rfl k _ (by rw [List.getElem?_eq_getElem hlt, hx])
      have z0 := hold'.cell y0
      have z1 := hold'.cell y1
      have z2 := hold'.cell y2
      have z3 := hold'.cell y3
      clear y0 y1 y2 y3 hold'
      dsimp only at z0 z1 z2 z3
      have cap1 : (0 : Int) ≤ (k : Int) := by omega
      by_cases hc : catOf xk < low
      · by_cases hn : n < 16
        · have hcd : decide (catOf xk < low) = true := decide_eq_true hc
          have hnd : decide ((n : Int) < 16) = true := decide_eq_true (by omega)
          have hnd2 : decide (n < 16) = true := decide_eq_true hn
          clear hc
          go_wp2_with (go_at_call 28; refine (category_run xk xa xb xc _).mono ?_; rintro e w2 ⟨rfl, hb2⟩; have K2 := (hK.out.below ((Below.refl _ wr).alloc (Nat.le_refl _) _)).below hb2; have O2 := (hO.out.below ((Below.refl _ wr).alloc (Nat.le_refl _) _)).below hb2; have G2 := grown_below (grown_below hGr.out ((Below.refl _ wr).alloc (Nat.le_refl _) _)) hb2; have c32 := K2.c3; have f32 := K2.fz 3; have b5 := (hb2.block _ (by simp)).trans (heap_alloc_new wr (.cells #[.int .i64 xk, .int .i64 xa, .int .i64 xb, .int .i64 xc] 67 (0, 0))); have KK := Aside0.mk K2; have OO := Aside0.mk O2; have GG := Aside0.mk G2; have BB := Aside0.mk b5; clear K2 O2 G2 b5 hb2)
          have e0 : w2.cell? ⟨wr.heap.size, 0, none⟩ = some (.int .i64 xk) := (blk_cell BB.out 0).trans rfl
          have e1 : w2.cell? ⟨wr.heap.size, 1, none⟩ = some (.int .i64 xa) := (blk_cell BB.out 1).trans rfl
          have e2 : w2.cell? ⟨wr.heap.size, 2, none⟩ = some (.int .i64 xb) := (blk_cell BB.out 2).trans rfl
          have e3 : w2.cell? ⟨wr.heap.size, 3, none⟩ = some (.int .i64 xc) := (blk_cell BB.out 3).trans rfl
          have c3x : ∀ o, (w2.alloc o).cell? ⟨B, 3, none⟩ = some (.slice A' n c) := fun o => (World.cell?_of_block (Below.heap_alloc w2 o _ (World.block_lt_of_cell? w2 _ c32))).trans c32
          go_region_law ((refine step_append_lies _ (by rfl) _ _ 39 (by rfl) W.heap.size 67 i0 (.agg #[.int .i64 0, .int .i64 0, .int .i64 0, .int .i64 0]) 4 32 Try.underlying39 hi hz0 hz1 hz2 rfl (by decide) (.slice A' n c) n ys' (by rfl) (OO.out.drewAlloc _).row ⟨w2.heap.size, 0, none⟩ 1 1 [.int .i64 xk, .int .i64 xa, .int .i64 xb, .int .i64 xc] (by rfl) rfl (four_new w2 xk xa xb xc _) (by simp [Value.oneCell']) (by decide) (by simp only [maxLen]; omega) (by omega) (by have := GG.out.size; simp; omega) (w2.heap.size + 1) (by simp) ?_; intro g cap w3 hown hgrow hat hlt3; have K3 := KK.out.appended OO.out hgrow; have c33 := K3.c3; have f33 := K3.fz 3; have KK3 := Aside0.mk K3; have HOW := Aside0.mk hown; have HGW := Aside0.mk hgrow; clear K3 hown hgrow hat hlt3))
          all_goals
            go_wp2
            go_roundw
            case rel =>
              have how : Own w3 W.heap.size (some ⟨g, 0, none⟩) (n + 1) cap (ys' ++ [.int .i64 xk, .int .i64 xa, .int .i64 xb, .int .i64 xc]) := ⟨HOW.out, fun e => absurd e (by omega), by omega, fun u hu => by
                rcases List.mem_append.1 hu with hu | hu
                · exact OO.out.one u hu
                · simp only [List.mem_cons, List.not_mem_nil, or_false] at hu
                  rcases hu with rfl | rfl | rfl | rfl <;> rfl⟩
              exact ⟨k + 1, n + 1, cap, some ⟨g, 0, none⟩, _, by go_num, by omega, ⟨KK3.out.set3 _⟩, ⟨how.set HL.out 3 _⟩, ⟨(grown_row (grown_none GG.out (grown_alloc_drew w2 _)) HGW.out (fun b hb => own_base OO.out.row b hb)).trans (grown_set w3 B 3 _)⟩⟩
            case measure => simp [intOf]; omega
        · have hcd : decide (catOf xk < low) = true := decide_eq_true hc
          have hnd : decide ((n : Int) < 16) = false := decide_eq_false (by omega)
          have hnd2 : decide (n < 16) = false := decide_eq_false hn
          clear hc
          go_wp2_with (go_at_call 28; refine (category_run xk xa xb xc _).mono ?_; rintro e w2 ⟨rfl, hb2⟩; have K2 := (hK.out.below ((Below.refl _ wr).alloc (Nat.le_refl _) _)).below hb2; have O2 := (hO.out.below ((Below.refl _ wr).alloc (Nat.le_refl _) _)).below hb2; have G2 := grown_below (grown_below hGr.out ((Below.refl _ wr).alloc (Nat.le_refl _) _)) hb2; have c32 := K2.c3; have f32 := K2.fz 3; have b5 := (hb2.block _ (by simp)).trans (heap_alloc_new wr (.cells #[.int .i64 xk, .int .i64 xa, .int .i64 xb, .int .i64 xc] 67 (0, 0))); have KK := Aside0.mk K2; have OO := Aside0.mk O2; have GG := Aside0.mk G2; have BB := Aside0.mk b5; clear K2 O2 G2 b5 hb2)
          go_roundw
          case rel => exact ⟨k + 1, n, c, A', ys', by go_num, by omega, KK, OO, GG⟩
          case measure => simp [intOf]; omega
      · have hcd : decide (catOf xk < low) = false := decide_eq_false hc
        clear hc
        go_wp2_with (go_at_call 28; refine (category_run xk xa xb xc _).mono ?_; rintro e w2 ⟨rfl, hb2⟩; have K2 := (hK.out.below ((Below.refl _ wr).alloc (Nat.le_refl _) _)).below hb2; have O2 := (hO.out.below ((Below.refl _ wr).alloc (Nat.le_refl _) _)).below hb2; have G2 := grown_below (grown_below hGr.out ((Below.refl _ wr).alloc (Nat.le_refl _) _)) hb2; have c32 := K2.c3; have f32 := K2.fz 3; have b5 := (hb2.block _ (by simp)).trans (heap_alloc_new wr (.cells #[.int .i64 xk, .int .i64 xa, .int .i64 xb, .int .i64 xc] 67 (0, 0))); have KK := Aside0.mk K2; have OO := Aside0.mk O2; have GG := Aside0.mk G2; have BB := Aside0.mk b5; clear K2 O2 G2 b5 hb2)
        go_roundw
        case rel => exact ⟨k + 1, n, c, A', ys', by go_num, by omega, KK, OO, GG⟩
        case measure => simp [intOf]; omega
    · go_wp2
      go_end0
      exact ⟨rfl, ⟨_, hK.out, hO.out.good, hO.out.apart HL.out⟩, hGr.out⟩

/-- What the tick's violations are, and that the elder world lies as it lay. -/
structure Env (w0 W : World) (B : Nat) (lv : Value) (A : Option Addr) (c_ : Nat) (l : List (Int × Int × Int × Int)) : Prop where
  lv : lv = .slice A l.length c_
  vl : VL w0 A l
  old : Old w0 W
  base : w0.heap.size ≤ B
  size : w0.heap.size ≤ W.heap.size
  few : l.length ≤ 1000000
theorem Env.grown {w0 W W' : World} {B : Nat} {lv : Value} {A : Option Addr} {c_ : Nat} {l : List (Int × Int × Int × Int)} (h : Env w0 W B lv A c_ l) (hg : W.grownBy W' (some B)) : Env w0 W' B lv A c_ l :=
  ⟨h.lv, h.vl, h.old.grown hg h.base h.size, h.base, Nat.le_trans h.size hg.size, h.few⟩
/-- What a method leaves. -/
def Post (W : World) (B : Nat) (mode cat left t0 t1 : Int) (lv : Value) (ask : Int) (rest : Bool) (call : Int) (e : Ending) (W' : World) : Prop :=
  e = .returned (.tuple #[]) ∧ (∃ cv', Wk W' B mode cat left cv' t0 t1 lv ask rest call ∧ Good W' cv' ∧ Apart B cv') ∧ W.grownBy W' (some B)
theorem Good.set {W : World} {cv : Value} (h : Good W cv) {B : Nat} (hn : Apart B cv) (j : Nat) (v : Value) : Good (W.setCell ⟨B, j, none⟩ v) cv := by
  rcases h with h | ⟨ad, n, c, xs, h1, h2, h3, h4, h5, h6, h7, cur, fz, h8⟩
  · exact .inl h
  · refine .inr ⟨ad, n, c, xs, h1, h2, h3, h4, h5, fun i u hi => ?_, h7, cur, fz, (Below.heap_setCell W _ v _ (hn ad n c h1)).trans h8⟩
    have hb : (ad.add i).block = ad.block := by unfold Addr.add; split <;> rfl
    exact (cell_far (p := ⟨B, j, none⟩) (by rw [hb]; exact hn ad n c h1) v).trans (h6 i u hi)
theorem Good.nil (W : World) : Good W (.slice none 0 0) := .inl rfl
theorem Apart.nil (B : Nat) : Apart B (.slice none 0 0) := fun ad n c e => by cases e

/-! ### A stop begins -/
set_option maxRecDepth 100000 in
set_option maxHeartbeats 4000000 in
theorem stop_run (B : Nat) (mode cat left : Int) (cv : Value) (t0 t1 : Int) (lv : Value) (ask : Int) (rest : Bool) (call : Int) (W : World) (h : Wk W B mode cat left cv t0 t1 lv ask rest call) (hgood : Good W cv) (hap : Apart B cv) (w0 : World) (A : Option Addr) (c_ : Nat) (l : List (Int × Int × Int × Int)) (he : Env w0 W B lv A c_ l) :
    Calls Try.prog 70 #[.pointer (some ⟨B, 0, none⟩)] W (Post W B 3 call 60 t0 t1 lv ask rest call) := by
  have c0 := h.c0
  have c1 := h.c1
  have c2 := h.c2
  have c3 := h.c3
  have c4 := h.c4
  have c5 := h.c5
  have c6 := h.c6
  have c7 := h.c7
  have c8 := h.c8
  have c9 := h.c9
  have cf0 := h.fz 0
  have cf1 := h.fz 1
  have cf2 := h.fz 2
  have cf3 := h.fz 3
  have cf4 := h.fz 4
  have cf5 := h.fz 5
  have H := Aside0.mk h
  have HG := Aside0.mk hgood
  have HA := Aside0.mk hap
  have HE := Aside0.mk he
  clear h hgood hap he
  go_enter Try.func70, Try.ntmps70
  go_wp2_with (go_at_call 74; refine (blame_run B mode cat left cv t0 t1 lv ask rest call W H.out 3 HG.out w0 A c_ l HE.out.lv HE.out.vl HE.out.old HE.out.base HE.out.few).mono ?_; rintro e w1 ⟨rfl, ⟨cv1, K1, g1, a1⟩, r1⟩; have d0 := K1.c0; have d1 := K1.c1; have d2 := K1.c2; have d3 := K1.c3; have d4 := K1.c4; have d5 := K1.c5; have d6 := K1.c6; have d7 := K1.c7; have d8 := K1.c8; have d9 := K1.c9; have df0 := K1.fz 0; have df1 := K1.fz 1; have df2 := K1.fz 2; have df3 := K1.fz 3; have df4 := K1.fz 4; have df5 := K1.fz 5; have HK1 := Aside0.mk K1; have HG1 := Aside0.mk g1; have HA1 := Aside0.mk a1; have HR1 := Aside0.mk r1; clear K1 g1 a1 r1)
  go_end0
  exact ⟨rfl, ⟨cv1, ((HK1.out.set0 3).set1 call).set2 60, ((HG1.out.set HA1.out 0 _).set HA1.out 1 _).set HA1.out 2 _, HA1.out⟩, HR1.out.trans (((grown_set _ B 0 _).trans (grown_set _ B 1 _)).trans (grown_set _ B 2 _))⟩
set_option maxRecDepth 100000 in
set_option maxHeartbeats 4000000 in
theorem worsen_run (B : Nat) (mode cat left : Int) (cv : Value) (t0 t1 : Int) (lv : Value) (ask : Int) (rest : Bool) (call : Int) (W : World) (h : Wk W B mode cat left cv t0 t1 lv ask rest call) (hgood : Good W cv) (hap : Apart B cv) (w0 : World) (A : Option Addr) (c_ : Nat) (l : List (Int × Int × Int × Int)) (he : Env w0 W B lv A c_ l) :
    Calls Try.prog 72 #[.pointer (some ⟨B, 0, none⟩)] W (Post W B mode call left t0 t1 lv ask rest call) := by
  have c0 := h.c0
  have c1 := h.c1
  have c2 := h.c2
  have c3 := h.c3
  have c4 := h.c4
  have c5 := h.c5
  have c6 := h.c6
  have c7 := h.c7
  have c8 := h.c8
  have c9 := h.c9
  have cf0 := h.fz 0
  have cf1 := h.fz 1
  have cf2 := h.fz 2
  have cf3 := h.fz 3
  have cf4 := h.fz 4
  have cf5 := h.fz 5
  have H := Aside0.mk h
  have HG := Aside0.mk hgood
  have HA := Aside0.mk hap
  have HE := Aside0.mk he
  clear h hgood hap he
  go_enter Try.func72, Try.ntmps72
  go_wp2_with (go_at_call 74; refine (blame_run B mode cat left cv t0 t1 lv ask rest call W H.out cat HG.out w0 A c_ l HE.out.lv HE.out.vl HE.out.old HE.out.base HE.out.few).mono ?_; rintro e w1 ⟨rfl, ⟨cv1, K1, g1, a1⟩, r1⟩; have d0 := K1.c0; have d1 := K1.c1; have d2 := K1.c2; have d3 := K1.c3; have d4 := K1.c4; have d5 := K1.c5; have d6 := K1.c6; have d7 := K1.c7; have d8 := K1.c8; have d9 := K1.c9; have df0 := K1.fz 0; have df1 := K1.fz 1; have df2 := K1.fz 2; have df3 := K1.fz 3; have df4 := K1.fz 4; have df5 := K1.fz 5; have HK1 := Aside0.mk K1; have HG1 := Aside0.mk g1; have HA1 := Aside0.mk a1; have HR1 := Aside0.mk r1; clear K1 g1 a1 r1)
  go_end0
  exact ⟨rfl, ⟨cv1, HK1.out.set1 call, HG1.out.set HA1.out 1 _, HA1.out⟩, HR1.out.trans (grown_set _ B 1 _)⟩
set_option maxRecDepth 100000 in
set_option maxHeartbeats 4000000 in
theorem moving_run (B : Nat) (mode cat left : Int) (cv : Value) (t0 t1 : Int) (lv : Value) (ask : Int) (rest : Bool) (call : Int) (W : World) (h : Wk W B mode cat left cv t0 t1 lv ask rest call) (hgood : Good W cv) (hap : Apart B cv) (w0 : World) (A : Option Addr) (c_ : Nat) (l : List (Int × Int × Int × Int)) (he : Env w0 W B lv A c_ l) :
    Calls Try.prog 63 #[.pointer (some ⟨B, 0, none⟩)] W (if call < 3 then Post W B 3 call 60 t0 t1 lv ask rest call else Post W B mode cat left t0 t1 lv ask rest call) := by
  by_cases hc : call < 3
  · rw [if_pos hc]
    have c0 := h.c0
    have c1 := h.c1
    have c2 := h.c2
    have c3 := h.c3
    have c4 := h.c4
    have c5 := h.c5
    have c6 := h.c6
    have c7 := h.c7
    have c8 := h.c8
    have c9 := h.c9
    have cf0 := h.fz 0
    have cf1 := h.fz 1
    have cf2 := h.fz 2
    have cf3 := h.fz 3
    have cf4 := h.fz 4
    have cf5 := h.fz 5
    have H := Aside0.mk h
    have HG := Aside0.mk hgood
    have HA := Aside0.mk hap
    have HE := Aside0.mk he
    clear h hgood hap he
    go_enter Try.func63, Try.ntmps63
    go_wp2_with (go_at_call 70; refine (stop_run B mode cat left cv t0 t1 lv ask rest call W H.out HG.out HA.out w0 A c_ l HE.out).mono ?_; rintro e w1 ⟨rfl, ⟨cv1, K1, g1, a1⟩, r1⟩; have d0 := K1.c0; have d1 := K1.c1; have d2 := K1.c2; have d3 := K1.c3; have d4 := K1.c4; have d5 := K1.c5; have d6 := K1.c6; have d7 := K1.c7; have d8 := K1.c8; have d9 := K1.c9; have df0 := K1.fz 0; have df1 := K1.fz 1; have df2 := K1.fz 2; have df3 := K1.fz 3; have df4 := K1.fz 4; have df5 := K1.fz 5; have HK1 := Aside0.mk K1; have HG1 := Aside0.mk g1; have HA1 := Aside0.mk a1; have HR1 := Aside0.mk r1; clear K1 g1 a1 r1)
    go_end0
    exact ⟨rfl, ⟨cv1, HK1.out, HG1.out, HA1.out⟩, HR1.out⟩
  · rw [if_neg hc]
    have c0 := h.c0
    have c1 := h.c1
    have c2 := h.c2
    have c3 := h.c3
    have c4 := h.c4
    have c5 := h.c5
    have c6 := h.c6
    have c7 := h.c7
    have c8 := h.c8
    have c9 := h.c9
    have cf0 := h.fz 0
    have cf1 := h.fz 1
    have cf2 := h.fz 2
    have cf3 := h.fz 3
    have cf4 := h.fz 4
    have cf5 := h.fz 5
    have H := Aside0.mk h
    have HG := Aside0.mk hgood
    have HA := Aside0.mk hap
    have HE := Aside0.mk he
    clear h hgood hap he
    go_enter Try.func63, Try.ntmps63
    go_wp2
    go_end0
    exact ⟨rfl, ⟨cv, H.out, HG.out, HA.out⟩, grown_refl _ _⟩
theorem Good.grown {W W' : World} {cv : Value} (h : Good W cv) {B : Nat} (hn : Apart B cv) (hg : W.grownBy W' (some B)) : Good W' cv := by
  rcases h with h | ⟨ad, n, c, xs, h1, h2, h3, h4, h5, h6, h7, cur, fz, h8⟩
  · exact .inl h
  · refine .inr ⟨ad, n, c, xs, h1, h2, h3, h4, h5, fun i u hi => ?_, h7, cur, fz, (hg.block _ (Array.getElem?_eq_some_iff.1 h8).1 (fun e => hn ad n c h1 (Option.some.inj e))).trans h8⟩
    have hb : (ad.add i).block = ad.block := by unfold Addr.add; split <;> rfl
    exact (World.cell?_of_block (hg.block _ (World.block_lt_of_cell? W _ (h6 i u hi)) (fun e => hn ad n c h1 (by rw [← hb]; exact Option.some.inj e)))).trans (h6 i u hi)
/-! ### The modes -/
set_option maxRecDepth 100000 in
set_option maxHeartbeats 4000000 in
theorem idle_run (B : Nat) (mode cat left : Int) (cv : Value) (t0 t1 : Int) (lv : Value) (ask : Int) (rest : Bool) (call : Int) (W : World) (h : Wk W B mode cat left cv t0 t1 lv ask rest call) (hgood : Good W cv) (hap : Apart B cv) (w0 : World) (A : Option Addr) (c_ : Nat) (l : List (Int × Int × Int × Int)) (he : Env w0 W B lv A c_ l) :
    Calls Try.prog 62 #[.pointer (some ⟨B, 0, none⟩)] W (if call < 3 then (if rest = true then Post W B (endMode call) call 0 t0 t1 lv ask rest call else Post W B 3 call 60 t0 t1 lv ask rest call) else if ask = 1 then Post W B 2 cat left t0 t1 lv ask rest call else Post W B mode cat left t0 t1 lv ask rest call) := by
  by_cases hc : call < 3
  · rw [if_pos hc]
    cases rest with
    | true =>
      rw [if_pos rfl]
      have c0 := h.c0
      have c1 := h.c1
      have c2 := h.c2
      have c3 := h.c3
      have c4 := h.c4
      have c5 := h.c5
      have c6 := h.c6
      have c7 := h.c7
      have c8 := h.c8
      have c9 := h.c9
      have cf0 := h.fz 0
      have cf1 := h.fz 1
      have cf2 := h.fz 2
      have cf3 := h.fz 3
      have cf4 := h.fz 4
      have cf5 := h.fz 5
      have H := Aside0.mk h
      have HG := Aside0.mk hgood
      have HA := Aside0.mk hap
      have HE := Aside0.mk he
      clear h hgood hap he
      go_enter Try.func62, Try.ntmps62
      go_wp2_with (first | (go_at_call 70; refine (stop_run B mode cat left cv t0 t1 lv ask true call W H.out HG.out HA.out w0 A c_ l HE.out).mono ?_; rintro e w1 ⟨rfl, ⟨cv1, K1, g1, a1⟩, r1⟩; have d1_0 := K1.c0; have d1_1 := K1.c1; have d1_2 := K1.c2; have d1_3 := K1.c3; have d1_4 := K1.c4; have d1_5 := K1.c5; have d1_6 := K1.c6; have d1_7 := K1.c7; have d1_8 := K1.c8; have d1_9 := K1.c9; have d1_f0 := K1.fz 0; have d1_f1 := K1.fz 1; have d1_f2 := K1.fz 2; have d1_f3 := K1.fz 3; have d1_f4 := K1.fz 4; have d1_f5 := K1.fz 5; have HK1 := Aside0.mk K1; have HG1 := Aside0.mk g1; have HA1 := Aside0.mk a1; have HR1 := Aside0.mk r1; clear K1 g1 a1 r1) | (go_at_call 71; refine (end_run B 3 call 60 cv1 t0 t1 lv ask true call w1 HK1.out).mono ?_; rintro e w2 ⟨rfl, K2, r2⟩; have HK2 := Aside0.mk K2; have HG2 := Aside0.mk ((HG1.out).grown HA1.out r2); have HR2 := Aside0.mk r2; clear K2 r2))
      go_end0
      exact ⟨rfl, ⟨cv1, HK2.out, HG2.out, HA1.out⟩, HR1.out.trans HR2.out⟩
    | false =>
      rw [if_neg (by decide)]
      have c0 := h.c0
      have c1 := h.c1
      have c2 := h.c2
      have c3 := h.c3
      have c4 := h.c4
      have c5 := h.c5
      have c6 := h.c6
      have c7 := h.c7
      have c8 := h.c8
      have c9 := h.c9
      have cf0 := h.fz 0
      have cf1 := h.fz 1
      have cf2 := h.fz 2
      have cf3 := h.fz 3
      have cf4 := h.fz 4
      have cf5 := h.fz 5
      have H := Aside0.mk h
      have HG := Aside0.mk hgood
      have HA := Aside0.mk hap
      have HE := Aside0.mk he
      clear h hgood hap he
      go_enter Try.func62, Try.ntmps62
      go_wp2_with (go_at_call 70; refine (stop_run B mode cat left cv t0 t1 lv ask false call W H.out HG.out HA.out w0 A c_ l HE.out).mono ?_; rintro e w1 ⟨rfl, ⟨cv1, K1, g1, a1⟩, r1⟩; have d1_0 := K1.c0; have d1_1 := K1.c1; have d1_2 := K1.c2; have d1_3 := K1.c3; have d1_4 := K1.c4; have d1_5 := K1.c5; have d1_6 := K1.c6; have d1_7 := K1.c7; have d1_8 := K1.c8; have d1_9 := K1.c9; have d1_f0 := K1.fz 0; have d1_f1 := K1.fz 1; have d1_f2 := K1.fz 2; have d1_f3 := K1.fz 3; have d1_f4 := K1.fz 4; have d1_f5 := K1.fz 5; have HK1 := Aside0.mk K1; have HG1 := Aside0.mk g1; have HA1 := Aside0.mk a1; have HR1 := Aside0.mk r1; clear K1 g1 a1 r1)
      go_end0
      exact ⟨rfl, ⟨cv1, HK1.out, HG1.out, HA1.out⟩, HR1.out⟩
  · rw [if_neg hc]
    by_cases ha : ask = 1
    · rw [if_pos ha]
      subst ha
      have c0 := h.c0
      have c1 := h.c1
      have c2 := h.c2
      have c3 := h.c3
      have c4 := h.c4
      have c5 := h.c5
      have c6 := h.c6
      have c7 := h.c7
      have c8 := h.c8
      have c9 := h.c9
      have cf0 := h.fz 0
      have cf1 := h.fz 1
      have cf2 := h.fz 2
      have cf3 := h.fz 3
      have cf4 := h.fz 4
      have cf5 := h.fz 5
      have H := Aside0.mk h
      have HG := Aside0.mk hgood
      have HA := Aside0.mk hap
      have HE := Aside0.mk he
      clear h hgood hap he
      go_enter Try.func62, Try.ntmps62
      go_wp2
      go_end0
      exact ⟨rfl, ⟨cv, H.out.set0 2, HG.out.set HA.out 0 _, HA.out⟩, grown_set _ B 0 _⟩
    · rw [if_neg ha]
      have hd : (ask == 1) = false := beq_eq_false_iff_ne.mpr ha
      clear ha
      have c0 := h.c0
      have c1 := h.c1
      have c2 := h.c2
      have c3 := h.c3
      have c4 := h.c4
      have c5 := h.c5
      have c6 := h.c6
      have c7 := h.c7
      have c8 := h.c8
      have c9 := h.c9
      have cf0 := h.fz 0
      have cf1 := h.fz 1
      have cf2 := h.fz 2
      have cf3 := h.fz 3
      have cf4 := h.fz 4
      have cf5 := h.fz 5
      have H := Aside0.mk h
      have HG := Aside0.mk hgood
      have HA := Aside0.mk hap
      have HE := Aside0.mk he
      clear h hgood hap he
      go_enter Try.func62, Try.ntmps62
      go_wp2
      go_end0
      exact ⟨rfl, ⟨cv, H.out, HG.out, HA.out⟩, grown_refl _ _⟩
set_option maxRecDepth 100000 in
set_option maxHeartbeats 4000000 in
theorem stopped_run (B : Nat) (mode cat left : Int) (cv : Value) (t0 t1 : Int) (lv : Value) (ask : Int) (rest : Bool) (call : Int) (W : World) (h : Wk W B mode cat left cv t0 t1 lv ask rest call) (hgood : Good W cv) (hap : Apart B cv) :
    Calls Try.prog 65 #[.pointer (some ⟨B, 0, none⟩)] W (if ask = 4 ∧ rest = true ∧ call = 3 then Post W B 1 0 0 t0 t1 lv ask rest call else Post W B mode cat left t0 t1 lv ask rest call) := by
  by_cases ha : ask = 4
  · subst ha
    cases rest with
    | true =>
      by_cases hc : call = 3
      · subst hc
        rw [if_pos ⟨rfl, rfl, rfl⟩]
        have c0 := h.c0
        have c1 := h.c1
        have c2 := h.c2
        have c3 := h.c3
        have c4 := h.c4
        have c5 := h.c5
        have c6 := h.c6
        have c7 := h.c7
        have c8 := h.c8
        have c9 := h.c9
        have cf0 := h.fz 0
        have cf1 := h.fz 1
        have cf2 := h.fz 2
        have cf3 := h.fz 3
        have cf4 := h.fz 4
        have cf5 := h.fz 5
        have H := Aside0.mk h
        have HG := Aside0.mk hgood
        have HA := Aside0.mk hap
        clear h hgood hap
        go_enter Try.func65, Try.ntmps65
        go_wp2
        go_end0
        exact ⟨rfl, ⟨.slice none 0 0, ((((((H.out.set0 1).set1 0).set2 0).set3 (.slice none 0 0)).set4 t0).set5 t1), Good.nil _, Apart.nil _⟩, (((((grown_set _ B 0 _).trans (grown_set _ B 1 _)).trans (grown_set _ B 2 _)).trans (grown_set _ B 3 _)).trans (grown_set _ B 4 _)).trans (grown_set _ B 5 _)⟩
      · rw [if_neg (fun h => hc h.2.2)]
        have hd : (call == 3) = false := beq_eq_false_iff_ne.mpr hc
        clear hc
        have c0 := h.c0
        have c1 := h.c1
        have c2 := h.c2
        have c3 := h.c3
        have c4 := h.c4
        have c5 := h.c5
        have c6 := h.c6
        have c7 := h.c7
        have c8 := h.c8
        have c9 := h.c9
        have cf0 := h.fz 0
        have cf1 := h.fz 1
        have cf2 := h.fz 2
        have cf3 := h.fz 3
        have cf4 := h.fz 4
        have cf5 := h.fz 5
        have H := Aside0.mk h
        have HG := Aside0.mk hgood
        have HA := Aside0.mk hap
        clear h hgood hap
        go_enter Try.func65, Try.ntmps65
        go_wp2
        go_end0
        exact ⟨rfl, ⟨cv, H.out, HG.out, HA.out⟩, grown_refl _ _⟩
    | false =>
      rw [if_neg (fun h => by cases h.2.1)]
      have c0 := h.c0
      have c1 := h.c1
      have c2 := h.c2
      have c3 := h.c3
      have c4 := h.c4
      have c5 := h.c5
      have c6 := h.c6
      have c7 := h.c7
      have c8 := h.c8
      have c9 := h.c9
      have cf0 := h.fz 0
      have cf1 := h.fz 1
      have cf2 := h.fz 2
      have cf3 := h.fz 3
      have cf4 := h.fz 4
      have cf5 := h.fz 5
      have H := Aside0.mk h
      have HG := Aside0.mk hgood
      have HA := Aside0.mk hap
      clear h hgood hap
      go_enter Try.func65, Try.ntmps65
      go_wp2
      go_end0
      exact ⟨rfl, ⟨cv, H.out, HG.out, HA.out⟩, grown_refl _ _⟩
  · rw [if_neg (fun h => ha h.1)]
    have hd : (ask == 4) = false := beq_eq_false_iff_ne.mpr ha
    clear ha
    have c0 := h.c0
    have c1 := h.c1
    have c2 := h.c2
    have c3 := h.c3
    have c4 := h.c4
    have c5 := h.c5
    have c6 := h.c6
    have c7 := h.c7
    have c8 := h.c8
    have c9 := h.c9
    have cf0 := h.fz 0
    have cf1 := h.fz 1
    have cf2 := h.fz 2
    have cf3 := h.fz 3
    have cf4 := h.fz 4
    have cf5 := h.fz 5
    have H := Aside0.mk h
    have HG := Aside0.mk hgood
    have HA := Aside0.mk hap
    clear h hgood hap
    go_enter Try.func65, Try.ntmps65
    go_wp2
    go_end0
    exact ⟨rfl, ⟨cv, H.out, HG.out, HA.out⟩, grown_refl _ _⟩
set_option maxRecDepth 100000 in
set_option maxHeartbeats 4000000 in
theorem holding_run (B : Nat) (mode cat left : Int) (cv : Value) (t0 t1 : Int) (lv : Value) (ask : Int) (rest : Bool) (call : Int) (W : World) (h : Wk W B mode cat left cv t0 t1 lv ask rest call) (hgood : Good W cv) (hap : Apart B cv) (w0 : World) (A : Option Addr) (c_ : Nat) (l : List (Int × Int × Int × Int)) (he : Env w0 W B lv A c_ l) :
    Calls Try.prog 66 #[.pointer (some ⟨B, 0, none⟩)] W (if call < 2 then Post W B 4 call left t0 t1 lv ask rest call else if ask = 4 ∧ rest = true ∧ call = 3 then Post W B 1 0 0 t0 t1 lv ask rest call else Post W B mode cat left t0 t1 lv ask rest call) := by
  by_cases hc : call < 2
  · rw [if_pos hc]
    have c0 := h.c0
    have c1 := h.c1
    have c2 := h.c2
    have c3 := h.c3
    have c4 := h.c4
    have c5 := h.c5
    have c6 := h.c6
    have c7 := h.c7
    have c8 := h.c8
    have c9 := h.c9
    have cf0 := h.fz 0
    have cf1 := h.fz 1
    have cf2 := h.fz 2
    have cf3 := h.fz 3
    have cf4 := h.fz 4
    have cf5 := h.fz 5
    have H := Aside0.mk h
    have HG := Aside0.mk hgood
    have HA := Aside0.mk hap
    have HE := Aside0.mk he
    clear h hgood hap he
    go_enter Try.func66, Try.ntmps66
    go_wp2_with (go_at_call 72; refine (worsen_run B mode cat left cv t0 t1 lv ask rest call W H.out HG.out HA.out w0 A c_ l HE.out).mono ?_; rintro e w1 ⟨rfl, ⟨cv1, K1, g1, a1⟩, r1⟩; have d1_0 := K1.c0; have d1_1 := K1.c1; have d1_2 := K1.c2; have d1_3 := K1.c3; have d1_4 := K1.c4; have d1_5 := K1.c5; have d1_6 := K1.c6; have d1_7 := K1.c7; have d1_8 := K1.c8; have d1_9 := K1.c9; have d1_f0 := K1.fz 0; have d1_f1 := K1.fz 1; have d1_f2 := K1.fz 2; have d1_f3 := K1.fz 3; have d1_f4 := K1.fz 4; have d1_f5 := K1.fz 5; have HK1 := Aside0.mk K1; have HG1 := Aside0.mk g1; have HA1 := Aside0.mk a1; have HR1 := Aside0.mk r1; clear K1 g1 a1 r1)
    refine bodyPost_ret (results_none rfl _ _ _) rfl ⟨rfl, ⟨cv1, HK1.out.set0 4, HG1.out.set HA1.out 0 _, HA1.out⟩, HR1.out.trans (grown_set _ B 0 _)⟩
  · rw [if_neg hc]
    have hst := stopped_run B mode cat left cv t0 t1 lv ask rest call W h hgood hap
    by_cases hs : ask = 4 ∧ rest = true ∧ call = 3
    · rw [if_pos hs] at hst ⊢
      have HST := Aside0.mk hst
      clear hst hs
      have c0 := h.c0
      have c1 := h.c1
      have c2 := h.c2
      have c3 := h.c3
      have c4 := h.c4
      have c5 := h.c5
      have c6 := h.c6
      have c7 := h.c7
      have c8 := h.c8
      have c9 := h.c9
      have cf0 := h.fz 0
      have cf1 := h.fz 1
      have cf2 := h.fz 2
      have cf3 := h.fz 3
      have cf4 := h.fz 4
      have cf5 := h.fz 5
      have H := Aside0.mk h
      have HG := Aside0.mk hgood
      have HA := Aside0.mk hap
      have HE := Aside0.mk he
      clear h hgood hap he
      go_enter Try.func66, Try.ntmps66
      go_wp2_with (go_at_call 65; refine HST.out.mono ?_; rintro e w1 ⟨rfl, ⟨cv1, K1, g1, a1⟩, r1⟩; have HK1 := Aside0.mk K1; have HG1 := Aside0.mk g1; have HA1 := Aside0.mk a1; have HR1 := Aside0.mk r1; clear K1 g1 a1 r1)
      go_end0
      exact ⟨rfl, ⟨cv1, HK1.out, HG1.out, HA1.out⟩, HR1.out⟩
    · rw [if_neg hs] at hst ⊢
      have HST := Aside0.mk hst
      clear hst hs
      have c0 := h.c0
      have c1 := h.c1
      have c2 := h.c2
      have c3 := h.c3
      have c4 := h.c4
      have c5 := h.c5
      have c6 := h.c6
      have c7 := h.c7
      have c8 := h.c8
      have c9 := h.c9
      have cf0 := h.fz 0
      have cf1 := h.fz 1
      have cf2 := h.fz 2
      have cf3 := h.fz 3
      have cf4 := h.fz 4
      have cf5 := h.fz 5
      have H := Aside0.mk h
      have HG := Aside0.mk hgood
      have HA := Aside0.mk hap
      have HE := Aside0.mk he
      clear h hgood hap he
      go_enter Try.func66, Try.ntmps66
      go_wp2_with (go_at_call 65; refine HST.out.mono ?_; rintro e w1 ⟨rfl, ⟨cv1, K1, g1, a1⟩, r1⟩; have HK1 := Aside0.mk K1; have HG1 := Aside0.mk g1; have HA1 := Aside0.mk a1; have HR1 := Aside0.mk r1; clear K1 g1 a1 r1)
      go_end0
      exact ⟨rfl, ⟨cv1, HK1.out, HG1.out, HA1.out⟩, HR1.out⟩
theorem Good.drewN {W : World} {cv : Value} (h : Good W cv) (n : Nat) : Good (W.drewN n) cv := h
theorem Wk.drewN {W : World} {B : Nat} {mode cat left : Int} {cv : Value} {t0 t1 : Int} {lv : Value} {ask : Int} {rest : Bool} {call : Int} (h : Wk W B mode cat left cv t0 t1 lv ask rest call) (n : Nat) : Wk (W.drewN n) B mode cat left cv t0 t1 lv ask rest call := h
theorem grown_drewN {W W' : World} {r : Option Nat} (h : W.grownBy W' r) (n : Nat) : W.grownBy (W'.drewN n) r := ⟨h.os, h.tape, h.output, h.size, h.block⟩
set_option maxRecDepth 100000 in
set_option maxHeartbeats 4000000 in
theorem stopping_run (B : Nat) (mode cat left : Int) (cv : Value) (t0 t1 : Int) (lv : Value) (ask : Int) (rest : Bool) (call : Int) (W : World) (h : Wk W B mode cat left cv t0 t1 lv ask rest call) (hgood : Good W cv) (hap : Apart B cv) (w0 : World) (A : Option Addr) (c_ : Nat) (l : List (Int × Int × Int × Int)) (he : Env w0 W B lv A c_ l) (hl0 : 0 ≤ left) (hl1 : left ≤ 1000) (left' cat' : Int) (hl : left' = if 0 < left then left - 1 else left) (hc : cat' = if call < cat then call else cat) :
    Calls Try.prog 64 #[.pointer (some ⟨B, 0, none⟩)] W (if rest = true then Post W B (endMode cat') cat' 0 t0 t1 lv ask rest call else if left' = 0 then Post W B mode 0 left' t0 t1 lv ask rest call else Post W B mode cat' left' t0 t1 lv ask rest call) := by
  by_cases hp : 0 < left
  · rw [if_pos hp] at hl
    subst hl
    by_cases hcc : call < cat
    · rw [if_pos hcc] at hc
      have hc_ := hc.symm
      subst hc_
      cases rest with
      | true =>
        rw [if_pos rfl]
        have hle : 0 ≤ left - 1 := by omega
        have c0 := h.c0
        have c1 := h.c1
        have c2 := h.c2
        have c3 := h.c3
        have c4 := h.c4
        have c5 := h.c5
        have c6 := h.c6
        have c7 := h.c7
        have c8 := h.c8
        have c9 := h.c9
        have cf0 := h.fz 0
        have cf1 := h.fz 1
        have cf2 := h.fz 2
        have cf3 := h.fz 3
        have cf4 := h.fz 4
        have cf5 := h.fz 5
        have H := Aside0.mk h
        have HG := Aside0.mk hgood
        have HA := Aside0.mk hap
        have HE := Aside0.mk he
        clear h hgood hap he
        go_enter Try.func64, Try.ntmps64
        go_wp2
        go_quiet (fail)
        generalize hq : (W.setCell ⟨B, 2, none⟩ (.int .i64 (left - 1))).drewN nq = w5
        have K5 : Wk w5 B mode cat (left - 1) cv t0 t1 lv ask true call := by rw [← hq]; exact (H.out.set2 _).drewN nq
        have G5 : Good w5 cv := by rw [← hq]; exact (HG.out.set HA.out 2 _).drewN nq
        have R5 : W.grownBy w5 (some B) := by rw [← hq]; exact grown_drewN (grown_set W B 2 _) nq
        clear c0 c1 c2 c3 c4 c5 c6 c7 c8 c9 cf0 cf1 cf2 cf3 cf4 cf5
        clear hq
        have q0 := K5.c0
        have q1 := K5.c1
        have q2 := K5.c2
        have q3 := K5.c3
        have q4 := K5.c4
        have q5 := K5.c5
        have q6 := K5.c6
        have q7 := K5.c7
        have q8 := K5.c8
        have q9 := K5.c9
        have qf0 := K5.fz 0
        have qf1 := K5.fz 1
        have qf2 := K5.fz 2
        have qf3 := K5.fz 3
        have qf4 := K5.fz 4
        have qf5 := K5.fz 5
        have HK5 := Aside0.mk K5
        have HG5 := Aside0.mk G5
        have HR5 := Aside0.mk R5
        clear K5 G5 R5
        go_wp2_with (first | (go_at_call 72; refine (worsen_run B mode cat (left - 1) cv t0 t1 lv ask true call w5 HK5.out HG5.out HA.out w0 A c_ l (HE.out.grown HR5.out)).mono ?_; rintro e w1 ⟨rfl, ⟨cv1, K1, g1, a1⟩, r1⟩; have d1_0 := K1.c0; have d1_1 := K1.c1; have d1_2 := K1.c2; have d1_3 := K1.c3; have d1_4 := K1.c4; have d1_5 := K1.c5; have d1_6 := K1.c6; have d1_7 := K1.c7; have d1_8 := K1.c8; have d1_9 := K1.c9; have d1_f0 := K1.fz 0; have d1_f1 := K1.fz 1; have d1_f2 := K1.fz 2; have d1_f3 := K1.fz 3; have d1_f4 := K1.fz 4; have d1_f5 := K1.fz 5; have HK1 := Aside0.mk K1; have HG1 := Aside0.mk g1; have HA1 := Aside0.mk a1; have HR1 := Aside0.mk r1; clear K1 g1 a1 r1) | (go_at_call 71; refine (end_run B mode call (left - 1) cv1 t0 t1 lv ask true call w1 HK1.out).mono ?_; rintro e w2 ⟨rfl, K2, r2⟩; have HK2 := Aside0.mk K2; have HG2 := Aside0.mk ((HG1.out).grown HA1.out r2); have HR2 := Aside0.mk r2; clear K2 r2))
        go_end0
        exact ⟨rfl, ⟨cv1, HK2.out, HG2.out, HA1.out⟩, (HR5.out.trans HR1.out).trans HR2.out⟩
      | false =>
        rw [if_neg (by decide)]
        by_cases h1 : left = 1
        · subst h1
          rw [if_pos (by decide)]
          show Calls _ _ _ _ (Post W B mode 0 0 t0 t1 lv ask false call)
          have c0 := h.c0
          have c1 := h.c1
          have c2 := h.c2
          have c3 := h.c3
          have c4 := h.c4
          have c5 := h.c5
          have c6 := h.c6
          have c7 := h.c7
          have c8 := h.c8
          have c9 := h.c9
          have cf0 := h.fz 0
          have cf1 := h.fz 1
          have cf2 := h.fz 2
          have cf3 := h.fz 3
          have cf4 := h.fz 4
          have cf5 := h.fz 5
          have H := Aside0.mk h
          have HG := Aside0.mk hgood
          have HA := Aside0.mk hap
          have HE := Aside0.mk he
          clear h hgood hap he
          go_enter Try.func64, Try.ntmps64
          go_wp2
          go_quiet (fail)
          generalize hq : (W.setCell ⟨B, 2, none⟩ (.int .i64 0)).drewN nq = w5
          have K5 : Wk w5 B mode cat 0 cv t0 t1 lv ask false call := by rw [← hq]; exact (H.out.set2 _).drewN nq
          have G5 : Good w5 cv := by rw [← hq]; exact (HG.out.set HA.out 2 _).drewN nq
          have R5 : W.grownBy w5 (some B) := by rw [← hq]; exact grown_drewN (grown_set W B 2 _) nq
          clear c0 c1 c2 c3 c4 c5 c6 c7 c8 c9 cf0 cf1 cf2 cf3 cf4 cf5
          clear hq
          have q0 := K5.c0
          have q1 := K5.c1
          have q2 := K5.c2
          have q3 := K5.c3
          have q4 := K5.c4
          have q5 := K5.c5
          have q6 := K5.c6
          have q7 := K5.c7
          have q8 := K5.c8
          have q9 := K5.c9
          have qf0 := K5.fz 0
          have qf1 := K5.fz 1
          have qf2 := K5.fz 2
          have qf3 := K5.fz 3
          have qf4 := K5.fz 4
          have qf5 := K5.fz 5
          have HK5 := Aside0.mk K5
          have HG5 := Aside0.mk G5
          have HR5 := Aside0.mk R5
          clear K5 G5 R5
          go_wp2_with (first | (go_at_call 72; refine (worsen_run B mode cat 0 cv t0 t1 lv ask false call w5 HK5.out HG5.out HA.out w0 A c_ l (HE.out.grown HR5.out)).mono ?_; rintro e w1 ⟨rfl, ⟨cv1, K1, g1, a1⟩, r1⟩; have d1_0 := K1.c0; have d1_1 := K1.c1; have d1_2 := K1.c2; have d1_3 := K1.c3; have d1_4 := K1.c4; have d1_5 := K1.c5; have d1_6 := K1.c6; have d1_7 := K1.c7; have d1_8 := K1.c8; have d1_9 := K1.c9; have d1_f0 := K1.fz 0; have d1_f1 := K1.fz 1; have d1_f2 := K1.fz 2; have d1_f3 := K1.fz 3; have d1_f4 := K1.fz 4; have d1_f5 := K1.fz 5; have HK1 := Aside0.mk K1; have HG1 := Aside0.mk g1; have HA1 := Aside0.mk a1; have HR1 := Aside0.mk r1; clear K1 g1 a1 r1))
          go_end0
          exact ⟨rfl, ⟨cv1, HK1.out.set1 0, HG1.out.set HA1.out 1 _, HA1.out⟩, (HR5.out.trans HR1.out).trans (grown_set _ B 1 _)⟩
        · rw [if_neg (by omega)]
          have hle : 0 ≤ left - 1 := by omega
          have hz : (left - 1 == 0) = false := beq_eq_false_iff_ne.mpr (by omega)
          clear h1
          have c0 := h.c0
          have c1 := h.c1
          have c2 := h.c2
          have c3 := h.c3
          have c4 := h.c4
          have c5 := h.c5
          have c6 := h.c6
          have c7 := h.c7
          have c8 := h.c8
          have c9 := h.c9
          have cf0 := h.fz 0
          have cf1 := h.fz 1
          have cf2 := h.fz 2
          have cf3 := h.fz 3
          have cf4 := h.fz 4
          have cf5 := h.fz 5
          have H := Aside0.mk h
          have HG := Aside0.mk hgood
          have HA := Aside0.mk hap
          have HE := Aside0.mk he
          clear h hgood hap he
          go_enter Try.func64, Try.ntmps64
          go_wp2
          go_quiet (fail)
          generalize hq : (W.setCell ⟨B, 2, none⟩ (.int .i64 (left - 1))).drewN nq = w5
          have K5 : Wk w5 B mode cat (left - 1) cv t0 t1 lv ask false call := by rw [← hq]; exact (H.out.set2 _).drewN nq
          have G5 : Good w5 cv := by rw [← hq]; exact (HG.out.set HA.out 2 _).drewN nq
          have R5 : W.grownBy w5 (some B) := by rw [← hq]; exact grown_drewN (grown_set W B 2 _) nq
          clear c0 c1 c2 c3 c4 c5 c6 c7 c8 c9 cf0 cf1 cf2 cf3 cf4 cf5
          clear hq
          have q0 := K5.c0
          have q1 := K5.c1
          have q2 := K5.c2
          have q3 := K5.c3
          have q4 := K5.c4
          have q5 := K5.c5
          have q6 := K5.c6
          have q7 := K5.c7
          have q8 := K5.c8
          have q9 := K5.c9
          have qf0 := K5.fz 0
          have qf1 := K5.fz 1
          have qf2 := K5.fz 2
          have qf3 := K5.fz 3
          have qf4 := K5.fz 4
          have qf5 := K5.fz 5
          have HK5 := Aside0.mk K5
          have HG5 := Aside0.mk G5
          have HR5 := Aside0.mk R5
          clear K5 G5 R5
          go_wp2_with (first | (go_at_call 72; refine (worsen_run B mode cat (left - 1) cv t0 t1 lv ask false call w5 HK5.out HG5.out HA.out w0 A c_ l (HE.out.grown HR5.out)).mono ?_; rintro e w1 ⟨rfl, ⟨cv1, K1, g1, a1⟩, r1⟩; have d1_0 := K1.c0; have d1_1 := K1.c1; have d1_2 := K1.c2; have d1_3 := K1.c3; have d1_4 := K1.c4; have d1_5 := K1.c5; have d1_6 := K1.c6; have d1_7 := K1.c7; have d1_8 := K1.c8; have d1_9 := K1.c9; have d1_f0 := K1.fz 0; have d1_f1 := K1.fz 1; have d1_f2 := K1.fz 2; have d1_f3 := K1.fz 3; have d1_f4 := K1.fz 4; have d1_f5 := K1.fz 5; have HK1 := Aside0.mk K1; have HG1 := Aside0.mk g1; have HA1 := Aside0.mk a1; have HR1 := Aside0.mk r1; clear K1 g1 a1 r1))
          go_end0
          exact ⟨rfl, ⟨cv1, HK1.out, HG1.out, HA1.out⟩, (HR5.out.trans HR1.out)⟩
    · rw [if_neg hcc] at hc
      have hc_ := hc.symm
      subst hc_
      cases rest with
      | true =>
        rw [if_pos rfl]
        have hle : 0 ≤ left - 1 := by omega
        have c0 := h.c0
        have c1 := h.c1
        have c2 := h.c2
        have c3 := h.c3
        have c4 := h.c4
        have c5 := h.c5
        have c6 := h.c6
        have c7 := h.c7
        have c8 := h.c8
        have c9 := h.c9
        have cf0 := h.fz 0
        have cf1 := h.fz 1
        have cf2 := h.fz 2
        have cf3 := h.fz 3
        have cf4 := h.fz 4
        have cf5 := h.fz 5
        have H := Aside0.mk h
        have HG := Aside0.mk hgood
        have HA := Aside0.mk hap
        have HE := Aside0.mk he
        clear h hgood hap he
        go_enter Try.func64, Try.ntmps64
        go_wp2
        go_quiet (fail)
        generalize hq : (W.setCell ⟨B, 2, none⟩ (.int .i64 (left - 1))).drewN nq = w5
        have K5 : Wk w5 B mode cat (left - 1) cv t0 t1 lv ask true call := by rw [← hq]; exact (H.out.set2 _).drewN nq
        have G5 : Good w5 cv := by rw [← hq]; exact (HG.out.set HA.out 2 _).drewN nq
        have R5 : W.grownBy w5 (some B) := by rw [← hq]; exact grown_drewN (grown_set W B 2 _) nq
        clear c0 c1 c2 c3 c4 c5 c6 c7 c8 c9 cf0 cf1 cf2 cf3 cf4 cf5
        clear hq
        have q0 := K5.c0
        have q1 := K5.c1
        have q2 := K5.c2
        have q3 := K5.c3
        have q4 := K5.c4
        have q5 := K5.c5
        have q6 := K5.c6
        have q7 := K5.c7
        have q8 := K5.c8
        have q9 := K5.c9
        have qf0 := K5.fz 0
        have qf1 := K5.fz 1
        have qf2 := K5.fz 2
        have qf3 := K5.fz 3
        have qf4 := K5.fz 4
        have qf5 := K5.fz 5
        have HK5 := Aside0.mk K5
        have HG5 := Aside0.mk G5
        have HR5 := Aside0.mk R5
        clear K5 G5 R5
        go_wp2_with (first | (go_at_call 71; refine (end_run B mode cat (left - 1) cv t0 t1 lv ask true call w5 HK5.out).mono ?_; rintro e w2 ⟨rfl, K2, r2⟩; have HK2 := Aside0.mk K2; have HG2 := Aside0.mk ((HG5.out).grown HA.out r2); have HR2 := Aside0.mk r2; clear K2 r2))
        go_end0
        exact ⟨rfl, ⟨cv, HK2.out, HG2.out, HA.out⟩, HR5.out.trans HR2.out⟩
      | false =>
        rw [if_neg (by decide)]
        by_cases h1 : left = 1
        · subst h1
          rw [if_pos (by decide)]
          show Calls _ _ _ _ (Post W B mode 0 0 t0 t1 lv ask false call)
          have c0 := h.c0
          have c1 := h.c1
          have c2 := h.c2
          have c3 := h.c3
          have c4 := h.c4
          have c5 := h.c5
          have c6 := h.c6
          have c7 := h.c7
          have c8 := h.c8
          have c9 := h.c9
          have cf0 := h.fz 0
          have cf1 := h.fz 1
          have cf2 := h.fz 2
          have cf3 := h.fz 3
          have cf4 := h.fz 4
          have cf5 := h.fz 5
          have H := Aside0.mk h
          have HG := Aside0.mk hgood
          have HA := Aside0.mk hap
          have HE := Aside0.mk he
          clear h hgood hap he
          go_enter Try.func64, Try.ntmps64
          go_wp2
          go_quiet (fail)
          generalize hq : (W.setCell ⟨B, 2, none⟩ (.int .i64 0)).drewN nq = w5
          have K5 : Wk w5 B mode cat 0 cv t0 t1 lv ask false call := by rw [← hq]; exact (H.out.set2 _).drewN nq
          have G5 : Good w5 cv := by rw [← hq]; exact (HG.out.set HA.out 2 _).drewN nq
          have R5 : W.grownBy w5 (some B) := by rw [← hq]; exact grown_drewN (grown_set W B 2 _) nq
          clear c0 c1 c2 c3 c4 c5 c6 c7 c8 c9 cf0 cf1 cf2 cf3 cf4 cf5
          clear hq
          have q0 := K5.c0
          have q1 := K5.c1
          have q2 := K5.c2
          have q3 := K5.c3
          have q4 := K5.c4
          have q5 := K5.c5
          have q6 := K5.c6
          have q7 := K5.c7
          have q8 := K5.c8
          have q9 := K5.c9
          have qf0 := K5.fz 0
          have qf1 := K5.fz 1
          have qf2 := K5.fz 2
          have qf3 := K5.fz 3
          have qf4 := K5.fz 4
          have qf5 := K5.fz 5
          have HK5 := Aside0.mk K5
          have HG5 := Aside0.mk G5
          have HR5 := Aside0.mk R5
          clear K5 G5 R5
          go_wp2
          go_end0
          exact ⟨rfl, ⟨cv, HK5.out.set1 0, HG5.out.set HA.out 1 _, HA.out⟩, HR5.out.trans (grown_set _ B 1 _)⟩
        · rw [if_neg (by omega)]
          have hle : 0 ≤ left - 1 := by omega
          have hz : (left - 1 == 0) = false := beq_eq_false_iff_ne.mpr (by omega)
          clear h1
          have c0 := h.c0
          have c1 := h.c1
          have c2 := h.c2
          have c3 := h.c3
          have c4 := h.c4
          have c5 := h.c5
          have c6 := h.c6
          have c7 := h.c7
          have c8 := h.c8
          have c9 := h.c9
          have cf0 := h.fz 0
          have cf1 := h.fz 1
          have cf2 := h.fz 2
          have cf3 := h.fz 3
          have cf4 := h.fz 4
          have cf5 := h.fz 5
          have H := Aside0.mk h
          have HG := Aside0.mk hgood
          have HA := Aside0.mk hap
          have HE := Aside0.mk he
          clear h hgood hap he
          go_enter Try.func64, Try.ntmps64
          go_wp2
          go_quiet (fail)
          generalize hq : (W.setCell ⟨B, 2, none⟩ (.int .i64 (left - 1))).drewN nq = w5
          have K5 : Wk w5 B mode cat (left - 1) cv t0 t1 lv ask false call := by rw [← hq]; exact (H.out.set2 _).drewN nq
          have G5 : Good w5 cv := by rw [← hq]; exact (HG.out.set HA.out 2 _).drewN nq
          have R5 : W.grownBy w5 (some B) := by rw [← hq]; exact grown_drewN (grown_set W B 2 _) nq
          clear c0 c1 c2 c3 c4 c5 c6 c7 c8 c9 cf0 cf1 cf2 cf3 cf4 cf5
          clear hq
          have q0 := K5.c0
          have q1 := K5.c1
          have q2 := K5.c2
          have q3 := K5.c3
          have q4 := K5.c4
          have q5 := K5.c5
          have q6 := K5.c6
          have q7 := K5.c7
          have q8 := K5.c8
          have q9 := K5.c9
          have qf0 := K5.fz 0
          have qf1 := K5.fz 1
          have qf2 := K5.fz 2
          have qf3 := K5.fz 3
          have qf4 := K5.fz 4
          have qf5 := K5.fz 5
          have HK5 := Aside0.mk K5
          have HG5 := Aside0.mk G5
          have HR5 := Aside0.mk R5
          clear K5 G5 R5
          go_wp2
          go_end0
          exact ⟨rfl, ⟨cv, HK5.out, HG5.out, HA.out⟩, HR5.out⟩
  · rw [if_neg hp] at hl
    have h0 : left = 0 := by omega
    subst h0
    subst hl
    clear hp hl0 hl1
    by_cases hcc : call < cat
    · rw [if_pos hcc] at hc
      have hc_ := hc.symm
      subst hc_
      cases rest with
      | true =>
        rw [if_pos rfl]
        have c0 := h.c0
        have c1 := h.c1
        have c2 := h.c2
        have c3 := h.c3
        have c4 := h.c4
        have c5 := h.c5
        have c6 := h.c6
        have c7 := h.c7
        have c8 := h.c8
        have c9 := h.c9
        have cf0 := h.fz 0
        have cf1 := h.fz 1
        have cf2 := h.fz 2
        have cf3 := h.fz 3
        have cf4 := h.fz 4
        have cf5 := h.fz 5
        have H := Aside0.mk h
        have HG := Aside0.mk hgood
        have HA := Aside0.mk hap
        have HE := Aside0.mk he
        clear h hgood hap he
        go_enter Try.func64, Try.ntmps64
        go_wp2
        go_quiet (fail)
        generalize hq : W.drewN nq = w5
        have K5 : Wk w5 B mode cat 0 cv t0 t1 lv ask true call := by rw [← hq]; exact H.out.drewN nq
        have G5 : Good w5 cv := by rw [← hq]; exact HG.out.drewN nq
        have R5 : W.grownBy w5 (some B) := by rw [← hq]; exact grown_drewN (grown_refl _ _) nq
        clear c0 c1 c2 c3 c4 c5 c6 c7 c8 c9 cf0 cf1 cf2 cf3 cf4 cf5
        clear hq
        have q0 := K5.c0
        have q1 := K5.c1
        have q2 := K5.c2
        have q3 := K5.c3
        have q4 := K5.c4
        have q5 := K5.c5
        have q6 := K5.c6
        have q7 := K5.c7
        have q8 := K5.c8
        have q9 := K5.c9
        have qf0 := K5.fz 0
        have qf1 := K5.fz 1
        have qf2 := K5.fz 2
        have qf3 := K5.fz 3
        have qf4 := K5.fz 4
        have qf5 := K5.fz 5
        have HK5 := Aside0.mk K5
        have HG5 := Aside0.mk G5
        have HR5 := Aside0.mk R5
        clear K5 G5 R5
        go_wp2_with (first | (go_at_call 72; refine (worsen_run B mode cat 0 cv t0 t1 lv ask true call w5 HK5.out HG5.out HA.out w0 A c_ l (HE.out.grown HR5.out)).mono ?_; rintro e w1 ⟨rfl, ⟨cv1, K1, g1, a1⟩, r1⟩; have d1_0 := K1.c0; have d1_1 := K1.c1; have d1_2 := K1.c2; have d1_3 := K1.c3; have d1_4 := K1.c4; have d1_5 := K1.c5; have d1_6 := K1.c6; have d1_7 := K1.c7; have d1_8 := K1.c8; have d1_9 := K1.c9; have d1_f0 := K1.fz 0; have d1_f1 := K1.fz 1; have d1_f2 := K1.fz 2; have d1_f3 := K1.fz 3; have d1_f4 := K1.fz 4; have d1_f5 := K1.fz 5; have HK1 := Aside0.mk K1; have HG1 := Aside0.mk g1; have HA1 := Aside0.mk a1; have HR1 := Aside0.mk r1; clear K1 g1 a1 r1) | (go_at_call 71; refine (end_run B mode call 0 cv1 t0 t1 lv ask true call w1 HK1.out).mono ?_; rintro e w2 ⟨rfl, K2, r2⟩; have HK2 := Aside0.mk K2; have HG2 := Aside0.mk ((HG1.out).grown HA1.out r2); have HR2 := Aside0.mk r2; clear K2 r2))
        go_end0
        exact ⟨rfl, ⟨cv1, HK2.out, HG2.out, HA1.out⟩, (HR5.out.trans HR1.out).trans HR2.out⟩
      | false =>
        rw [if_neg (by decide), if_pos rfl]
        have c0 := h.c0
        have c1 := h.c1
        have c2 := h.c2
        have c3 := h.c3
        have c4 := h.c4
        have c5 := h.c5
        have c6 := h.c6
        have c7 := h.c7
        have c8 := h.c8
        have c9 := h.c9
        have cf0 := h.fz 0
        have cf1 := h.fz 1
        have cf2 := h.fz 2
        have cf3 := h.fz 3
        have cf4 := h.fz 4
        have cf5 := h.fz 5
        have H := Aside0.mk h
        have HG := Aside0.mk hgood
        have HA := Aside0.mk hap
        have HE := Aside0.mk he
        clear h hgood hap he
        go_enter Try.func64, Try.ntmps64
        go_wp2
        go_quiet (fail)
        generalize hq : W.drewN nq = w5
        have K5 : Wk w5 B mode cat 0 cv t0 t1 lv ask false call := by rw [← hq]; exact H.out.drewN nq
        have G5 : Good w5 cv := by rw [← hq]; exact HG.out.drewN nq
        have R5 : W.grownBy w5 (some B) := by rw [← hq]; exact grown_drewN (grown_refl _ _) nq
        clear c0 c1 c2 c3 c4 c5 c6 c7 c8 c9 cf0 cf1 cf2 cf3 cf4 cf5
        clear hq
        have q0 := K5.c0
        have q1 := K5.c1
        have q2 := K5.c2
        have q3 := K5.c3
        have q4 := K5.c4
        have q5 := K5.c5
        have q6 := K5.c6
        have q7 := K5.c7
        have q8 := K5.c8
        have q9 := K5.c9
        have qf0 := K5.fz 0
        have qf1 := K5.fz 1
        have qf2 := K5.fz 2
        have qf3 := K5.fz 3
        have qf4 := K5.fz 4
        have qf5 := K5.fz 5
        have HK5 := Aside0.mk K5
        have HG5 := Aside0.mk G5
        have HR5 := Aside0.mk R5
        clear K5 G5 R5
        go_wp2_with (first | (go_at_call 72; refine (worsen_run B mode cat 0 cv t0 t1 lv ask false call w5 HK5.out HG5.out HA.out w0 A c_ l (HE.out.grown HR5.out)).mono ?_; rintro e w1 ⟨rfl, ⟨cv1, K1, g1, a1⟩, r1⟩; have d1_0 := K1.c0; have d1_1 := K1.c1; have d1_2 := K1.c2; have d1_3 := K1.c3; have d1_4 := K1.c4; have d1_5 := K1.c5; have d1_6 := K1.c6; have d1_7 := K1.c7; have d1_8 := K1.c8; have d1_9 := K1.c9; have d1_f0 := K1.fz 0; have d1_f1 := K1.fz 1; have d1_f2 := K1.fz 2; have d1_f3 := K1.fz 3; have d1_f4 := K1.fz 4; have d1_f5 := K1.fz 5; have HK1 := Aside0.mk K1; have HG1 := Aside0.mk g1; have HA1 := Aside0.mk a1; have HR1 := Aside0.mk r1; clear K1 g1 a1 r1))
        go_end0
        exact ⟨rfl, ⟨cv1, HK1.out.set1 0, HG1.out.set HA1.out 1 _, HA1.out⟩, (HR5.out.trans HR1.out).trans (grown_set _ B 1 _)⟩
    · rw [if_neg hcc] at hc
      have hc_ := hc.symm
      subst hc_
      cases rest with
      | true =>
        rw [if_pos rfl]
        have c0 := h.c0
        have c1 := h.c1
        have c2 := h.c2
        have c3 := h.c3
        have c4 := h.c4
        have c5 := h.c5
        have c6 := h.c6
        have c7 := h.c7
        have c8 := h.c8
        have c9 := h.c9
        have cf0 := h.fz 0
        have cf1 := h.fz 1
        have cf2 := h.fz 2
        have cf3 := h.fz 3
        have cf4 := h.fz 4
        have cf5 := h.fz 5
        have H := Aside0.mk h
        have HG := Aside0.mk hgood
        have HA := Aside0.mk hap
        have HE := Aside0.mk he
        clear h hgood hap he
        go_enter Try.func64, Try.ntmps64
        go_wp2
        go_quiet (fail)
        generalize hq : W.drewN nq = w5
        have K5 : Wk w5 B mode cat 0 cv t0 t1 lv ask true call := by rw [← hq]; exact H.out.drewN nq
        have G5 : Good w5 cv := by rw [← hq]; exact HG.out.drewN nq
        have R5 : W.grownBy w5 (some B) := by rw [← hq]; exact grown_drewN (grown_refl _ _) nq
        clear c0 c1 c2 c3 c4 c5 c6 c7 c8 c9 cf0 cf1 cf2 cf3 cf4 cf5
        clear hq
        have q0 := K5.c0
        have q1 := K5.c1
        have q2 := K5.c2
        have q3 := K5.c3
        have q4 := K5.c4
        have q5 := K5.c5
        have q6 := K5.c6
        have q7 := K5.c7
        have q8 := K5.c8
        have q9 := K5.c9
        have qf0 := K5.fz 0
        have qf1 := K5.fz 1
        have qf2 := K5.fz 2
        have qf3 := K5.fz 3
        have qf4 := K5.fz 4
        have qf5 := K5.fz 5
        have HK5 := Aside0.mk K5
        have HG5 := Aside0.mk G5
        have HR5 := Aside0.mk R5
        clear K5 G5 R5
        go_wp2_with (first | (go_at_call 71; refine (end_run B mode cat 0 cv t0 t1 lv ask true call w5 HK5.out).mono ?_; rintro e w2 ⟨rfl, K2, r2⟩; have HK2 := Aside0.mk K2; have HG2 := Aside0.mk ((HG5.out).grown HA.out r2); have HR2 := Aside0.mk r2; clear K2 r2))
        go_end0
        exact ⟨rfl, ⟨cv, HK2.out, HG2.out, HA.out⟩, HR5.out.trans HR2.out⟩
      | false =>
        rw [if_neg (by decide), if_pos rfl]
        have c0 := h.c0
        have c1 := h.c1
        have c2 := h.c2
        have c3 := h.c3
        have c4 := h.c4
        have c5 := h.c5
        have c6 := h.c6
        have c7 := h.c7
        have c8 := h.c8
        have c9 := h.c9
        have cf0 := h.fz 0
        have cf1 := h.fz 1
        have cf2 := h.fz 2
        have cf3 := h.fz 3
        have cf4 := h.fz 4
        have cf5 := h.fz 5
        have H := Aside0.mk h
        have HG := Aside0.mk hgood
        have HA := Aside0.mk hap
        have HE := Aside0.mk he
        clear h hgood hap he
        go_enter Try.func64, Try.ntmps64
        go_wp2
        go_quiet (fail)
        generalize hq : W.drewN nq = w5
        have K5 : Wk w5 B mode cat 0 cv t0 t1 lv ask false call := by rw [← hq]; exact H.out.drewN nq
        have G5 : Good w5 cv := by rw [← hq]; exact HG.out.drewN nq
        have R5 : W.grownBy w5 (some B) := by rw [← hq]; exact grown_drewN (grown_refl _ _) nq
        clear c0 c1 c2 c3 c4 c5 c6 c7 c8 c9 cf0 cf1 cf2 cf3 cf4 cf5
        clear hq
        have q0 := K5.c0
        have q1 := K5.c1
        have q2 := K5.c2
        have q3 := K5.c3
        have q4 := K5.c4
        have q5 := K5.c5
        have q6 := K5.c6
        have q7 := K5.c7
        have q8 := K5.c8
        have q9 := K5.c9
        have qf0 := K5.fz 0
        have qf1 := K5.fz 1
        have qf2 := K5.fz 2
        have qf3 := K5.fz 3
        have qf4 := K5.fz 4
        have qf5 := K5.fz 5
        have HK5 := Aside0.mk K5
        have HG5 := Aside0.mk G5
        have HR5 := Aside0.mk R5
        clear K5 G5 R5
        go_wp2
        go_end0
        exact ⟨rfl, ⟨cv, HK5.out.set1 0, HG5.out.set HA.out 1 _, HA.out⟩, HR5.out.trans (grown_set _ B 1 _)⟩
/-! ### The answer's number -/
def errS (ask mode : Int) : Int := if ask < 0 ∨ 5 < ask then 1 else if (ask = 4 ∧ mode ≠ 1) ∨ (ask = 1 ∧ mode ≠ 2) then 290 else 0
set_option maxRecDepth 100000 in
set_option maxHeartbeats 4000000 in
theorem error_run (B : Nat) (mode cat left : Int) (cv : Value) (t0 t1 : Int) (lv : Value) (ask : Int) (rest : Bool) (call : Int) (W : World) (h : Wk W B mode cat left cv t0 t1 lv ask rest call) :
    Calls Try.prog 44 #[.pointer (some ⟨B, 0, none⟩)] W fun e W' => e = .returned (.int .i64 (errS ask mode)) ∧ W' = W := by
  by_cases h1 : ask < 0
  · have d1 : decide (ask < 0) = true := decide_eq_true h1
    have E := Aside0.mk (show errS ask mode = 1 from if_pos (.inl h1))
    have c0 := h.c0
    have c7 := h.c7
    clear h
    clear h1
    go_enter Try.func44, Try.ntmps44
    go_wp2
    go_ret
    exact ⟨by rw [E.out]; rfl, rfl⟩
  by_cases h2 : 5 < ask
  · have d1 : decide (ask < 0) = false := decide_eq_false h1
    have d2 : decide (5 < ask) = true := decide_eq_true h2
    have E := Aside0.mk (show errS ask mode = 1 from if_pos (.inr h2))
    have c0 := h.c0
    have c7 := h.c7
    clear h
    clear h1 h2
    go_enter Try.func44, Try.ntmps44
    go_wp2
    go_ret
    exact ⟨by rw [E.out]; rfl, rfl⟩
  have d1 : decide (ask < 0) = false := decide_eq_false h1
  have d2 : decide (5 < ask) = false := decide_eq_false h2
  have hn : ¬ (ask < 0 ∨ 5 < ask) := by omega
  clear h1 h2
  by_cases h4 : ask = 4
  · subst h4
    by_cases m1 : mode = 1
    · subst m1
      have E := Aside0.mk (show errS 4 1 = 0 from rfl)
      have c0 := h.c0
      have c7 := h.c7
      clear h hn d1 d2
      go_enter Try.func44, Try.ntmps44
      go_wp2
      go_ret
      exact ⟨by rw [E.out]; rfl, rfl⟩
    · have d3 : (mode == 1) = false := beq_eq_false_iff_ne.mpr m1
      have d4 : (mode != 1) = true := bne_iff_ne.mpr m1
      have E := Aside0.mk (show errS 4 mode = 290 from by unfold errS; rw [if_neg hn, if_pos (.inl ⟨rfl, m1⟩)])
      have c0 := h.c0
      have c7 := h.c7
      clear h hn d1 d2 m1
      go_enter Try.func44, Try.ntmps44
      go_wp2
      go_ret
      exact ⟨by rw [E.out]; rfl, rfl⟩
  by_cases h5 : ask = 1
  · subst h5
    by_cases m1 : mode = 2
    · subst m1
      have E := Aside0.mk (show errS 1 2 = 0 from rfl)
      have c0 := h.c0
      have c7 := h.c7
      clear h hn d1 d2 h4
      go_enter Try.func44, Try.ntmps44
      go_wp2
      go_ret
      exact ⟨by rw [E.out]; rfl, rfl⟩
    · have d3 : (mode == 2) = false := beq_eq_false_iff_ne.mpr m1
      have d4 : (mode != 2) = true := bne_iff_ne.mpr m1
      have E := Aside0.mk (show errS 1 mode = 290 from by unfold errS; rw [if_neg hn, if_pos (.inr ⟨rfl, m1⟩)])
      have c0 := h.c0
      have c7 := h.c7
      clear h hn d1 d2 m1 h4
      go_enter Try.func44, Try.ntmps44
      go_wp2
      go_ret
      exact ⟨by rw [E.out]; rfl, rfl⟩
  have d5 : (ask == 4) = false := beq_eq_false_iff_ne.mpr h4
  have d6 : (ask == 1) = false := beq_eq_false_iff_ne.mpr h5
  have E := Aside0.mk (show errS ask mode = 0 from by unfold errS; rw [if_neg hn, if_neg (fun h => h.elim (fun h => h4 h.1) (fun h => h5 h.1))])
  have c0 := h.c0
  have c7 := h.c7
  clear h hn h4 h5
  go_enter Try.func44, Try.ntmps44
  go_wp2
  go_ret
  exact ⟨by rw [E.out]; rfl, rfl⟩
/-! ### The table of the modes -/
def fnV (g : Nat) : Value := .func (.func g) #[] #[]
def ment (k : Int) (g b : Nat) : MapEntry := { key := .int .i64 k, val := .func (.func g) #[] #[], born := b }
def mt1 : Array MapEntry := #[ment 1 62 0]
def mt2 : Array MapEntry := #[ment 1 62 0, ment 2 63 1]
def mt3 : Array MapEntry := #[ment 1 62 0, ment 2 63 1, ment 3 64 2]
def mt4 : Array MapEntry := #[ment 1 62 0, ment 2 63 1, ment 3 64 2, ment 4 65 3]
def mt5 : Array MapEntry := #[ment 1 62 0, ment 2 63 1, ment 3 64 2, ment 4 65 3, ment 5 66 4]
theorem mins1 (W : World) (n : Nat) (hn : W.heap.size = n) : (Instr.mapUpdate 100 (.map (some n)) (.int .i64 1) (.func (.func 62) #[] #[])).run Try.prog (W.alloc (.map #[] 0)) = .ok () (W.alloc (.map mt1 1)) := MapOne.run_insert_new (P := Try.prog) (es := #[]) (clock := 0) (key := 1) Try.underlying100 Try.underlying3 rfl W n hn (.func (.func 62) #[] #[])
theorem mins2 (W : World) (n : Nat) (hn : W.heap.size = n) : (Instr.mapUpdate 100 (.map (some n)) (.int .i64 2) (.func (.func 63) #[] #[])).run Try.prog (W.alloc (.map mt1 1)) = .ok () (W.alloc (.map mt2 2)) := MapOne.run_insert_new (P := Try.prog) (es := mt1) (clock := 1) (key := 2) Try.underlying100 Try.underlying3 rfl W n hn (.func (.func 63) #[] #[])
theorem mins3 (W : World) (n : Nat) (hn : W.heap.size = n) : (Instr.mapUpdate 100 (.map (some n)) (.int .i64 3) (.func (.func 64) #[] #[])).run Try.prog (W.alloc (.map mt2 2)) = .ok () (W.alloc (.map mt3 3)) := MapOne.run_insert_new (P := Try.prog) (es := mt2) (clock := 2) (key := 3) Try.underlying100 Try.underlying3 rfl W n hn (.func (.func 64) #[] #[])
theorem mins4 (W : World) (n : Nat) (hn : W.heap.size = n) : (Instr.mapUpdate 100 (.map (some n)) (.int .i64 4) (.func (.func 65) #[] #[])).run Try.prog (W.alloc (.map mt3 3)) = .ok () (W.alloc (.map mt4 4)) := MapOne.run_insert_new (P := Try.prog) (es := mt3) (clock := 3) (key := 4) Try.underlying100 Try.underlying3 rfl W n hn (.func (.func 65) #[] #[])
theorem mins5 (W : World) (n : Nat) (hn : W.heap.size = n) : (Instr.mapUpdate 100 (.map (some n)) (.int .i64 5) (.func (.func 66) #[] #[])).run Try.prog (W.alloc (.map mt4 4)) = .ok () (W.alloc (.map mt5 5)) := MapOne.run_insert_new (P := Try.prog) (es := mt4) (clock := 4) (key := 5) Try.underlying100 Try.underlying3 rfl W n hn (.func (.func 66) #[] #[])
theorem mzero (w : World) : (zeroValue 99).run Try.prog w = .ok .nilFunc w := by kernel_rfl
theorem run_look1 {mty kt et : TypeId} {kd : IntKind} {P : Program} (hm : P.underlying mty = some (.map kt et)) (hk : P.underlying kt = some (.int kd)) {es : Array MapEntry} {clock n : Nat} {key : Int} {W : World} (hb : W.heap[n]? = some (.map es clock)) {i : Nat} {v : Value} (hf : Instr.findNow (.int kd) (.int kd key) es.toList 0 = some (some (i, v))) :
    (Instr.lookup mty (.map (some n)) (.int kd key) false).run P W = .ok v W := by
  have hc : ∀ b, (Instr.checkKey b 10000 kt (.int kd key)).run P W = .ok () W := fun b => MapKept.run_checkKey (k := .int kd key) hk (by simp [MapKept.IsKey]) b 9999
  simp [Instr.lookup, run_underlying hm, MapKept.run_getObj_map hb, hc, MapKept.run_findKey hk hf, Result.andThen]
theorem run_look0 {mty kt et : TypeId} {kd : IntKind} {P : Program} (hm : P.underlying mty = some (.map kt et)) (hk : P.underlying kt = some (.int kd)) {es : Array MapEntry} {clock n : Nat} {key : Int} {W : World} (hb : W.heap[n]? = some (.map es clock)) {z : Value} (hz : (zeroValue et).run P W = .ok z W) (hf : Instr.findNow (.int kd) (.int kd key) es.toList 0 = some none) :
    (Instr.lookup mty (.map (some n)) (.int kd key) false).run P W = .ok z W := by
  have hc : ∀ b, (Instr.checkKey b 10000 kt (.int kd key)).run P W = .ok () W := fun b => MapKept.run_checkKey (k := .int kd key) hk (by simp [MapKept.IsKey]) b 9999
  simp [Instr.lookup, run_underlying hm, MapKept.run_getObj_map hb, hc, MapKept.run_findKey hk hf, hz, Result.andThen]
theorem mlook1 {n : Nat} {W : World} {clock : Nat} (hb : W.heap[n]? = some (.map mt5 clock)) : (Instr.lookup 100 (.map (some n)) (.int .i64 1) false).run Try.prog W = .ok (.func (.func 62) #[] #[]) W := run_look1 (P := Try.prog) (key := 1) Try.underlying100 Try.underlying3 hb (i := 0) rfl
theorem mlook2 {n : Nat} {W : World} {clock : Nat} (hb : W.heap[n]? = some (.map mt5 clock)) : (Instr.lookup 100 (.map (some n)) (.int .i64 2) false).run Try.prog W = .ok (.func (.func 63) #[] #[]) W := run_look1 (P := Try.prog) (key := 2) Try.underlying100 Try.underlying3 hb (i := 1) rfl
theorem mlook3 {n : Nat} {W : World} {clock : Nat} (hb : W.heap[n]? = some (.map mt5 clock)) : (Instr.lookup 100 (.map (some n)) (.int .i64 3) false).run Try.prog W = .ok (.func (.func 64) #[] #[]) W := run_look1 (P := Try.prog) (key := 3) Try.underlying100 Try.underlying3 hb (i := 2) rfl
theorem mlook4 {n : Nat} {W : World} {clock : Nat} (hb : W.heap[n]? = some (.map mt5 clock)) : (Instr.lookup 100 (.map (some n)) (.int .i64 4) false).run Try.prog W = .ok (.func (.func 65) #[] #[]) W := run_look1 (P := Try.prog) (key := 4) Try.underlying100 Try.underlying3 hb (i := 3) rfl
theorem mlook5 {n : Nat} {W : World} {clock : Nat} (hb : W.heap[n]? = some (.map mt5 clock)) : (Instr.lookup 100 (.map (some n)) (.int .i64 5) false).run Try.prog W = .ok (.func (.func 66) #[] #[]) W := run_look1 (P := Try.prog) (key := 5) Try.underlying100 Try.underlying3 hb (i := 4) rfl
theorem mlook0 (k : Int) (hk : k < 1 ∨ 5 < k) {n : Nat} {W : World} {clock : Nat} (hb : W.heap[n]? = some (.map mt5 clock)) : (Instr.lookup 100 (.map (some n)) (.int .i64 k) false).run Try.prog W = .ok .nilFunc W := by
  have hf : Instr.findNow (.int .i64) (.int .i64 k) mt5.toList 0 = some none := by
    simp [mt5, ment, Instr.findNow, Instr.sameNow, beq_eq_false_iff_ne.mpr (show k ≠ 1 by omega), beq_eq_false_iff_ne.mpr (show k ≠ 2 by omega), beq_eq_false_iff_ne.mpr (show k ≠ 3 by omega), beq_eq_false_iff_ne.mpr (show k ≠ 4 by omega), beq_eq_false_iff_ne.mpr (show k ≠ 5 by omega)]
  exact run_look0 (P := Try.prog) (key := k) Try.underlying100 Try.underlying3 hb (mzero W) hf
set_option maxRecDepth 100000 in
set_option maxHeartbeats 4000000 in
theorem modes_run (w : World) : Calls Try.prog 43 #[] w fun e w' => e = .returned (.map (some w.heap.size)) ∧ w' = w.alloc (.map mt5 5) := by
  have hmm := @run_makeMap Try.prog
  have hi1 := mins1
  have hi2 := mins2
  have hi3 := mins3
  have hi4 := mins4
  have hi5 := mins5
  go_enter Try.func43, Try.ntmps43
  go_wp2
  go_ret
  exact ⟨rfl, rfl⟩
/-! ### One tick in plain numbers -/
def modeS (mode cat left call ask : Int) (rest : Bool) : Int × Int × Int :=
  if mode = 1 then (if call < 3 then (if rest = true then (endMode call, call, 0) else (3, call, 60)) else if ask = 1 then (2, cat, left) else (mode, cat, left))
  else if mode = 2 then (if call < 3 then (3, call, 60) else (mode, cat, left))
  else if mode = 3 then (if rest = true then (endMode (if call < cat then call else cat), (if call < cat then call else cat), 0) else if (if 0 < left then left - 1 else left) = 0 then (mode, 0, (if 0 < left then left - 1 else left)) else (mode, (if call < cat then call else cat), (if 0 < left then left - 1 else left)))
  else if mode = 4 then (if ask = 4 ∧ rest = true ∧ call = 3 then (1, 0, 0) else (mode, cat, left))
  else if mode = 5 then (if call < 2 then (4, call, left) else if ask = 4 ∧ rest = true ∧ call = 3 then (1, 0, 0) else (mode, cat, left))
  else (mode, cat, left)
def PostM (W : World) (B : Nat) (x : Int × Int × Int) (t0 t1 : Int) (lv : Value) (ask : Int) (rest : Bool) (call : Int) : Ending → World → Prop := Post W B x.1 x.2.1 x.2.2 t0 t1 lv ask rest call
theorem idleM (B : Nat) (cat left : Int) (cv : Value) (t0 t1 : Int) (lv : Value) (ask : Int) (rest : Bool) (call : Int) (W : World) (h : Wk W B 1 cat left cv t0 t1 lv ask rest call) (hgood : Good W cv) (hap : Apart B cv) (w0 : World) (A : Option Addr) (c_ : Nat) (l : List (Int × Int × Int × Int)) (he : Env w0 W B lv A c_ l) : Calls Try.prog 62 #[.pointer (some ⟨B, 0, none⟩)] W (PostM W B (modeS 1 cat left call ask rest) t0 t1 lv ask rest call) := by
  have hr := idle_run B 1 cat left cv t0 t1 lv ask rest call W h hgood hap w0 A c_ l he
  unfold modeS
  rw [if_pos rfl]
  by_cases c1 : call < 3
  · rw [if_pos c1] at hr ⊢
    cases rest with
    | true => rw [if_pos rfl] at hr ⊢; exact hr
    | false => rw [if_neg (by decide)] at hr ⊢; exact hr
  · rw [if_neg c1] at hr ⊢
    by_cases c2 : ask = 1
    · rw [if_pos c2] at hr ⊢; exact hr
    · rw [if_neg c2] at hr ⊢; exact hr
theorem movingM (B : Nat) (cat left : Int) (cv : Value) (t0 t1 : Int) (lv : Value) (ask : Int) (rest : Bool) (call : Int) (W : World) (h : Wk W B 2 cat left cv t0 t1 lv ask rest call) (hgood : Good W cv) (hap : Apart B cv) (w0 : World) (A : Option Addr) (c_ : Nat) (l : List (Int × Int × Int × Int)) (he : Env w0 W B lv A c_ l) : Calls Try.prog 63 #[.pointer (some ⟨B, 0, none⟩)] W (PostM W B (modeS 2 cat left call ask rest) t0 t1 lv ask rest call) := by
  have hr := moving_run B 2 cat left cv t0 t1 lv ask rest call W h hgood hap w0 A c_ l he
  unfold modeS
  rw [if_neg (by decide)]; rw [if_pos rfl]
  by_cases c1 : call < 3
  · rw [if_pos c1] at hr ⊢; exact hr
  · rw [if_neg c1] at hr ⊢; exact hr
theorem stoppingM (B : Nat) (cat left : Int) (cv : Value) (t0 t1 : Int) (lv : Value) (ask : Int) (rest : Bool) (call : Int) (W : World) (h : Wk W B 3 cat left cv t0 t1 lv ask rest call) (hgood : Good W cv) (hap : Apart B cv) (w0 : World) (A : Option Addr) (c_ : Nat) (l : List (Int × Int × Int × Int)) (he : Env w0 W B lv A c_ l) (hl0 : 0 ≤ left) (hl1 : left ≤ 1000) : Calls Try.prog 64 #[.pointer (some ⟨B, 0, none⟩)] W (PostM W B (modeS 3 cat left call ask rest) t0 t1 lv ask rest call) := by
  have hr := stopping_run B 3 cat left cv t0 t1 lv ask rest call W h hgood hap w0 A c_ l he hl0 hl1 _ _ rfl rfl
  unfold modeS
  rw [if_neg (by decide)]; rw [if_neg (by decide)]; rw [if_pos rfl]
  generalize (if 0 < left then left - 1 else left) = L at hr ⊢
  generalize (if call < cat then call else cat) = C at hr ⊢
  cases rest with
  | true => rw [if_pos rfl] at hr ⊢; exact hr
  | false =>
    rw [if_neg (by decide)] at hr ⊢
    by_cases c2 : L = 0
    · rw [if_pos c2] at hr ⊢; exact hr
    · rw [if_neg c2] at hr ⊢; exact hr
theorem stoppedM (B : Nat) (cat left : Int) (cv : Value) (t0 t1 : Int) (lv : Value) (ask : Int) (rest : Bool) (call : Int) (W : World) (h : Wk W B 4 cat left cv t0 t1 lv ask rest call) (hgood : Good W cv) (hap : Apart B cv) (w0 : World) (A : Option Addr) (c_ : Nat) (l : List (Int × Int × Int × Int)) (he : Env w0 W B lv A c_ l) : Calls Try.prog 65 #[.pointer (some ⟨B, 0, none⟩)] W (PostM W B (modeS 4 cat left call ask rest) t0 t1 lv ask rest call) := by
  have hr := stopped_run B 4 cat left cv t0 t1 lv ask rest call W h hgood hap
  unfold modeS
  rw [if_neg (by decide)]; rw [if_neg (by decide)]; rw [if_neg (by decide)]; rw [if_pos rfl]
  by_cases c1 : ask = 4 ∧ rest = true ∧ call = 3
  · rw [if_pos c1] at hr ⊢; exact hr
  · rw [if_neg c1] at hr ⊢; exact hr
theorem holdingM (B : Nat) (cat left : Int) (cv : Value) (t0 t1 : Int) (lv : Value) (ask : Int) (rest : Bool) (call : Int) (W : World) (h : Wk W B 5 cat left cv t0 t1 lv ask rest call) (hgood : Good W cv) (hap : Apart B cv) (w0 : World) (A : Option Addr) (c_ : Nat) (l : List (Int × Int × Int × Int)) (he : Env w0 W B lv A c_ l) : Calls Try.prog 66 #[.pointer (some ⟨B, 0, none⟩)] W (PostM W B (modeS 5 cat left call ask rest) t0 t1 lv ask rest call) := by
  have hr := holding_run B 5 cat left cv t0 t1 lv ask rest call W h hgood hap w0 A c_ l he
  unfold modeS
  rw [if_neg (by decide)]; rw [if_neg (by decide)]; rw [if_neg (by decide)]; rw [if_neg (by decide)]; rw [if_pos rfl]
  by_cases c1 : call < 2
  · rw [if_pos c1] at hr ⊢; exact hr
  · rw [if_neg c1] at hr ⊢
    by_cases c2 : ask = 4 ∧ rest = true ∧ call = 3
    · rw [if_pos c2] at hr ⊢; exact hr
    · rw [if_neg c2] at hr ⊢; exact hr
theorem modeS_other {mode : Int} (h : mode < 1 ∨ 5 < mode) (cat left call ask : Int) (rest : Bool) : modeS mode cat left call ask rest = (mode, cat, left) := by
  unfold modeS
  rw [if_neg (by omega), if_neg (by omega), if_neg (by omega), if_neg (by omega), if_neg (by omega)]
/-- The demanded category. -/
def callL (l : List (Int × Int × Int × Int)) : Int := l.foldl (fun c x => worstL c (catOf x.1)) 3
def callS (l : List (Int × Int × Int × Int)) (ask : Int) : Int := if ask = 2 then worstL (callL l) 2 else if ask = 3 then worstL (callL l) 1 else callL l
end Go.Proofs.Ythmddbffhbfmeaa.Sup
