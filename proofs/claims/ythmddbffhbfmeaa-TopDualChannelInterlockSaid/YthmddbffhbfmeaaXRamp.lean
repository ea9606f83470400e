/- A ramp: the search over speeds and accelerations, with a map of what has been met, and the way back. -/
import Derived.Test.YthmddbffhbfmeaaXProfile
import Derived.Test.YthmddbffhbfmeaaWWords
import Derived.Test.YthmddbffhbfmeaaWEqStruct
import Derived.Test.YthmddbffhbfmeaaWGuard
import Derived.KernelRfl
import Derived.Maps.OwnOps
import Derived.MapKept
import Derived.Sort.WalkB12
import Derived.Lib.SlicesMore
import Derived.RegionTactic
import Derived.ChangeAlike
import Derived.WalkKit
import Derived.Deep.LoopGhost
import Derived.Lib.Walk
import Derived.Carry
namespace Go.Proofs.Ythmddbffhbfmeaa.Ramp
set_option linter.unusedVariables false
set_option linter.unusedSimpArgs false
open Go Go.RowKit Go.Proofs.YthmddbffhbfmeaaW.PrintWords Go.Proofs.Ythmddbffhbfmeaa.Ticks
def skey (x : Int × Int) : Value := .agg #[.int .i64 x.1, .int .i64 x.2]
theorem check (b : Bool) (x : Int × Int) (w : World) : (Instr.checkKey b 10000 122 (skey x)).run Try.prog w = .ok () w := by kernel_rfl
theorem eqA88 (d : Nat) (w : World) (x0 y0 : Int) (x1 y1 : Int) :
    (Op.equalIn (d + 2) 122 (.agg #[.int .i64 x0, .int .i64 x1]) (.agg #[.int .i64 y0, .int .i64 y1])).run Try.prog w = .ok (x0 == y0 && (x1 == y1)) w := by
  refine eqA_of Try.underlying122 (by kernel_rfl) ?_
  refine eqf_cons (by rfl) (by go_simp; rfl) (by go_simp; rfl) (by go_simp) ?_
  exact eqf_last (by rfl) (by go_simp; rfl) (by go_simp; rfl) (by go_simp)
theorem equal_key (x y : Int × Int) (w : World) : (Op.equal 122 (skey x) (skey y)).run Try.prog w = .ok (x.1 == y.1 && (x.2 == y.2)) w := eqA88 9998 w _ _ _ _
/-- Block b is a map that holds just the keys K, each with true. -/
def HasMap (W : World) (b : Nat) (K : List (Int × Int)) : Prop := ∃ es clock, W.heap[b]? = some (.map es clock) ∧ es.toList.map (fun e => (e.key, e.val)) = K.map (fun k => (skey k, Value.bool true))
theorem find_asking (x : Int × Int) (w : World) : ∀ (es : List MapEntry) (K : List (Int × Int)) (i : Nat), es.map (fun e => (e.key, e.val)) = K.map (fun k => (skey k, Value.bool true)) →
    (x ∈ K → ∃ j, (Instr.findAsking 122 (skey x) es i).run Try.prog w = .ok (some (j, .bool true)) w) ∧ (x ∉ K → (Instr.findAsking 122 (skey x) es i).run Try.prog w = .ok none w) := by
  intro es
  induction es with
  | nil =>
    intro K i h
    cases K with
    | cons => simp at h
    | nil => exact ⟨fun h => by simp at h, fun _ => rfl⟩
  | cons e es ih =>
    intro K i h
    cases K with
    | nil => simp at h
    | cons y K =>
      simp only [List.map_cons, List.cons.injEq, Prod.mk.injEq] at h
      obtain ⟨⟨h1, h2⟩, h3⟩ := h
      have he := equal_key x y w
      have hrun : (Instr.findAsking 122 (skey x) (e :: es) i).run Try.prog w = if (x.1 == y.1 && (x.2 == y.2)) = true then .ok (some (i, e.val)) w else (Instr.findAsking 122 (skey x) es (i + 1)).run Try.prog w := by
        by_cases c : (x.1 == y.1 && (x.2 == y.2)) = true
        · rw [if_pos c]
          rw [c] at he
          simp [Instr.findAsking, h1, he]
        · rw [if_neg c]
          rw [Bool.eq_false_iff.2 c] at he
          simp [Instr.findAsking, h1, he]
      obtain ⟨i1, i2⟩ := ih K (i + 1) h3
      by_cases c : x = y
      · subst c
        refine ⟨fun _ => ⟨i, ?_⟩, fun hn => absurd List.mem_cons_self hn⟩
        rw [hrun, if_pos (by simp), h2]
      · have hc : ¬ (x.1 == y.1 && (x.2 == y.2)) = true := by
          simp only [Bool.and_eq_true, beq_iff_eq]
          exact fun h => c (Prod.ext h.1 h.2)
        refine ⟨fun hm => ?_, fun hn => ?_⟩
        · rw [hrun, if_neg hc]
          exact i1 ((List.mem_cons.1 hm).resolve_left c)
        · rw [hrun, if_neg hc]
          exact i2 (fun h => hn (List.mem_cons_of_mem _ h))

theorem find_key (x : Int × Int) (w : World) (es : List MapEntry) : (Instr.findKey 122 (skey x) es).run Try.prog w = (Instr.findAsking 122 (skey x) es).run Try.prog w := by
  cases es with
  | nil => simp [Instr.findKey, run_underlying Try.underlying122, Instr.findNow, Instr.findAsking]
  | cons e es => simp [Instr.findKey, run_underlying Try.underlying122, Instr.findNow, Instr.sameNow]
theorem HasMap.look {W : World} {b : Nat} {K : List (Int × Int)} (h : HasMap W b K) (x : Int × Int) : (Instr.lookup 126 (.map (some b)) (skey x) false).run Try.prog W = .ok (.bool (decide (x ∈ K))) W := by
  obtain ⟨es, clock, hb, hes⟩ := h
  obtain ⟨h1, h2⟩ := find_asking x W es.toList K 0 hes
  have hk := find_key x W es.toList
  have hc := check es.isEmpty x W
  have hz : (zeroValue 4).run Try.prog W = .ok (.bool false) W := by kernel_rfl
  by_cases c : x ∈ K
  · obtain ⟨j, hj⟩ := h1 c
    rw [hj] at hk
    simp [Instr.lookup, run_underlying Try.underlying126, MapKept.run_getObj_map hb, hc, hk, c]
  · rw [h2 c] at hk
    simp [Instr.lookup, run_underlying Try.underlying126, MapKept.run_getObj_map hb, hc, hk, c, hz]
theorem HasMap.put {W : World} {b : Nat} {K : List (Int × Int)} (h : HasMap W b K) (x : Int × Int) (hx : x ∉ K) : ∃ W', (Instr.mapUpdate 126 (.map (some b)) (skey x) (.bool true)).run Try.prog W = .ok () W' ∧ HasMap W' b (K ++ [x]) ∧ W.grownBy W' (some b) := by
  obtain ⟨es, clock, hb, hes⟩ := h
  obtain ⟨h1, h2⟩ := find_asking x W es.toList K 0 hes
  have hk := find_key x W es.toList
  have hc := check false x W
  rw [h2 hx] at hk
  refine ⟨W.putObj b (.map (es.push { key := skey x, val := .bool true, born := clock }) (clock + 1)), ?_, ?_, ?_⟩
  · simp [Instr.mapUpdate, run_underlying Try.underlying126, MapKept.run_getObj_map hb, hc, hk, MapKept.run_setObj_map _ hb, World.putObj]
  · refine ⟨es.push { key := skey x, val := .bool true, born := clock }, clock + 1, ?_, by simp [hes]⟩
    show (W.heap.setIfInBounds b _)[b]? = _
    rw [Array.getElem?_setIfInBounds_self_of_lt (Array.getElem?_eq_some_iff.1 hb).1]
  · exact grownBy_putObj' W b _

theorem HasMap.kept {W W' : World} {b : Nat} {K : List (Int × Int)} {row : Option Nat} (h : HasMap W b K) (hg : W.grownBy W' row) (hr : row ≠ some b) : HasMap W' b K := by
  obtain ⟨es, clock, hb, hes⟩ := h
  exact ⟨es, clock, (hg.block b (Array.getElem?_eq_some_iff.1 hb).1 (fun e => hr e.symm)).trans hb, hes⟩
theorem HasMap.below {B : Nat} {W W' : World} {b : Nat} {K : List (Int × Int)} (h : HasMap W b K) (hB : Below B W W') (hb : b < B) : HasMap W' b K := by
  obtain ⟨es, clock, hh, hes⟩ := h
  exact ⟨es, clock, (hB.block b hb).trans hh, hes⟩
theorem HasMap.lt {W : World} {b : Nat} {K : List (Int × Int)} (h : HasMap W b K) : b < W.heap.size := by
  obtain ⟨es, clock, hb, _⟩ := h
  exact (Array.getElem?_eq_some_iff.1 hb).1
theorem HasMap.not_row {W : World} {b base e size n : Nat} {K : List (Int × Int)} (h : HasMap W b K) {v : Value} {xs : List Value} (hr : W.ownsRow base e size v n xs) : v.ownBlock ≠ some b := by
  obtain ⟨es, clock, hb, _⟩ := h
  obtain ⟨_, ⟨rfl, _⟩ | ⟨g, cap, cur, rfl, _, hg, _⟩⟩ := hr
  · simp [Value.ownBlock]
  · intro e
    obtain rfl : g = b := by simpa [Value.ownBlock] using e
    rw [hb] at hg
    cases hg

/-! ### slices.Reverse at []int -/
open Go.Sort Go.Lib in
set_option maxHeartbeats 1600000 in
theorem reverse_arr (blk off cap : Nat) (d : Array Int) (w : World) (hH : Holds encI w blk off d) (hsz : d.size ≤ 9223372036854775807) :
    Calls Try.prog 60 #[.slice (some ⟨blk, off, none⟩) d.size cap] w fun e w' => e = .returned (.tuple #[]) ∧ ∃ n, w' = putRow encI (Sort.ahead w n) blk off d.reverse := by
  go_enter Try.func60, Try.ntmps60
  go_wp2
  go_loopg [2, 3] d.size (fun k s2 s3 wr => ∃ (i jn : Nat) (jz : Int) (dk : Array Int) (n : Nat), s2 = .int .i64 i ∧ s3 = .int .i64 jz ∧ ((i : Int) < jz → jz = jn ∧ jn < d.size) ∧ (¬ (i : Int) < jz → ¬ i < jn) ∧ jn - i ≤ k ∧
    dk.size = d.size ∧ wr = putRow encI (Sort.ahead w n) blk off dk ∧ reverseLoop i jn dk = reverseLoop 0 (d.size - 1) d)
  case atStart => exact ⟨0, d.size - 1, (d.size : Int) - 1, d, 0, rfl, rfl, fun h => ⟨by omega, by omega⟩, fun h => by omega, by omega, rfl, (putRow_self encI w blk off d hH).symm, rfl⟩
  case round =>
    obtain ⟨i, jn, jz, dk, n, rfl, rfl, h1, h2, hk, hds, hwr, heq⟩ := hrel
    by_cases hlt : (i : Int) < jz
    · obtain ⟨rfl, hjn⟩ := h1 hlt
      have hij : i < jn := by omega
      have hHk : Holds encI wr blk off dk := by rw [hwr]; exact holds_putRow encI _ blk off d dk (holds_ahead encI w n blk off d hH) hds
      obtain ⟨ci, fi⟩ := hHk i (by omega)
      obtain ⟨cj, fj⟩ := hHk jn (by omega)
      have A : Aside (wr = putRow encI (Sort.ahead w n) blk off dk) := hwr
      clear hwr hHk hH h1 h2
      go_wp2_with fail
      go_region
      go_wp2
      go_roundg (jn - 1 - (i + 1))
      case measure => omega
      case rel =>
        rw [reverseLoop, if_pos hij] at heq
        exact ⟨i + 1, jn - 1, (jn : Int) - 1, swp dk i jn, n + 1, by simp, rfl, fun h => ⟨by omega, by omega⟩, fun h => by omega, Nat.le_refl _, by rw [size_swp]; exact hds,
          swap_world encI (by omega) (by omega) A.out (by first | rfl | simp [encI, getElem!_pos, show jn < dk.size by omega]) (by first | rfl | simp [encI, getElem!_pos, show i < dk.size by omega]), heq⟩
    · have hnot := h2 hlt
      go_wp2
      go_end0
      refine ⟨rfl, n, ?_⟩
      rw [reverseLoop, if_neg hnot] at heq
      rw [← Lib.reverseLoop_reverse, ← heq]

set_option maxHeartbeats 1000000 in
theorem reverse_nil (w : World) : Calls Try.prog 60 #[.slice none 0 0] w fun e w' => e = .returned (.tuple #[]) ∧ w' = w := by
  go_enter Try.func60, Try.ntmps60
  go_wp2
  go_loopg [2, 3] 0 (fun _ s2 s3 wr => s2 = .int .i64 0 ∧ s3 = .int .i64 (-1) ∧ wr = w)
  case atStart => exact ⟨rfl, rfl, rfl⟩
  case round =>
    obtain ⟨rfl, rfl, rfl⟩ := hrel
    go_wp2
    go_end0
    exact ⟨rfl, rfl⟩
open Go.Sort Go.Lib in
theorem reverse_own {base : Nat} {v : Value} {zs : List Int} {W : World} (h : W.ownsRow base 3 1 v zs.length (zs.map (Value.int .i64))) (hn : zs.length ≤ 1000000000000) :
    Calls Try.prog 60 #[v] W fun e W' => e = .returned (.tuple #[]) ∧ W'.ownsRow base 3 1 v zs.length (zs.reverse.map (Value.int .i64)) ∧ W.grownBy W' v.ownBlock := by
  obtain ⟨h1, ⟨rfl, h2⟩ | ⟨g, cap, cur, rfl, hg, hb, hc, hm, hs, ht⟩⟩ := h
  · have hz : zs = [] := List.length_eq_zero_iff.1 h2
    subst hz
    refine (reverse_nil W).mono ?_
    rintro e w' ⟨rfl, rfl⟩
    exact ⟨rfl, ⟨by simp, .inl ⟨rfl, rfl⟩⟩, ⟨rfl, rfl, rfl, Nat.le_refl _, fun _ _ _ => rfl⟩⟩
  · rw [Nat.mul_one] at ht hs
    have hget : ∀ j (hj : j < zs.length), cur[j]? = some (.int .i64 zs[j]) := by
      intro j hj
      have e1 : (cur.toList.take zs.length)[j]? = some (.int .i64 zs[j]) := by rw [ht]; simp [hj]
      rw [List.getElem?_take, if_pos hj] at e1
      simpa using e1
    have hH : Holds encI W g 0 zs.toArray := by
      intro j hj
      have hj' : j < zs.length := by simpa using hj
      refine ⟨?_, blk_frozen hb _⟩
      rw [Nat.zero_add]
      refine (blk_cell hb j).trans ?_
      rw [hget j hj']
      simp [encI, hj']
    have hcall := reverse_arr g 0 cap zs.toArray W hH (by simp; omega)
    rw [show zs.toArray.size = zs.length from rfl] at hcall
    refine hcall.mono ?_
    rintro e w' ⟨rfl, n, rfl⟩
    have hb2 : (putRow encI (Sort.ahead W n) g 0 zs.toArray.reverse).heap[g]? = some (.cells (putCells encI 0 zs.toArray.reverse cur) 3 (0, 0)) := by
      simp only [putRow, mapBlock, Sort.heap_ahead, Array.getElem?_modify, if_true, hb, Option.map_some, onCells]
    refine ⟨rfl, ⟨by simp, .inr ⟨g, cap, _, rfl, hg, hb2, hc, hm, by simp [putCells, hs], ?_⟩⟩, ⟨rfl, rfl, rfl, by simp, ?_⟩⟩
    · apply List.ext_getElem?
      intro j
      by_cases hj : j < zs.length
      · rw [List.getElem?_take, if_pos (by omega)]
        simp only [putCells, Array.getElem?_toList, Array.getElem?_mapIdx, hget j hj, Option.map_some]
        rw [if_pos ⟨Nat.zero_le _, by simp; exact hj⟩]
        simp [encI, hj]
      · rw [List.getElem?_take, if_neg (by omega), List.getElem?_eq_none (by simp; omega)]
    · intro k hk hne
      simp only [putRow, mapBlock, Sort.heap_ahead, Array.getElem?_modify]
      rw [if_neg (fun e => hne (by rw [← e]; rfl))]

/-! ### The nodes -/
structure Rw where
  v : Int
  a : Int
  fr : Int
  jk : Int
def rcells (l : List Rw) : List Value := l.flatMap fun x => [.int .i64 x.v, .int .i64 x.a, .int .i64 x.fr, .int .i64 x.jk]
theorem rcells_snoc (l : List Rw) (x : Rw) : rcells (l ++ [x]) = rcells l ++ [.int .i64 x.v, .int .i64 x.a, .int .i64 x.fr, .int .i64 x.jk] := by simp [rcells]
theorem rcells_length (l : List Rw) : (rcells l).length = l.length * 4 := by
  induction l with
  | nil => rfl
  | cons x l ih => rw [rcells, List.flatMap_cons, List.length_append]; show 4 + (rcells l).length = _; rw [ih, List.length_cons]; omega
theorem rcells_at (l : List Rw) (i : Nat) (x : Rw) (h : l[i]? = some x) : (rcells l)[i * 4]? = some (.int .i64 x.v) ∧ (rcells l)[i * 4 + 1]? = some (.int .i64 x.a) ∧ (rcells l)[i * 4 + 2]? = some (.int .i64 x.fr) ∧ (rcells l)[i * 4 + 3]? = some (.int .i64 x.jk) := by
  induction l generalizing i with
  | nil => simp at h
  | cons y l ih =>
    have e : rcells (y :: l) = [.int .i64 y.v, .int .i64 y.a, .int .i64 y.fr, .int .i64 y.jk] ++ rcells l := rfl
    cases i with
    | zero =>
      obtain rfl : y = x := by simpa using h
      exact ⟨rfl, rfl, rfl, rfl⟩
    | succ i =>
      have := ih i (by simpa using h)
      rw [e]
      refine ⟨?_, ?_, ?_, ?_⟩
      · rw [List.getElem?_append_right (by simp; omega)]; simpa [show (i + 1) * 4 - 4 = i * 4 by omega] using this.1
      · rw [List.getElem?_append_right (by simp; omega)]; simpa [show (i + 1) * 4 + 1 - 4 = i * 4 + 1 by omega] using this.2.1
      · rw [List.getElem?_append_right (by simp; omega)]; simpa [show (i + 1) * 4 + 2 - 4 = i * 4 + 2 by omega] using this.2.2.1
      · rw [List.getElem?_append_right (by simp; omega)]; simpa [show (i + 1) * 4 + 3 - 4 = i * 4 + 3 by omega] using this.2.2.2
/-- The cells of a node in the row that the slice owns. -/
theorem row_cells {W : World} {base n : Nat} {g cap : Nat} {l : List Rw} (h : W.ownsRow base 124 4 (.slice (some ⟨g, 0, none⟩) n cap) n (rcells l)) (i : Nat) (x : Rw) (hx : l[i]? = some x) :
    W.cell? ⟨g, i * 4, none⟩ = some (.int .i64 x.v) ∧ W.cell? ⟨g, i * 4 + 1, none⟩ = some (.int .i64 x.a) ∧ W.cell? ⟨g, i * 4 + 2, none⟩ = some (.int .i64 x.fr) ∧ W.cell? ⟨g, i * 4 + 3, none⟩ = some (.int .i64 x.jk) := by
  obtain ⟨h1, ⟨h2, _⟩ | ⟨g', cap', cur, h2, hg, hb, hc, hm, hs, ht⟩⟩ := h
  · cases h2
  · injection h2 with e1 e2 e3
    cases e1
    have hl := rcells_length l
    have hi : i < l.length := (List.getElem?_eq_some_iff.1 hx).1
    obtain ⟨c0, c1, c2, c3⟩ := rcells_at l i x hx
    have key : ∀ j u, (rcells l)[j]? = some u → W.cell? ⟨g, j, none⟩ = some u := by
      intro j u hu
      rw [← ht, List.getElem?_take] at hu
      split at hu
      · exact (blk_cell hb j).trans (by simpa using hu)
      · cases hu
    exact ⟨key _ _ c0, key _ _ c1, key _ _ c2, key _ _ c3⟩
def rdR (l : List Rw) (i : Int) : Rw := l.getD i.toNat ⟨0, 0, 0, 0⟩
theorem rdR_at {l : List Rw} {i : Nat} (h : i < l.length) : l[i]? = some (rdR l (i : Int)) := by
  rw [rdR, Int.toNat_natCast, List.getD_eq_getElem?_getD, List.getElem?_eq_getElem h]
  rfl
/-- The jerks on the way back from a node. -/
def backL : Nat → List Rw → Int → List Int → Option (List Int)
  | 0, _, _, _ => none
  | k + 1, rows, at_, acc => if 0 ≤ at_ ∧ at_ < rows.length then (if (rdR rows at_).fr ≥ 0 then (if acc.length < 1000000000000 then backL k rows (rdR rows at_).fr (acc ++ [(rdR rows at_).jk]) else none) else some acc.reverse) else none
theorem info3 : (Try.prog.info? 3).map (fun i => (i.zero, i.size, i.bytes)) = some (some (.int .i64 0), 1, 8) := by kernel_rfl
theorem info90 : (Try.prog.info? 124).map (fun i => (i.zero, i.size, i.bytes)) = some (some (.agg #[.int .i64 0, .int .i64 0, .int .i64 0, .int .i64 0]), 4, 32) := by kernel_rfl

theorem one_new (W : World) (x : Int) (t : Nat) : ∀ (j : Nat) (u : Value), [Value.int .i64 x][j]? = some u → (W.alloc (.cells #[.int .i64 x] t (0, 0))).cell? ((⟨W.heap.size, 0, none⟩ : Addr).add j) = some u := by
  intro j u hj
  have hb := heap_alloc_new W (.cells #[.int .i64 x] t (0, 0))
  match j, hj with
  | 0, hj => exact (blk_cell hb 0).trans (by simpa using hj)
  | k + 1, hj => simp at hj
set_option maxRecDepth 100000 in
set_option maxHeartbeats 4000000 in
/-- The closure 'back': the jerks from the start to a node. -/
theorem back_run (br g cap : Nat) (rows : List Rw) (at_ : Int) (k : Nat) (r : List Int) (W : World) (hbox : Boxed W br 125 (.slice (some ⟨g, 0, none⟩) rows.length cap)) (base : Nat) (hrow : W.ownsRow base 124 4 (.slice (some ⟨g, 0, none⟩) rows.length cap) rows.length (rcells rows)) (hlen : rows.length ≤ 1000000000000) (h : backL k rows at_ [] = some r) :
    Calls Try.prog 59 #[.int .i64 at_, .pointer (some ⟨br, 0, none⟩)] W fun e W' => ∃ v, e = .returned v ∧ W'.ownsRow W.heap.size 3 1 v r.length (r.map (Value.int .i64)) ∧ Below W.heap.size W W' := by
  obtain ⟨i0, hi, hz0, hz1, hz2⟩ := info_parts info3
  have hbc := hbox.cell
  have hbl : br < W.heap.size := World.block_lt_of_cell? W _ hbc
  go_enter Try.func59, Try.ntmps59
  go_wp2
  have HX := Aside0.mk hbc
  have HB0 := Aside0.mk hbl
  clear hbc hbl hbox
  have HR := Aside0.mk hrow
  clear hrow
  go_loopg [0, 4] k (fun kk s0 s4 wr => ∃ (q : Int) (acc : List Int), s0 = .int .i64 q ∧ Aside0 (backL kk rows q acc = some r) ∧ Aside0 (acc.length ≤ 1000000000000) ∧ Aside0 (wr.ownsRow W.heap.size 3 1 s4 acc.length (acc.map (Value.int .i64))) ∧ Aside0 (Below W.heap.size W wr))
  case atStart => exact ⟨at_, [], rfl, ⟨h⟩, ⟨by simp⟩, ⟨⟨by simp, .inl ⟨rfl, rfl⟩⟩⟩, ⟨Below.refl _ _⟩⟩
  case round =>
    obtain ⟨q, acc, rfl, H, hAL, hown, hB⟩ := hrel
    cases gk with
    | zero => exact absurd H.out (by simp [backL])
    | succ kk =>
      have H1 := H.out
      clear H
      rw [backL] at H1
      by_cases hin : 0 ≤ q ∧ q < (rows.length : Int)
      · rw [if_pos hin] at H1
        obtain ⟨j, rfl⟩ : ∃ j : Nat, q = (j : Int) := ⟨q.toNat, by omega⟩
        have hj : j < rows.length := by omega
        obtain ⟨x, hx⟩ : ∃ x, rdR rows (j : Int) = x := ⟨_, rfl⟩
        have hxa := rdR_at hj
        rw [hx] at hxa H1
        obtain ⟨_, _, c2, c3⟩ := row_cells HR.out j x hxa
        have w2 := (hB.out.cell (World.block_lt_of_cell? W _ c2)).trans c2
        have w3 := (hB.out.cell (World.block_lt_of_cell? W _ c3)).trans c3
        have wx := (hB.out.cell (show (⟨br, 0, none⟩ : Addr).block < W.heap.size from HB0.out)).trans HX.out
        have C2 := Aside0.mk c2
        clear hx hxa c2 c3
        by_cases hf : x.fr ≥ 0
        · rw [if_pos hf] at H1
          by_cases hl : acc.length < 1000000000000
          · rw [if_pos hl] at H1
            have H2 := Aside0.mk H1
            clear H1
            have hown1 := hown.out
            have hbs := hB.out.size
            go_wp2_with (at_builtin; refine wpList_append_own _ rfl _ _ 27 rfl W.heap.size 3 i0 (.int .i64 0) 1 8 Try.underlying27 hi hz0 hz1 hz2 rfl (by decide) _ _ _ rfl (hown1.alloc _) ⟨wr.heap.size, 0, none⟩ 1 1 [.int .i64 x.jk] rfl rfl (one_new wr _ _) (by simp [Value.oneCell']) (by simp only [maxLen]; omega) (by omega) (by simp; omega) ?_; intro v' w1 hown' hgrow _; have hB1 := Aside0.mk (below_row (hB.out.alloc hbs _) hgrow (fun r e => (hown1.lt r e).1)); have w2' := (hB1.out.cell (World.block_lt_of_cell? W _ C2.out)).trans C2.out; have wx' := (hB1.out.cell (show (⟨br, 0, none⟩ : Addr).block < W.heap.size from HB0.out)).trans HX.out; have HO := Aside0.mk hown'; clear hown' hgrow)
            go_roundg kk
            case measure => omega
            case rel => exact ⟨x.fr, acc ++ [x.jk], rfl, H2, ⟨by simp; omega⟩, ⟨by simpa using HO.out⟩, hB1⟩
          · rw [if_neg hl] at H1
            cases H1
        · rw [if_neg hf] at H1
          have H2 := Aside0.mk H1
          clear H1
          have hown1 := hown.out
          go_wp2_with (go_at_call 60; refine (reverse_own hown1 hAL.out).mono ?_; rintro e w1 ⟨rfl, ho, hg⟩)
          go_ret
          obtain rfl := Option.some.inj H2.out
          exact ⟨u4, rfl, by rw [List.length_reverse]; exact ho, below_row hB.out hg (fun r e => (hown1.lt r e).1)⟩
      · rw [if_neg hin] at H1
        cases H1
def stOf (x : Rw) : Int × Int := (x.v, x.a)
def stepL (A J : Int) (i : Int) : Nat → List Rw → Int → Option (List Rw)
  | 0, _, _ => none
  | k + 1, rows, b => if b ≤ J then (if wrap64 (-A) ≤ wrap64 ((rdR rows i).a + b) ∧ wrap64 ((rdR rows i).a + b) ≤ A ∧ (wrap64 ((rdR rows i).v + wrap64 ((rdR rows i).a + b)), wrap64 ((rdR rows i).a + b)) ∉ rows.map stOf then
      (if rows.length < 1000000000000 then stepL A J i k (rows ++ [⟨wrap64 ((rdR rows i).v + wrap64 ((rdR rows i).a + b)), wrap64 ((rdR rows i).a + b), i, b⟩]) (wrap64 (b + 1)) else none) else stepL A J i k rows (wrap64 (b + 1))) else some rows
def FUEL : Nat := 1000000000000
def rampL (A J : Int) : Nat → List Rw → Int → Option (List Int)
  | 0, _, _ => none
  | k + 1, rows, i => if i < rows.length then (if stOf (rdR rows i) = (0, 0) then backL FUEL rows i [] else (stepL A J i FUEL rows (wrap64 (-J))).bind fun rows' => rampL A J k rows' (wrap64 (i + 1))) else some []
structure RI (W : World) (V A J : Int) (rows : List Rw) (wr : World) : Prop where
  lim : wr.heap[W.heap.size]? = some (.cells #[.int .i64 V, .int .i64 A, .int .i64 J] 25 (0, 0))
  row : ∃ g cap, Boxed wr (W.heap.size + 3) 125 (.slice (some ⟨g, 0, none⟩) rows.length cap) ∧ wr.ownsRow W.heap.size 124 4 (.slice (some ⟨g, 0, none⟩) rows.length cap) rows.length (rcells rows)
  map : HasMap wr (W.heap.size + 4) (rows.map stOf)
  below : Below W.heap.size W wr
  len : rows.length ≤ 1000000000000
theorem wpList_insert88 (W : World) {ops : Array Oper} {rest : List Oper} {o : Oper} {a : Act} {Q : Exit → Act → World → Prop} (hg : o.guard = none) (m x : Operand) (hop : o.op = Op.insert 126 m x (.const (.bool true)))
    (b : Nat) (K : List (Int × Int)) (hm : a.eval m = .map (some b)) (hmap : HasMap W b K) (key : Int × Int) (hx : a.eval x = skey key) (hn : key ∉ K)
    (hK : ∀ W', HasMap W' b (K ++ [key]) → W.grownBy W' (some b) → wpList Try.prog ops Q rest (a.put o.dst undef) W') : wpList Try.prog ops Q (o :: rest) a W := by
  refine wpList_plain hg fun K' hK' => ?_
  obtain ⟨w', hrun, r1, r2⟩ := hmap.put key hn
  unfold Oper.wp
  have hv : a.eval (.const (.bool true)) = .bool true := rfl
  simp [execOp, hop, hm, hx, hv, hrun, Result.andThen]
  exact hK' _ _ (hK w' r1 r2)
theorem wpList_update88 (W : World) {ops : Array Oper} {rest : List Oper} {o : Oper} {a : Act} {Q : Exit → Act → World → Prop} (hg : o.guard = none) (m x : Operand) (hop : o.op = Op.mapUpdate 126 m x (.const (.bool true)))
    (b : Nat) (K : List (Int × Int)) (hm : a.eval m = .map (some b)) (hmap : HasMap W b K) (key : Int × Int) (hx : a.eval x = skey key) (hn : key ∉ K)
    (hK : ∀ W', HasMap W' b (K ++ [key]) → W.grownBy W' (some b) → wpList Try.prog ops Q rest (a.put o.dst undef) W') : wpList Try.prog ops Q (o :: rest) a W := by
  refine wpList_plain hg fun K' hK' => ?_
  obtain ⟨w', hrun, r1, r2⟩ := hmap.put key hn
  unfold Oper.wp
  have hv : a.eval (.const (.bool true)) = .bool true := rfl
  simp [execOp, hop, hm, hx, hv, hrun, Result.andThen]
  exact hK' _ _ (hK w' r1 r2)
theorem wpList_look88 (W : World) {ops : Array Oper} {rest : List Oper} {o : Oper} {a : Act} {Q : Exit → Act → World → Prop} (hg : o.guard = none) (m x : Operand) (hop : o.op = Op.lookup 126 m x false)
    (b : Nat) (K : List (Int × Int)) (hm : a.eval m = .map (some b)) (hmap : HasMap W b K) (key : Int × Int) (hx : a.eval x = skey key) (c : Bool) (hc : decide (key ∈ K) = c)
    (hK : wpList Try.prog ops Q rest (a.put o.dst (.bool c)) W) : wpList Try.prog ops Q (o :: rest) a W := by
  refine wpList_plain hg fun K' hK' => ?_
  have hrun := hmap.look key
  rw [hc] at hrun
  unfold Oper.wp
  simp [execOp, hop, hm, hx, hrun, Result.andThen]
  exact hK' _ _ hK
theorem gate_insert {P : Program} {ops : Array Oper} {rest : List Oper} {o : Oper} {a : Act} {Q : Exit → Act → World → Prop} {W : World} {t : TypeId} {m x v : Operand} (_ho : o.op = .insert t m x v) (h : wpList P ops Q (o :: rest) a W) : wpList P ops Q (o :: rest) a W := h
theorem gate_update {P : Program} {ops : Array Oper} {rest : List Oper} {o : Oper} {a : Act} {Q : Exit → Act → World → Prop} {W : World} {t : TypeId} {m x v : Operand} (_ho : o.op = .mapUpdate t m x v) (h : wpList P ops Q (o :: rest) a W) : wpList P ops Q (o :: rest) a W := h
theorem gate_look {P : Program} {ops : Array Oper} {rest : List Oper} {o : Oper} {a : Act} {Q : Exit → Act → World → Prop} {W : World} {t : TypeId} {m x : Operand} {c : Bool} (_ho : o.op = .lookup t m x c) (h : wpList P ops Q (o :: rest) a W) : wpList P ops Q (o :: rest) a W := h
theorem hasMap_made (W : World) (b : Nat) (h : b = W.heap.size) : HasMap (W.alloc (.map #[] 0)) b [] := ⟨#[], 0, by rw [h]; exact heap_alloc_new W _, rfl⟩
theorem row_made (W : World) (base : Nat) (x : Rw) (hb : base ≤ W.heap.size) : (W.alloc (.cells #[.int .i64 x.v, .int .i64 x.a, .int .i64 x.fr, .int .i64 x.jk] 124 (0, 0))).ownsRow base 124 4 (.slice (some ⟨W.heap.size, 0, none⟩) 1 1) 1 (rcells [x]) :=
  ⟨rfl, .inr ⟨W.heap.size, 1, _, rfl, hb, heap_alloc_new W _, Nat.le_refl _, by simp [maxLen], rfl, rfl⟩⟩
theorem ri_start (W W' : World) (V A J p v a : Int) (hm : HasMap W' (W.heap.size + 4) [(v, a)])
    (hg : (((((W.alloc (Obj.cells #[Value.int .i64 V, Value.int .i64 A, Value.int .i64 J] 25 (0, 0))).alloc (Obj.cells #[Value.int .i64 p, Value.int .i64 v, Value.int .i64 a] 31 (0, 0))).alloc (Obj.cells #[Value.int .i64 v, Value.int .i64 a, Value.int .i64 (-1), Value.int .i64 0] 124 (0, 0))).alloc (Obj.cells #[Value.slice (some ⟨W.heap.size + 1 + 1, 0, none⟩) 1 1] 125 (0, 0))).alloc (Obj.map #[] 0)).grownBy W' (some (W.heap.size + 4))) :
    RI W V A J [⟨v, a, -1, 0⟩] W' := by
  obtain ⟨b0, b1, b2, b3, b4, hsz, hB⟩ := lies5 W _ _ _ _ _ _ rfl
  refine ⟨(hg.block _ (by omega) (by simp)).trans b0, ⟨W.heap.size + 2, 1, (hg.block _ (by omega) (by simp)).trans b3, rfl, .inr ⟨W.heap.size + 2, 1, _, rfl, by omega, (hg.block _ (by omega) (by simp)).trans b2, Nat.le_refl _, by simp [maxLen], rfl, rfl⟩⟩, hm, below_row hB hg (fun r e => by cases e; omega), by simp⟩
theorem lower {W : World} {b c e size n : Nat} {v : Value} {xs : List Value} (h : W.ownsRow b e size v n xs) (hc : c ≤ b) : W.ownsRow c e size v n xs := by
  obtain ⟨h1, h2 | ⟨g, cap, cur, e1, hg, h3⟩⟩ := h
  · exact ⟨h1, .inl h2⟩
  · exact ⟨h1, .inr ⟨g, cap, cur, e1, Nat.le_trans hc hg, h3⟩⟩
theorem RI.alloc {W wr : World} {V A J : Int} {rows : List Rw} (h : RI W V A J rows wr) (o : Obj) : RI W V A J rows (wr.alloc o) := by
  obtain ⟨g, cap, hb, hr⟩ := h.row
  exact ⟨(Below.heap_alloc wr o _ (blk_lt h.lim)).trans h.lim, ⟨g, cap, hb.alloc o, hr.alloc o⟩, h.map.kept (World.grownBy_alloc wr o none) (by simp), h.below.alloc h.below.size o, h.len⟩
theorem RI.push {W wr : World} {V A J : Int} {rows : List Rw} (h : RI W V A J rows wr) {g cap : Nat} (hbox : Boxed wr (W.heap.size + 3) 125 (.slice (some ⟨g, 0, none⟩) rows.length cap)) (hrow : wr.ownsRow W.heap.size 124 4 (.slice (some ⟨g, 0, none⟩) rows.length cap) rows.length (rcells rows)) (x : Rw) (o1 : Obj) {W2 : World}
    (hm2 : HasMap W2 (W.heap.size + 4) (rows.map stOf ++ [stOf x])) (hg2 : (wr.alloc o1).grownBy W2 (some (W.heap.size + 4))) (o2 : Obj) {w3 : World} {u : Value}
    (hown : w3.ownsRow W.heap.size 124 4 u (rows.length + 1) (rcells rows ++ [.int .i64 x.v, .int .i64 x.a, .int .i64 x.fr, .int .i64 x.jk])) (hg3 : (W2.alloc o2).grownBy w3 (some g)) (hl : rows.length < 1000000000000) :
    RI W V A J (rows ++ [x]) (w3.setCell ⟨W.heap.size + 3, 0, none⟩ u) := by
  have hgt : ∃ cur, wr.heap[g]? = some (.cells cur 124 (0, 0)) ∧ W.heap.size ≤ g := by
    obtain ⟨_, ⟨h1, _⟩ | ⟨g', cap', cur, h1, hg, hb, _⟩⟩ := hrow
    · cases h1
    · injection h1 with e1
      cases e1
      exact ⟨cur, hb, hg⟩
  obtain ⟨cur, hgb, hgl⟩ := hgt
  have n0 : g ≠ W.heap.size := fun e => by rw [e, h.lim] at hgb; cases hgb
  have n3 : g ≠ W.heap.size + 3 := fun e => by
    have hb : wr.heap[W.heap.size + 3]? = _ := hbox
    rw [e, hb] at hgb
    cases hgb
  have n4 : g ≠ W.heap.size + 4 := fun e => by
    obtain ⟨es, clock, hb, _⟩ := h.map
    rw [e, hb] at hgb
    cases hgb
  obtain ⟨g', cap', rfl⟩ := ownsRow_succ hown
  have hA1 := World.grownBy_alloc wr o1 none
  have hA2 := World.grownBy_alloc W2 o2 none
  have hS := grownBy_setCell' w3 (W.heap.size + 3) (.slice (some ⟨g', 0, none⟩) (rows.length + 1) cap')
  have hbx3 : Boxed w3 (W.heap.size + 3) 125 (.slice (some ⟨g, 0, none⟩) rows.length cap) := (((hbox.kept hA1 (by simp)).kept hg2 (by simp)).kept hA2 (by simp)).kept hg3 (by simp; omega)
  have l1 := (hA1.block _ (blk_lt h.lim) (by simp)).trans h.lim
  have l2 := (hg2.block _ (blk_lt l1) (by simp)).trans l1
  have l3 := (hA2.block _ (blk_lt l2) (by simp)).trans l2
  have l4 := (hg3.block _ (blk_lt l3) (by simp; omega)).trans l3
  have l5 := (hS.block _ (blk_lt l4) (by simp)).trans l4
  refine ⟨l5, ⟨g', cap', ?_, ?_⟩, ?_, ?_, by simp; omega⟩
  · rw [List.length_append]
    exact hbx3.set _
  · have hnr := row_not hbx3 (by decide) hown
    rw [rcells_snoc, List.length_append]
    exact rowGrown hown hS (fun b hb e => hnr (by rw [e]; exact hb.symm))
  · rw [List.map_append]
    exact ((hm2.kept hA2 (by simp)).kept hg3 (by simp; omega)).kept hS (by simp)
  · exact below_grown (below_row (below_row (below_row (h.below.alloc h.below.size o1) hg2 (fun r e => by cases e; omega)) hA2 (fun r e => by cases e)) hg3 (fun r e => by cases e; exact hgl)) hS (by omega)
theorem row_after {W wr : World} {V A J : Int} {rows : List Rw} (h : RI W V A J rows wr) {g cap : Nat} (hrow : wr.ownsRow W.heap.size 124 4 (.slice (some ⟨g, 0, none⟩) rows.length cap) rows.length (rcells rows)) (o1 : Obj) {W2 : World} (hg2 : (wr.alloc o1).grownBy W2 (some (W.heap.size + 4))) :
    W2.ownsRow W.heap.size 124 4 (.slice (some ⟨g, 0, none⟩) rows.length cap) rows.length (rcells rows) := by
  have hn := h.map.not_row hrow
  exact rowGrown (hrow.alloc o1) hg2 (fun b hb e => hn (by rw [hb]; exact congrArg _ (Option.some.inj e).symm))
theorem four_new (W : World) (x y z u : Int) (t : Nat) : ∀ (j : Nat) (q : Value), [Value.int .i64 x, .int .i64 y, .int .i64 z, .int .i64 u][j]? = some q → (W.alloc (.cells #[.int .i64 x, .int .i64 y, .int .i64 z, .int .i64 u] t (0, 0))).cell? ((⟨W.heap.size, 0, none⟩ : Addr).add j) = some q := by
  intro j q hj
  have hb := heap_alloc_new W (.cells #[.int .i64 x, .int .i64 y, .int .i64 z, .int .i64 u] t (0, 0))
  match j, hj with
  | 0, hj => exact (blk_cell hb 0).trans (by simpa using hj)
  | 1, hj => exact (blk_cell hb 1).trans (by simpa using hj)
  | 2, hj => exact (blk_cell hb 2).trans (by simpa using hj)
  | 3, hj => exact (blk_cell hb 3).trans (by simpa using hj)
  | k + 4, hj => simp at hj
theorem next_cells {wr W2 : World} {b n : Nat} {x y : Int} (hg2 : (wr.alloc (.cells #[.int .i64 x, .int .i64 y] 122 (0, 0))).grownBy W2 (some b)) (hb : b < wr.heap.size) (hn : n = wr.heap.size) : W2.cell? ⟨n, 0, none⟩ = some (.int .i64 x) ∧ W2.cell? ⟨n, 1, none⟩ = some (.int .i64 y) := by
  subst hn
  have h := (hg2.block wr.heap.size (by simp) (by simp; omega)).trans (heap_alloc_new wr _)
  exact ⟨(blk_cell h 0).trans rfl, (blk_cell h 1).trans rfl⟩
attribute [local go_sem high] eqA88
set_option maxRecDepth 100000 in
set_option maxHeartbeats 4000000 in
theorem ramp_run (V A J p v a : Int) (k : Nat) (r : List Int) (W : World) (h : rampL A J k [⟨v, a, -1, 0⟩] 0 = some r) :
    Calls Try.prog 40 #[.agg #[.int .i64 V, .int .i64 A, .int .i64 J], .agg #[.int .i64 p, .int .i64 v, .int .i64 a]] W fun e W' => ∃ v, e = .returned v ∧ W'.ownsRow W.heap.size 3 1 v r.length (r.map (Value.int .i64)) ∧ Below W.heap.size W W' := by
  have hmm := @run_makeMap Try.prog
  obtain ⟨i0, hi, hz0, hz1, hz2⟩ := info_parts info90
  go_enter Try.func40, Try.ntmps40
  go_wp2_with ((with_reducible refine gate_insert (t := 126) rfl ?_); (refine wpList_insert88 _ rfl _ _ rfl (W.heap.size + 1 + 1 + 1 + 1) [] rfl (hasMap_made _ _ (by simp)) (v, a) rfl (by simp) ?_); intro W5 hm5 hg5; have hri := ri_start W W5 V A J p v a hm5 hg5; clear hm5 hg5)
  have HH := Aside0.mk h
  clear h
  have HRI := Aside0.mk hri
  clear hri
  go_loopg [8] k (fun kk s8 wr => ∃ (i : Nat) (rows : List Rw), s8 = .int .i64 i ∧ Aside0 (rampL A J kk rows (i : Int) = some r) ∧ Aside0 (RI W V A J rows wr))
  case atStart => exact ⟨0, _, rfl, HH, HRI⟩
  case round =>
    obtain ⟨i, rows, rfl, H, hri⟩ := hrel
    cases gk with
    | zero => exact absurd H.out (by simp [rampL])
    | succ kk =>
      have H1 := H.out
      clear H
      rw [rampL] at H1
      obtain ⟨g, cap, hbox, hrow⟩ := hri.out.row
      have hb0 := hri.out.below
      have hlen := hri.out.len
      have wx := hbox.cell
      have ROW := Aside0.mk hrow
      have BOX := Aside0.mk hbox
      clear hbox hrow
      by_cases hlt : (i : Int) < (rows.length : Int)
      · rw [if_pos hlt] at H1
        have hj : i < rows.length := by omega
        obtain ⟨x, hx⟩ : ∃ x, rdR rows (i : Int) = x := ⟨_, rfl⟩
        have hxa := rdR_at hj
        rw [hx] at hxa H1
        obtain ⟨c0, c1, c2, c3⟩ := row_cells ROW.out i x hxa
        by_cases hz : stOf x = (0, 0)
        · rw [if_pos hz] at H1
          have H2 := Aside0.mk H1
          clear H1
          have z0 : x.v = 0 := congrArg Prod.fst hz
          have z1 : x.a = 0 := congrArg Prod.snd hz
          rw [z0] at c0
          rw [z1] at c1
          clear hx hxa hz z0 z1 c2 c3
          go_wp2_with (go_at_call 59; refine (back_run (W.heap.size + 3) g cap rows (i : Int) FUEL r wr BOX.out W.heap.size ROW.out hlen H2.out).mono ?_; rintro e w1 ⟨u, rfl, ho, hb⟩)
          go_ret
          exact ⟨u, rfl, lower ho hb0.size, hb0.trans (hb.mono hb0.size)⟩
        · rw [if_neg hz] at H1
          obtain ⟨rows', hs, H1'⟩ := Option.bind_eq_some_iff.mp H1
          clear H1
          have H2 := Aside0.mk H1'
          have HS := Aside0.mk hs
          clear H1' hs
          have hzb : (x.v == 0 && (x.a == 0)) = false := by
            rw [Bool.eq_false_iff]
            intro e
            simp only [Bool.and_eq_true, beq_iff_eq] at e
            exact hz (Prod.ext e.1 e.2)
          have HXA := Aside0.mk hxa
          have hl := hri.out.lim
          have l0 : wr.cell? ⟨W.heap.size, 0, none⟩ = some (.int .i64 V) := (blk_cell hl 0).trans rfl
          have l1 : wr.cell? ⟨W.heap.size, 1, none⟩ = some (.int .i64 A) := (blk_cell hl 1).trans rfl
          have l2 : wr.cell? ⟨W.heap.size, 2, none⟩ = some (.int .i64 J) := (blk_cell hl 2).trans rfl
          clear hl hx hxa hz c2 c3
          go_wp2
          have hlim0 := Aside0.mk hri.out
          clear l0 l1 l2 c0 c1 wx hb0 hri ROW BOX
          obtain ⟨wo, hwo⟩ : ∃ wo : World, wo = wr := ⟨_, rfl⟩
          rw [← hwo] at hlim0 ⊢
          clear hwo
          go_loopg [9] FUEL (fun kk2 s9 wr2 => ∃ (b : Int) (rows1 : List Rw), s9 = .int .i64 b ∧ Aside0 (stepL A J (i : Int) kk2 rows1 b = some rows') ∧ Aside0 (rows1[i]? = some x) ∧ Aside0 (RI W V A J rows1 wr2))
          case atStart => exact ⟨_, rows, rfl, HS, HXA, hlim0⟩
          case round =>
            obtain ⟨b, rows1, rfl, S, X1, R1⟩ := hrel
            cases gk with
            | zero => exact absurd S.out (by simp [stepL])
            | succ kk2 =>
              have S1 := S.out
              clear S
              rw [stepL] at S1
              have hx1 : rdR rows1 (i : Int) = x := by
                have h1 := X1.out
                have h2 := rdR_at (l := rows1) (i := i) (List.getElem?_eq_some_iff.1 h1).1
                rw [h1] at h2
                exact (Option.some.inj h2).symm
              rw [hx1] at S1
              clear hx1
              obtain ⟨g, cap, hbox, hrow⟩ := R1.out.row
              have hb0 := R1.out.below
              have hlen := R1.out.len
              have hi1 : i < rows1.length := (List.getElem?_eq_some_iff.1 X1.out).1
              obtain ⟨c0, c1, _, _⟩ := row_cells hrow i x X1.out
              have hl := R1.out.lim
              have l1 : wr.cell? ⟨W.heap.size, 1, none⟩ = some (.int .i64 A) := (blk_cell hl 1).trans rfl
              have l2 : wr.cell? ⟨W.heap.size, 2, none⟩ = some (.int .i64 J) := (blk_cell hl 2).trans rfl
              have wx := hbox.cell
              have ROW := Aside0.mk hrow
              have BOX := Aside0.mk hbox
              have hbs := hb0.size
              have hl0 := blk_lt hl
              have l1' : ∀ o, (wr.alloc o).cell? ⟨W.heap.size, 1, none⟩ = some (.int .i64 A) := fun o => (World.cell?_of_block (Below.heap_alloc wr o _ hl0)).trans l1
              have l2' : ∀ o, (wr.alloc o).cell? ⟨W.heap.size, 2, none⟩ = some (.int .i64 J) := fun o => (World.cell?_of_block (Below.heap_alloc wr o _ hl0)).trans l2
              clear hl hbox hrow
              by_cases hbJ : b ≤ J
              · rw [if_pos hbJ] at S1
                by_cases t1 : wrap64 (-A) ≤ wrap64 (x.a + b)
                · by_cases t2 : wrap64 (x.a + b) ≤ A
                  · by_cases t3 : (wrap64 (x.v + wrap64 (x.a + b)), wrap64 (x.a + b)) ∈ rows1.map stOf
                    · rw [if_neg (fun h => h.2.2 t3)] at S1
                      have S2 := Aside0.mk S1
                      have T3 := Aside0.mk t3
                      clear S1 t3
                      go_wp2_with ((with_reducible refine gate_look (t := 126) rfl ?_); (try (refine gate_guard (by rfl) ?_; dsimp only)); refine wpList_look88 _ rfl _ _ rfl (W.heap.size + 1 + 1 + 1 + 1) (rows1.map stOf) rfl (R1.out.alloc _).map (wrap64 (x.v + wrap64 (x.a + b)), wrap64 (x.a + b)) rfl true (decide_eq_true T3.out) ?_)
                      go_roundg kk2
                      case measure => omega
                      case rel => exact ⟨_, rows1, rfl, S2, X1, ⟨R1.out.alloc _⟩⟩
                    · rw [if_pos ⟨t1, t2, t3⟩] at S1
                      by_cases hl9 : rows1.length < 1000000000000
                      · rw [if_pos hl9] at S1
                        have S2 := Aside0.mk S1
                        have T3 := Aside0.mk t3
                        have HL9 := Aside0.mk hl9
                        have HML := Aside0.mk R1.out.map.lt
                        clear S1 t3 hl9
                        go_wp2_with (first | ((with_reducible refine gate_look (t := 126) rfl ?_); (try (refine gate_guard (by rfl) ?_; dsimp only)); refine wpList_look88 _ rfl _ _ rfl (W.heap.size + 1 + 1 + 1 + 1) (rows1.map stOf) rfl (R1.out.alloc _).map (wrap64 (x.v + wrap64 (x.a + b)), wrap64 (x.a + b)) rfl false (decide_eq_false T3.out) ?_) | ((with_reducible refine gate_update (t := 126) rfl ?_); refine wpList_update88 _ rfl _ _ rfl (W.heap.size + 1 + 1 + 1 + 1) (rows1.map stOf) rfl (R1.out.alloc _).map (wrap64 (x.v + wrap64 (x.a + b)), wrap64 (x.a + b)) rfl T3.out ?_; intro W2 hm2 hg2; have HM2 := Aside0.mk hm2; have HG2 := Aside0.mk hg2; have bx2 := (BOX.out.alloc (.cells #[.int .i64 (wrap64 (x.v + wrap64 (x.a + b))), .int .i64 (wrap64 (x.a + b))] 122 (0, 0))).kept hg2 (by simp); have wx2 := bx2.cell; have BX2 := Aside0.mk bx2; obtain ⟨nx0, nx1⟩ := next_cells hg2 HML.out rfl; have HR2 := Aside0.mk (row_after R1.out ROW.out _ hg2); have hs2 := hg2.size; have HS2 := Aside0.mk (show W.heap.size ≤ W2.heap.size by simp at hs2; omega); clear hm2 hg2 bx2 hs2) | (at_builtin; refine wpList_append_own _ rfl _ _ 125 rfl W.heap.size 124 i0 (.agg #[.int .i64 0, .int .i64 0, .int .i64 0, .int .i64 0]) 4 32 Try.underlying125 hi hz0 hz1 hz2 rfl (by decide) _ _ _ rfl (HR2.out.alloc _) ⟨W2.heap.size, 0, none⟩ 1 1 [.int .i64 (wrap64 (x.v + wrap64 (x.a + b))), .int .i64 (wrap64 (x.a + b)), .int .i64 (i : Int), .int .i64 b] rfl rfl (four_new W2 _ _ _ _ _) (by simp [Value.oneCell']) (by have := HL9.out; simp only [maxLen]; omega) (by have := HL9.out; omega) (by have := HS2.out; simp; omega) ?_; intro u w3 hown3 hg3 _; obtain ⟨g9, cap9, rfl⟩ := ownsRow_succ hown3; have bx3 := (BX2.out.alloc (.cells #[.int .i64 (wrap64 (x.v + wrap64 (x.a + b))), .int .i64 (wrap64 (x.a + b)), .int .i64 (i : Int), .int .i64 b] 124 (0, 0))).kept hg3 (row_not BX2.out (by decide) HR2.out); have wx3 := bx3.cell; have fx3 := bx3.frozen; have HO3 := Aside0.mk hown3; have HG3 := Aside0.mk hg3; clear hown3 hg3 bx3))
                        go_roundg kk2
                        case measure => omega
                        case rel => exact ⟨_, rows1 ++ [⟨wrap64 (x.v + wrap64 (x.a + b)), wrap64 (x.a + b), (i : Int), b⟩], rfl, S2, ⟨by rw [List.getElem?_append_left hi1]; exact X1.out⟩, ⟨R1.out.push BOX.out ROW.out ⟨wrap64 (x.v + wrap64 (x.a + b)), wrap64 (x.a + b), (i : Int), b⟩ _ HM2.out HG2.out _ HO3.out HG3.out HL9.out⟩⟩
                      · rw [if_neg hl9] at S1
                        cases S1
                  · rw [if_neg (fun h => t2 h.2.1)] at S1
                    have S2 := Aside0.mk S1
                    clear S1
                    go_wp2
                    go_roundg kk2
                    case measure => omega
                    case rel => exact ⟨_, rows1, rfl, S2, X1, ⟨R1.out.alloc _⟩⟩
                · rw [if_neg (fun h => t1 h.1)] at S1
                  have S2 := Aside0.mk S1
                  clear S1
                  go_wp2
                  go_roundg kk2
                  case measure => omega
                  case rel => exact ⟨_, rows1, rfl, S2, X1, ⟨R1.out.alloc _⟩⟩
              · rw [if_neg hbJ] at S1
                obtain rfl := Option.some.inj S1
                clear S1
                go_wp2
                go_roundg kk
                case measure => omega
                case rel =>
                  have e : wrap64 ((i : Int) + 1) = ((i + 1 : Nat) : Int) := by unfold wrap64; omega
                  exact ⟨i + 1, rows1, by go_num, ⟨by rw [← e]; exact H2.out⟩, R1⟩
      · rw [if_neg hlt] at H1
        obtain rfl := Option.some.inj H1
        clear H1
        go_wp2
        go_ret
        exact ⟨_, rfl, ⟨rfl, .inl ⟨rfl, rfl⟩⟩, hb0⟩
end Go.Proofs.Ythmddbffhbfmeaa.Ramp
