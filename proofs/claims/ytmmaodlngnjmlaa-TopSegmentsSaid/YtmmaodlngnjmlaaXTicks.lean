/- The profile's iterator: one tick, the closure that hands over each jerk with the state behind it: for every profile and every body of a loop over it. -/
import Derived.Test.YtmmaodlngnjmlaaXRange
import Derived.Test.YtmmaodlngnjmlaaWWords
import Derived.Test.YtmmaodlngnjmlaaProg
import Derived.RegionTactic
import Derived.ChangeAlike
import Derived.WalkLawsBesides
import Derived.Outline
namespace Go.Proofs.Ytmmaodlngnjmlaa.Ticks
open Go Go.RowKit Go.Proofs.Ytmmaodlngnjmlaa.Rng Go.Proofs.YtmmaodlngnjmlaaW.PrintWords
attribute [local go_sem] Oper.semAt_some

/-- The block of a motion. -/
def Mot (W : World) (b t : Nat) (p v a : Int) : Prop := W.heap[b]? = some (.cells #[.int .i64 p, .int .i64 v, .int .i64 a] t (0, 0))
theorem Mot.c0 {W : World} {b t : Nat} {p v a : Int} (h : Mot W b t p v a) : W.cell? ⟨b, 0, none⟩ = some (.int .i64 p) := (blk_cell h 0).trans rfl
theorem Mot.c1 {W : World} {b t : Nat} {p v a : Int} (h : Mot W b t p v a) : W.cell? ⟨b, 1, none⟩ = some (.int .i64 v) := (blk_cell h 1).trans rfl
theorem Mot.c2 {W : World} {b t : Nat} {p v a : Int} (h : Mot W b t p v a) : W.cell? ⟨b, 2, none⟩ = some (.int .i64 a) := (blk_cell h 2).trans rfl
theorem Mot.fz {W : World} {b t : Nat} {p v a : Int} (h : Mot W b t p v a) (j : Nat) : W.frozen? ⟨b, j, none⟩ = false := blk_frozen h j
theorem Mot.lt {W : World} {b t : Nat} {p v a : Int} (h : Mot W b t p v a) : b < W.heap.size := blk_lt h
theorem grown_set (W : World) (b j : Nat) (v : Value) : W.grownBy (W.setCell ⟨b, j, none⟩ v) (some b) :=
  ⟨rfl, rfl, rfl, (KeepsWalks.setCell W _ v).size, fun k _ hk => Below.heap_setCell _ _ _ k (fun e => hk (by have e' : k = b := e; rw [e']))⟩

theorem tick_run (b : Nat) (p v a j : Int) (W : World) (h0 : W.cell? ⟨b, 0, none⟩ = some (.int .i64 p)) (h1 : W.cell? ⟨b, 1, none⟩ = some (.int .i64 v)) (h2 : W.cell? ⟨b, 2, none⟩ = some (.int .i64 a))
    (f0 : W.frozen? ⟨b, 0, none⟩ = false) (f1 : W.frozen? ⟨b, 1, none⟩ = false) (f2 : W.frozen? ⟨b, 2, none⟩ = false) :
    Calls Try.prog 77 #[.pointer (some ⟨b, 0, none⟩), .int .i64 j] W fun e w' => e = .returned (.tuple #[]) ∧
      w' = (((W.setCell ⟨b, 2, none⟩ (.int .i64 (wrap64 (a + j)))).setCell ⟨b, 1, none⟩ (.int .i64 (wrap64 (v + wrap64 (a + j))))).setCell ⟨b, 0, none⟩ (.int .i64 (wrap64 (p + wrap64 (v + wrap64 (a + j)))))).drew.drew := by
  go_enter Try.func77, Try.ntmps77
  go_wp2
  go_region
  go_wp2
  go_region
  go_wp2
  go_end0
  exact ⟨rfl, rfl⟩
/-- One tick. -/
theorem tick (b : Nat) (p v a j : Int) (W : World) (h : Mot W b 132 p v a) :
    Calls Try.prog 77 #[.pointer (some ⟨b, 0, none⟩), .int .i64 j] W fun e w' => e = .returned (.tuple #[]) ∧
      Mot w' b 132 (wrap64 (p + wrap64 (v + wrap64 (a + j)))) (wrap64 (v + wrap64 (a + j))) (wrap64 (a + j)) ∧ W.grownBy w' (some b) := by
  refine (tick_run b p v a j W h.c0 h.c1 h.c2 (h.fz 0) (h.fz 1) (h.fz 2)).mono ?_
  rintro e w' ⟨rfl, rfl⟩
  have g2 := grown_set W b 2 (.int .i64 (wrap64 (a + j)))
  have b2 : (W.setCell ⟨b, 2, none⟩ (.int .i64 (wrap64 (a + j)))).heap[b]? = some (.cells #[.int .i64 p, .int .i64 v, .int .i64 (wrap64 (a + j))] 132 (0, 0)) := by simpa using blk_set h 2 (.int .i64 (wrap64 (a + j)))
  generalize (W.setCell ⟨b, 2, none⟩ (.int .i64 (wrap64 (a + j)))) = W2 at g2 b2 ⊢
  have g1 := grown_set W2 b 1 (.int .i64 (wrap64 (v + wrap64 (a + j))))
  have b1 : (W2.setCell ⟨b, 1, none⟩ (.int .i64 (wrap64 (v + wrap64 (a + j))))).heap[b]? = some (.cells #[.int .i64 p, .int .i64 (wrap64 (v + wrap64 (a + j))), .int .i64 (wrap64 (a + j))] 132 (0, 0)) := by simpa using blk_set b2 1 (.int .i64 (wrap64 (v + wrap64 (a + j))))
  generalize (W2.setCell ⟨b, 1, none⟩ (.int .i64 (wrap64 (v + wrap64 (a + j))))) = W1 at g1 b1 ⊢
  have g0 := grown_set W1 b 0 (.int .i64 (wrap64 (p + wrap64 (v + wrap64 (a + j)))))
  have b0 : (W1.setCell ⟨b, 0, none⟩ (.int .i64 (wrap64 (p + wrap64 (v + wrap64 (a + j)))))).heap[b]? = some (.cells #[.int .i64 (wrap64 (p + wrap64 (v + wrap64 (a + j)))), .int .i64 (wrap64 (v + wrap64 (a + j))), .int .i64 (wrap64 (a + j))] 132 (0, 0)) := by simpa using blk_set b1 0 (.int .i64 (wrap64 (p + wrap64 (v + wrap64 (a + j)))))
  exact ⟨rfl, b0, ((g2.trans g1).trans g0).trans ⟨rfl, rfl, rfl, Nat.le_refl _, fun _ _ _ => rfl⟩⟩

/-- The states behind each jerk, with the jerk. -/
def tr : Int → Int → Int → List Int → List (Int × Int × Int × Int)
  | _, _, _, [] => []
  | p, v, a, j :: l => (j, wrap64 (p + wrap64 (v + wrap64 (a + j))), wrap64 (v + wrap64 (a + j)), wrap64 (a + j)) :: tr (wrap64 (p + wrap64 (v + wrap64 (a + j)))) (wrap64 (v + wrap64 (a + j))) (wrap64 (a + j)) l
def enc (x : Int × Int × Int × Int) : Array Value := #[.int .i64 x.1, .agg #[.int .i64 x.2.1, .int .i64 x.2.2.1, .int .i64 x.2.2.2]]
/-- Where the loop of the iterator stands: what has come, the state, what is still to come. -/
structure At (p v a : Int) (xs : List Int) (k : Nat) (pre : List (Int × Int × Int × Int)) (q u b : Int) : Prop where
  all : tr p v a xs = pre ++ tr q u b (xs.drop k)
  len : pre.length = k
theorem At.zero (p v a : Int) (xs : List Int) : At p v a xs 0 [] p v a := ⟨rfl, rfl⟩
theorem At.next {p v a : Int} {xs : List Int} {k : Nat} {pre : List (Int × Int × Int × Int)} {q u b : Int} (h : At p v a xs k pre q u b) (hk : k < xs.length) (j : Int) (hj : rd xs k = j) :
    At p v a xs (k + 1) (pre ++ [(j, wrap64 (q + wrap64 (u + wrap64 (b + j))), wrap64 (u + wrap64 (b + j)), wrap64 (b + j))]) (wrap64 (q + wrap64 (u + wrap64 (b + j)))) (wrap64 (u + wrap64 (b + j))) (wrap64 (b + j)) := by
  refine ⟨?_, by simp [h.len]⟩
  have e : xs.drop k = j :: xs.drop (k + 1) := by
    rw [List.drop_eq_getElem_cons hk]
    congr 1
    rw [← hj]
    simp [rd, List.getD_eq_getElem?_getD, List.getElem?_eq_getElem hk]
  rw [h.all, e]
  simp [tr]
theorem tr_length (xs : List Int) : ∀ p v a, (tr p v a xs).length = xs.length := by
  induction xs with
  | nil => intro p v a; rfl
  | cons j l ih => intro p v a; simp [tr, ih]

set_option maxRecDepth 100000 in
set_option maxHeartbeats 4000000 in
theorem ticks1_some (n : Nat) (hn : 1 ≤ n) (l bm bl a0 : Nat) (p v a : Int) (ad : Addr) (xs : List Int) (cap : Nat) (J Jx : List (Int × Int × Int × Int) → World → Prop) (W : World) (hJ : Abide W.heap.size W.heap.size J)
    (hY : ∀ pre x W1, J pre W1 → W.heap.size < W1.heap.size → pre.length < xs.length → YieldAt Fence.wide (n - 1) Try.prog l (enc x) W1 fun e W' =>
      (e = .returned (.bool true) ∧ J (pre ++ [x]) W' ∧ Keep a0 W.heap.size W.heap.size W1 W') ∨ (e = .returned (.bool false) ∧ Jx (pre ++ [x]) W'))
    (hm : Mot W bm 33 p v a) (hl : W.heap[bl]? = some (.cells #[.slice (some ad) xs.length cap] 27 (0, 0))) (hA : 0 < xs.length → ad.block < a0) (hc : ∀ j, j < xs.length → W.cell? (ad.add j) = some (.int .i64 (rd xs j))) (ha0 : a0 ≤ W.heap.size) (hmax : xs.length ≤ 9223372036854775807) (h0 : J [] W) :
    CallsIn Fence.wide n Try.prog 76 #[.func (.yield l) #[] #[], .pointer (some ⟨bm, 0, none⟩), .pointer (some ⟨bl, 0, none⟩)] W fun e W' => (∃ v, e = .returned v) ∧
      ((∃ ys, ys = tr p v a xs ∧ J ys W') ∨ (∃ pre, pre <+: tr p v a xs ∧ Jx pre W')) := by
  have m0 := hm.c0
  have m1 := hm.c1
  have m2 := hm.c2
  have l0 : W.cell? ⟨bl, 0, none⟩ = some (.slice (some ad) xs.length cap) := (blk_cell hl 0).trans rfl
  have l1 : ∀ o, (W.alloc o).cell? ⟨bl, 0, none⟩ = some (.slice (some ad) xs.length cap) := fun o => (World.cell?_of_block (Below.heap_alloc W o bl (blk_lt hl))).trans l0
  clear l0
  refine callsIn_of_wp Try.func76 rfl trivial ?_ rfl
  simp only [Try.ntmps76, List.size_toArray, List.length_cons, List.length_nil, Nat.reduceAdd, Nat.reduceSub, Array.replicate_succ, Array.replicate_zero, List.push_toArray, List.append_toArray, List.nil_append, List.cons_append]
  gi_wp2
  have hJ' := Aside0.mk hJ
  clear hJ
  have hY' := Aside0.mk hY
  clear hY
  gi_loopw [11] (fun i wr => ∃ (k : Nat) (pre : List (Int × Int × Int × Int)) (q u b : Int), i = .int .i64 k ∧ k ≤ xs.length ∧ At p v a xs k pre q u b ∧ Mot wr W.heap.size 132 q u b ∧ J pre wr ∧ (∀ j, j < xs.length → wr.cell? (ad.add j) = some (.int .i64 (rd xs j))))
    (fun i _ => xs.length - (intOf i).toNat)
  case atStart => exact ⟨0, [], p, v, a, rfl, Nat.zero_le _, At.zero _ _ _ _, heap_alloc_new W _, hJ'.out.alloc _ h0, fun j hj => pw_cell_below ((Below.refl _ W).alloc (Nat.le_refl _) _) (hc j hj)⟩
  case round =>
    obtain ⟨k, pre, q, u, b, rfl, hk, hat, hmot, hj, hcell⟩ := hrel
    by_cases hlt : k < xs.length
    · have hck := hcell k hlt
      have hcellH := Aside0.mk hcell
      clear hcell
      obtain ⟨j, hjd⟩ : ∃ j, rd xs k = j := ⟨_, rfl⟩
      rw [hjd] at hck
      have hnext := hat.next hlt j hjd
      have hjdH := Aside0.mk hjd
      clear hjd
      gi_wp2_with (refine ⟨trivial, ?_⟩; gi_at_call 77; refine (callsIn_wide.2 (tick W.heap.size q u b j wr hmot)).mono ?_; rintro e w2 ⟨rfl, hm2, hg2⟩; have q0 := hm2.c0; have q1 := hm2.c1; have q2 := hm2.c2; have hm2H := Aside0.mk hm2; clear hm2; have hlt2 := hm2H.out.lt; obtain ⟨fn, tmps, assign, body, hy, hR⟩ := hY'.out pre (j, wrap64 (q + wrap64 (u + wrap64 (b + j))), wrap64 (u + wrap64 (b + j)), wrap64 (b + j)) w2 (hJ'.out _ _ _ _ hj hg2 (fun r e => by cases e; exact ⟨Nat.le_refl _, Nat.le_refl _⟩)) hlt2 (by rw [hat.len]; exact hlt); dsimp only [enc] at hy; have hRH := Aside0.mk hR; clear hR)
      refine hRH.out.mono ?_
      rintro e w3 (⟨rfl, hJ3, hk3⟩ | ⟨rfl, hJx3⟩)
      · have hb3 : Mot w3 W.heap.size 132 (wrap64 (q + wrap64 (u + wrap64 (b + j)))) (wrap64 (u + wrap64 (b + j))) (wrap64 (b + j)) := hk3.lift (.inr ⟨Nat.le_refl _, Nat.le_refl _⟩) hm2H.out
        have hc3 : ∀ j, j < xs.length → w3.cell? (ad.add j) = some (.int .i64 (rd xs j)) := fun i hi => by
          have ha : (ad.add i).block < a0 := (show (ad.add i).block = ad.block by unfold Addr.add; split <;> rfl) ▸ hA (by omega)
          exact hk3.cell (.inl ha) ((World.cell?_of_block (hg2.block _ (World.block_lt_of_cell? wr _ (hcellH.out i hi)) (fun e => by have e' : (ad.add i).block = W.heap.size := Option.some.inj e; omega))).trans (hcellH.out i hi))
        gi_wp2
        exact ⟨⟨k + 1, _, _, _, _, by go_num, by omega, hnext, hb3, hJ3, hc3⟩, by simp [intOf]; omega⟩
      · gi_wp2
        refine bodyPost_ret (results_none rfl _ _ _) rfl ⟨⟨_, rfl⟩, .inr ⟨_, ⟨_, hnext.all.symm⟩, hJx3⟩⟩
    · gi_wp2
      go_end0
      exact ⟨⟨_, rfl⟩, .inl ⟨pre, by rw [hat.all, List.drop_of_length_le (by omega)]; simp [tr], hj⟩⟩
set_option maxRecDepth 100000 in
set_option maxHeartbeats 4000000 in
theorem ticks1_nil (n : Nat) (l bm bl : Nat) (p v a : Int) (cap : Nat) (J Jx : List (Int × Int × Int × Int) → World → Prop) (W : World) (hJ : Abide W.heap.size W.heap.size J)
    (hm : Mot W bm 33 p v a) (hl : W.heap[bl]? = some (.cells #[.slice none 0 cap] 27 (0, 0))) (h0 : J [] W) :
    CallsIn Fence.wide n Try.prog 76 #[.func (.yield l) #[] #[], .pointer (some ⟨bm, 0, none⟩), .pointer (some ⟨bl, 0, none⟩)] W fun e W' => (∃ v, e = .returned v) ∧
      ((∃ ys, ys = tr p v a [] ∧ J ys W') ∨ (∃ pre, pre <+: tr p v a [] ∧ Jx pre W')) := by
  have m0 := hm.c0
  have m1 := hm.c1
  have m2 := hm.c2
  have l1 : ∀ o, (W.alloc o).cell? ⟨bl, 0, none⟩ = some (.slice none 0 cap) := fun o => (World.cell?_of_block (Below.heap_alloc W o bl (blk_lt hl))).trans ((blk_cell hl 0).trans rfl)
  refine callsIn_of_wp Try.func76 rfl trivial ?_ rfl
  simp only [Try.ntmps76, List.size_toArray, List.length_cons, List.length_nil, Nat.reduceAdd, Nat.reduceSub, Array.replicate_succ, Array.replicate_zero, List.push_toArray, List.append_toArray, List.nil_append, List.cons_append]
  gi_wp2
  have hJ' := Aside0.mk hJ
  clear hJ
  gi_loopw [11] (fun i wr => i = .int .i64 0 ∧ J [] wr)
    (fun _ _ => 0)
  case atStart => exact ⟨rfl, hJ'.out.alloc _ h0⟩
  case round =>
    obtain ⟨rfl, hj⟩ := hrel
    gi_wp2
    go_end0
    exact ⟨⟨_, rfl⟩, .inl ⟨[], rfl, hj⟩⟩

set_option maxHeartbeats 1000000 in
/-- The function that hands back the iterator. -/
theorem ticks_in (n : Nat) (p v a : Int) (A : Option Addr) (k c : Nat) (w : World) :
    CallsIn Fence.wide n Try.prog 51 #[.agg #[.int .i64 p, .int .i64 v, .int .i64 a], .slice A k c] w fun e w' => e = .returned (.func (.func 76) #[] #[.pointer (some ⟨w.heap.size, 0, none⟩), .pointer (some ⟨w.heap.size + 1, 0, none⟩)]) ∧
      w' = (w.alloc (.cells #[.int .i64 p, .int .i64 v, .int .i64 a] 33 (0, 0))).alloc (.cells #[.slice A k c] 27 (0, 0)) := by
  refine callsIn_of_wp Try.func51 rfl trivial ?_ rfl
  simp only [Try.ntmps51, List.size_toArray, List.length_cons, List.length_nil, Nat.reduceAdd, Nat.reduceSub, Array.replicate_succ, Array.replicate_zero, List.push_toArray, List.append_toArray, List.nil_append, List.cons_append]
  gi_wp2
  go_ret
  exact ⟨rfl, rfl⟩

/-- What the iterator hands over. -/
theorem ticks_seq (n : Nat) (hn : 1 ≤ n) (bm bl a0 : Nat) (p v a : Int) (A : Option Addr) (xs : List Int) (cap : Nat) (w0 : World) (hm : Mot w0 bm 33 p v a)
    (hl : w0.heap[bl]? = some (.cells #[.slice A xs.length cap] 27 (0, 0))) (hA : ∀ ad, A = some ad → 0 < xs.length → ad.block < a0) (ha0 : a0 ≤ w0.heap.size)
    (hN : A = none → xs = []) (hc : ∀ ad, A = some ad → ∀ j, j < xs.length → w0.cell? (ad.add j) = some (.int .i64 (rd xs j))) (hmax : xs.length ≤ 9223372036854775807) :
    SeqQ Fence.wide n Try.prog 76 #[.pointer (some ⟨bm, 0, none⟩), .pointer (some ⟨bl, 0, none⟩)] enc a0 (fun ys => ys = tr p v a xs) (fun pre => pre <+: tr p v a xs) xs.length w0 := by
  intro l J Jx W hB hJ _ hY h0
  have hm' : Mot W bm 33 p v a := (hB.block bm hm.lt).trans hm
  have hl' := (hB.block bl (blk_lt hl)).trans hl
  cases A with
  | none =>
    obtain rfl := hN rfl
    exact ticks1_nil n l bm bl p v a cap J Jx W hJ hm' hl' h0
  | some ad =>
    exact ticks1_some n hn l bm bl a0 p v a ad xs cap J Jx W hJ hY hm' hl' (hA ad rfl) (fun j hj => (hB.cell (World.block_lt_of_cell? w0 _ (hc ad rfl j hj))).trans (hc ad rfl j hj)) (Nat.le_trans ha0 hB.size) hmax h0
end Go.Proofs.Ytmmaodlngnjmlaa.Ticks
