/- The law of the channel pair and the supervisor: its walk. -/
import Derived.Test.YthmddbffhbfmeaaXHead29
import Derived.Deep.RegionHeld3
import Derived.Test.YthmddbffhbfmeaaP1
namespace Go.Proofs.Ythmddbffhbfmeaa.Sup
set_option linter.unusedVariables false
set_option linter.unusedSimpArgs false
open Go Go.RowKit Go.Proofs.YthmddbffhbfmeaaW.PrintWords Go.Proofs.YthmddbffhbfmeaaW.PrintMore Go.Proofs.Ythmddbffhbfmeaa.Ticks Go.Proofs.Ythmddbffhbfmeaa.P
def DC (W : World) (b : Nat) (x y : Bool) (n : Int) (z : Bool) : Prop := W.heap[b]? = some (.cells #[.bool x, .bool y, .int .i64 n, .bool z] 61 (0, 0))
def SS (W : World) (b : Nat) (mode cat left : Int) (cv : Value) (t0 t1 : Int) : Prop := W.heap[b]? = some (.cells #[.int .i64 mode, .int .i64 cat, .int .i64 left, cv, .int .i64 t0, .int .i64 t1] 48 (0, 0))
theorem obs_run (a b : Bool) (n : Int) (z x y : Bool) (w : World) : Calls Try.prog 26 #[.agg #[.bool a, .bool b, .int .i64 n, .bool z], .bool x, .bool y] w fun e w' => ∃ n' z', e = .returned (.agg #[.bool x, .bool y, .int .i64 n', .bool z']) ∧ Below w.heap.size w w' := by
  obtain ⟨n', z', h⟩ : ∃ n' z', dualchannel_Observe.f a b n z x y = some (x, y, n', z') := by
    unfold dualchannel_Observe.f
    split
    · exact ⟨_, _, rfl⟩
    · split
      · exact ⟨_, _, rfl⟩
      · exact ⟨_, _, rfl⟩
  refine (dualchannel_Observe.calls _ _ _ _ _ _ _ _ _ _ w h).mono ?_
  rintro e w' ⟨rfl, hB⟩
  exact ⟨_, _, rfl, hB⟩
theorem reset_run (a b : Bool) (n : Int) (z : Bool) (w : World) : Calls Try.prog 25 #[.agg #[.bool a, .bool b, .int .i64 n, .bool z]] w fun e w' => e = .returned (.agg #[.bool a, .bool b, .int .i64 n, .bool (z && !(a == b))]) ∧ Below w.heap.size w w' := dualchannel_Reset.calls _ _ _ _ _ _ _ _ w rfl
theorem closed_run (a b : Bool) (n : Int) (z : Bool) (w : World) : Calls Try.prog 27 #[.agg #[.bool a, .bool b, .int .i64 n, .bool z]] w fun e w' => e = .returned (.bool (closedB a b z)) ∧ Below w.heap.size w w' := dualchannel_Closed.calls _ _ _ _ _ w rfl
theorem DC.in {W W' : World} {b : Nat} {x y : Bool} {n : Int} {z : Bool} (h : DC W b x y n z) (hB : Below W.heap.size W W') : DC W' b x y n z := blk_in h hB
theorem SS.in {W W' : World} {b : Nat} {m c l : Int} {cv : Value} {t0 t1 : Int} (h : SS W b m c l cv t0 t1) (hB : Below W.heap.size W W') : SS W' b m c l cv t0 t1 := blk_in h hB
theorem setDC {W : World} {b : Nat} {x y : Bool} {n : Int} {z : Bool} (h : DC W b x y n z) (x' y' : Bool) (n' : Int) (z' : Bool) :
    DC ((((W.setCell ⟨b, 0, none⟩ (.bool x')).setCell ⟨b, 1, none⟩ (.bool y')).setCell ⟨b, 2, none⟩ (.int .i64 n')).setCell ⟨b, 3, none⟩ (.bool z')) b x' y' n' z' := by
  have h0 := blk_set h 0 (.bool x')
  have h1 := blk_set h0 1 (.bool y')
  have h2 := blk_set h1 2 (.int .i64 n')
  have h3 := blk_set h2 3 (.bool z')
  simpa [DC] using h3
theorem grDC (W : World) (b : Nat) (x' y' : Bool) (n' : Int) (z' : Bool) : W.grownBy ((((W.setCell ⟨b, 0, none⟩ (.bool x')).setCell ⟨b, 1, none⟩ (.bool y')).setCell ⟨b, 2, none⟩ (.int .i64 n')).setCell ⟨b, 3, none⟩ (.bool z')) (some b) :=
  (((grown_set W b 0 _).trans (grown_set _ b 1 _)).trans (grown_set _ b 2 _)).trans (grown_set _ b 3 _)
theorem blk_gr {W W' : World} {b r : Nat} {o : Obj} (h : W.heap[b]? = some o) (hg : W.grownBy W' (some r)) (hne : b ≠ r) : W'.heap[b]? = some o := (hg.block b (Array.getElem?_eq_some_iff.1 h).1 (fun e => hne (Option.some.inj e))).trans h
theorem one_viol {W : World} {base : Nat} {v : Value} (h : W.ownsRow base 67 4 v 1 [.int .i64 6, .int .i64 0, .int .i64 0, .int .i64 0]) : ∃ g cap, v = .slice (some ⟨g, 0, none⟩) 1 cap ∧ VL W (some ⟨g, 0, none⟩) [(6, 0, 0, 0)] := by
  obtain ⟨_, ⟨_, h2⟩ | ⟨g, cap, cur, rfl, _, hb, _, _, hs, ht⟩⟩ := h
  · omega
  · have key : ∀ j u, [Value.int .i64 6, .int .i64 0, .int .i64 0, .int .i64 0][j]? = some u → W.cell? ⟨g, j, none⟩ = some u := by
      intro j u hu
      rw [← ht, List.getElem?_take] at hu
      split at hu
      · exact (blk_cell hb j).trans (by simpa using hu)
      · cases hu
    refine ⟨g, cap, rfl, fun e => (by cases e), fun ad e j x hj => ?_⟩
    cases e
    match j, hj with
    | 0, hj =>
      obtain rfl : (6, 0, 0, 0) = x := by simpa using hj
      exact ⟨key 0 _ rfl, key 1 _ rfl, key 2 _ rfl, key 3 _ rfl⟩
    | k + 1, hj => simp at hj
def vioL (bad : Bool) : List (Int × Int × Int × Int) := if bad = true then [(6, 0, 0, 0)] else []
def askS (a b bad : Bool) (ask : Int) : Int := if closedB a b bad = true then ask else 3
theorem vl_nil (W : World) : VL W none (vioL false) := ⟨fun _ => rfl, fun ad e => (by cases e)⟩
theorem four_new0 (W : World) (a b c d : Int) (t : Nat) : ∀ (j : Nat) (u : Value), [Value.int .i64 a, .int .i64 b, .int .i64 c, .int .i64 d][j]? = some u → (W.alloc (.cells #[.int .i64 a, .int .i64 b, .int .i64 c, .int .i64 d] t (0, 0))).cell? ((⟨W.heap.size, 0, none⟩ : Addr).add j) = some u := four_new W a b c d t
theorem VL.in {W W' : World} {A : Option Addr} {l : List (Int × Int × Int × Int)} (h : VL W A l) (hB : Below W.heap.size W W') : VL W' A l := ⟨h.none, fun ad e j x hj => by
  obtain ⟨a1, a2, a3, a4⟩ := h.cell ad e j x hj
  exact ⟨cell_in a1 hB, cell_in a2 hB, cell_in a3 hB, cell_in a4 hB⟩⟩
theorem step_any {mode cat left x0 x1 x2 : Int} {ask : Int} {rest : Bool} (A : Option Addr) (n c : Nat) (t0 t1 : Int) (A9 : Option Addr) (c9 : Nat) (l : List (Int × Int × Int × Int)) (W : World) (hx : modeS mode cat left (callS l ask) ask rest = (x0, x1, x2)) (hg : Good W (.slice A n c)) (hV : VL W A9 l) (hm : l.length ≤ 1) (hl : 0 ≤ left ∧ left ≤ 60) : Calls Try.prog 20 #[.agg #[.int .i64 mode, .int .i64 cat, .int .i64 left, .slice A n c, .int .i64 t0, .int .i64 t1], .slice A9 l.length c9, .int .i64 ask, .bool rest] W fun e W' =>
    ∃ A' n' c' s0 s1 er, e = .returned (.tuple #[.agg #[.int .i64 x0, .int .i64 x1, .int .i64 x2, .slice A' n' c', .int .i64 s0, .int .i64 s1], .int .i64 er]) ∧ Good W' (.slice A' n' c') ∧ Below W.heap.size W W' := by
  refine (step_run mode cat left (.slice A n c) t0 t1 A9 c9 l ask rest W hg hV (by omega) hl.1 (by omega)).mono ?_
  rw [hx]
  rintro e W' ⟨cv, rfl, hg', hB⟩
  obtain ⟨A', n', c', rfl⟩ := hg'.form
  exact ⟨A', n', c', _, _, _, rfl, hg', hB⟩
theorem far6 {W : World} {p : Addr} {u : Value} (h : W.cell? p = some u) {B : Nat} (hne : B ≠ p.block) (a b c d e f : Value) : ((((((W.setCell ⟨B, 0, none⟩ a).setCell ⟨B, 1, none⟩ b).setCell ⟨B, 2, none⟩ c).setCell ⟨B, 3, none⟩ d).setCell ⟨B, 4, none⟩ e).setCell ⟨B, 5, none⟩ f).cell? p = some u := by
  rw [World.cell?_setCell_far _ _ _ _ hne, World.cell?_setCell_far _ _ _ _ hne, World.cell?_setCell_far _ _ _ _ hne, World.cell?_setCell_far _ _ _ _ hne, World.cell?_setCell_far _ _ _ _ hne, World.cell?_setCell_far _ _ _ _ hne, h]
theorem wrapk {k n : Nat} (h : k < n) (h2 : ¬ 300 < n) : wrap64 ((k : Int) + 1) = ((k + 1 : Nat) : Int) := by
  unfold wrap64
  omega
theorem meask {k n : Nat} (h : k < n) (h2 : ¬ 300 < n) : n - (intOf (.int .i64 (wrap64 ((k : Int) + 1)))).toNat < n - (intOf (.int .i64 (k : Int))).toNat := by
  rw [wrapk h h2]
  show n - ((k + 1 : Nat) : Int).toNat < n - (k : Int).toNat
  omega
theorem cmd_ne {m c : Int} (h3 : 3 ≤ m) (h5 : m ≤ 5) : cmdS m c ≠ 0 := by
  unfold cmdS
  split
  · decide
  · split
    · decide
    · rw [if_pos (by omega)]
      decide
theorem vioL_len (bad : Bool) : (vioL bad).length ≤ 1 := by cases bad <;> decide
set_option maxRecDepth 100000 in
set_option maxHeartbeats 4000000 in
theorem interlock_run (A0 : Option Addr) (c0 : Nat) (l0 : List S63) (A1 : Option Addr) (c1 : Nat) (l1 : List Bool) (w : World) (hr0 : Kd.C k63 w A0 l0.length l0) (hc0 : l0.length ≤ c0) (hr1 : Kd.C Kd.bool w A1 l1.length l1) (hc1 : l1.length ≤ c1) :
    Calls Try.prog 5 #[.slice A0 l0.length c0, .slice A1 l1.length c1] w fun e w' => e = .returned (.bool true) ∧ Below w.heap.size w w' := by
  have HR0 := Aside0.mk hr0
  have HR1 := Aside0.mk hr1
  clear hr0 hr1 hc0 hc1
  by_cases h1 : 300 < l0.length
  · have d1 : decide (300 < l0.length) = true := decide_eq_true h1
    have d2 : decide ((300 : Int) < (l0.length : Int)) = true := decide_eq_true (by omega)
    clear h1
    go_enter Try.func5, Try.ntmps5
    go_wp2_with (go_at_call 16; refine (head_run _).mono ?_; rintro e w1 ⟨rfl, hb1⟩; have HB1 := Aside0.mk hb1; clear hb1)
    go_ret
    exact ⟨rfl, HB1.out⟩
  by_cases h2 : 300 < l1.length
  · have d1 : decide (300 < l0.length) = false := decide_eq_false h1
    have d2 : decide ((300 : Int) < (l0.length : Int)) = false := decide_eq_false (by omega)
    have d3 : decide (300 < l1.length) = true := decide_eq_true h2
    have d4 : decide ((300 : Int) < (l1.length : Int)) = true := decide_eq_true (by omega)
    clear h1 h2
    go_enter Try.func5, Try.ntmps5
    go_wp2_with (go_at_call 16; refine (head_run _).mono ?_; rintro e w1 ⟨rfl, hb1⟩; have HB1 := Aside0.mk hb1; clear hb1)
    go_ret
    exact ⟨rfl, HB1.out⟩
  have d1 : decide (300 < l0.length) = false := decide_eq_false h1
  have d2 : decide ((300 : Int) < (l0.length : Int)) = false := decide_eq_false (by omega)
  have d3 : decide (300 < l1.length) = false := decide_eq_false h2
  have d4 : decide ((300 : Int) < (l1.length : Int)) = false := decide_eq_false (by omega)
  have H1 := Aside0.mk h1
  have H2 := Aside0.mk h2
  clear h1 h2
  go_enter Try.func5, Try.ntmps5
  go_wp2_with (first
    | (go_at_call 16; refine (head_run _).mono ?_; rintro e w1 ⟨rfl, hb1⟩; have HB1 := Aside0.mk hb1; clear hb1)
    | (go_at_call 21; refine (new_run _).mono ?_; rintro e w2 ⟨rfl, hb2⟩; have HB2 := Aside0.mk (below_tr HB1.out hb2); clear hb2))
  have F1 := Aside0.mk (show SS _ w2.heap.size 1 0 0 (.slice none 0 0) 0 0 from blk_al (heap_alloc_new w2 (.cells #[.int .i64 1, .int .i64 0, .int .i64 0, .slice none 0 0, .int .i64 0, .int .i64 0] 48 (0, 0))) (.cells #[.bool false, .bool false, .int .i64 0, .bool false] 61 (0, 0)))
  have F2 := Aside0.mk (show DC _ (w2.heap.size + 1) false false 0 false from heap_new2 w2 (.cells #[.int .i64 1, .int .i64 0, .int .i64 0, .slice none 0 0, .int .i64 0, .int .i64 0] 48 (0, 0)) (.cells #[.bool false, .bool false, .int .i64 0, .bool false] 61 (0, 0)))
  have F3 := Aside0.mk ((HB2.out.alloc HB2.out.size (.cells #[.int .i64 1, .int .i64 0, .int .i64 0, .slice none 0 0, .int .i64 0, .int .i64 0] 48 (0, 0))).alloc (by have := HB2.out.size; simp; omega) (.cells #[.bool false, .bool false, .int .i64 0, .bool false] 61 (0, 0)))
  clear d1 d2 d3 d4
  have HS2 := Aside0.mk HB2.out.size
  go_loopw [8] (fun i wr => ∃ (k n c : Nat) (A : Option Addr) (mode cat left t0 t1 off : Int) (a b bad : Bool), i = .int .i64 k ∧ k ≤ l0.length ∧ Aside0 ((1 ≤ mode ∧ mode ≤ 5) ∧ 0 ≤ left ∧ left ≤ 60) ∧ Aside0 (SS wr w2.heap.size mode cat left (.slice A n c) t0 t1) ∧ Aside0 (DC wr (w2.heap.size + 1) a b off bad) ∧ Aside0 (Good wr (.slice A n c)) ∧ Aside0 (Below w.heap.size w wr))
    (fun i _ => l0.length - (intOf i).toNat)
  case atStart => exact ⟨0, 0, 0, none, 1, 0, 0, 0, 0, 0, false, false, false, rfl, Nat.zero_le _, ⟨⟨by omega, by omega⟩, by omega, by omega⟩, F1, F2, ⟨Good.nil _⟩, F3⟩
  case round =>
    obtain ⟨k, n, c, A, mode, cat, left, t0, t1, off, a, b, bad, rfl, hk, hM, hS, hD, hG, hB⟩ := hrel
    clear F1 F2 F3
    by_cases hlt : k < l0.length
    · obtain ⟨ad, eA, p0, p1, p2, p3⟩ := at_T63 HR0.out (k : Int) (by omega) (by omega)
      cases eA
      simp only [Int.toNat_natCast] at p0 p1 p2 p3
      generalize (rd_T63 l0 (k : Int)).f0 = pa at p0
      generalize (rd_T63 l0 (k : Int)).f1 = pb at p1
      generalize (rd_T63 l0 (k : Int)).f2 = pask at p2
      generalize (rd_T63 l0 (k : Int)).f3 = pres at p3
      have P0 := Aside0.mk p0
      have P1 := Aside0.mk p1
      have P2 := Aside0.mk p2
      have P3 := Aside0.mk p3
      clear p0 p1 p2 p3
      have q1 : (0 : Int) ≤ (k : Int) := by omega
      have q2 : (k : Int) < (l0.length : Int) := by omega
      have q3 : k < l0.length := hlt
      have z3 := (hB.out.cell (World.block_lt_of_cell? w _ P3.out)).trans P3.out
      go_upto_if 35 with (fail)
      go_cut [35] (fun v35 wc => ∃ (off' : Int) (a' b' bad' : Bool) (g35 : Value), v35 = g35 ∧ Aside0 (SS wc w2.heap.size mode cat left (.slice A n c) t0 t1) ∧ Aside0 (DC wc (w2.heap.size + 1) a' b' off' bad') ∧ Aside0 (Good wc (.slice A n c)) ∧ Aside0 (Below w.heap.size w wc))
      case first =>
        cases pres with
        | false =>
          go_wp2
          go_meet
          case rel => exact ⟨_, _, _, _, _, rfl, hS, hD, hG, hB⟩
        | true =>
          have y0 : wr.cell? ⟨w2.heap.size + 1, 0, none⟩ = some (.bool a) := (blk_cell hD.out 0).trans rfl
          have y1 : wr.cell? ⟨w2.heap.size + 1, 1, none⟩ = some (.bool b) := (blk_cell hD.out 1).trans rfl
          have y2 : wr.cell? ⟨w2.heap.size + 1, 2, none⟩ = some (.int .i64 off) := (blk_cell hD.out 2).trans rfl
          have y3 : wr.cell? ⟨w2.heap.size + 1, 3, none⟩ = some (.bool bad) := (blk_cell hD.out 3).trans rfl
          go_wp2_with (go_at_call 25; refine (reset_run a b off bad _).mono ?_; rintro e w3 ⟨rfl, hb3⟩; have D3 := Aside0.mk (hD.out.in hb3); have S3 := Aside0.mk (hS.out.in hb3); have G3 := Aside0.mk (hG.out.below hb3); have B3 := Aside0.mk (below_tr hB.out hb3); have x0 : w3.cell? ⟨w2.heap.size + 1, 0, none⟩ = some (.bool a) := (blk_cell D3.out 0).trans rfl; have x1 : w3.cell? ⟨w2.heap.size + 1, 1, none⟩ = some (.bool b) := (blk_cell D3.out 1).trans rfl; have x2 : w3.cell? ⟨w2.heap.size + 1, 2, none⟩ = some (.int .i64 off) := (blk_cell D3.out 2).trans rfl; have x3 : w3.cell? ⟨w2.heap.size + 1, 3, none⟩ = some (.bool bad) := (blk_cell D3.out 3).trans rfl; have f0 := blk_frozen D3.out 0; have f1 := blk_frozen D3.out 1; have f2 := blk_frozen D3.out 2; have f3 := blk_frozen D3.out 3; clear hb3)
          go_meet
          case rel => exact ⟨off, a, b, _, _, rfl, ⟨blk_gr S3.out (grDC _ _ _ _ _ _) (by omega)⟩, ⟨setDC D3.out _ _ _ _⟩, ⟨G3.out.grown (G3.out.typed D3.out (by decide)) (grDC _ _ _ _ _ _)⟩, ⟨below_grown B3.out (grDC _ _ _ _ _ _) (by have := HS2.out; omega)⟩⟩
      case rest =>
        obtain ⟨off', a', b', bad', g35, rfl, hSc, hDc, hGc, hBc⟩ := hcut
        clear z3 hS hD hG hB
        have y0 : wc.cell? ⟨w2.heap.size + 1, 0, none⟩ = some (.bool a') := (blk_cell hDc.out 0).trans rfl
        have y1 : wc.cell? ⟨w2.heap.size + 1, 1, none⟩ = some (.bool b') := (blk_cell hDc.out 1).trans rfl
        have y2 : wc.cell? ⟨w2.heap.size + 1, 2, none⟩ = some (.int .i64 off') := (blk_cell hDc.out 2).trans rfl
        have y3 : wc.cell? ⟨w2.heap.size + 1, 3, none⟩ = some (.bool bad') := (blk_cell hDc.out 3).trans rfl
        have z0 := (hBc.out.cell (World.block_lt_of_cell? w _ P0.out)).trans P0.out
        have z1 := (hBc.out.cell (World.block_lt_of_cell? w _ P1.out)).trans P1.out
        go_upto_region 11 with (fail)
        go_still_tail 11, (by kernel_rfl)
        change wpList _ _ _ _ _ wc.drew
        go_upto_if 51 with (go_at_call 26; refine (obs_run a' b' off' bad' pa pb _).mono ?_; rintro e w3 ⟨noff, nbad, rfl, hb3⟩; have D3 := Aside0.mk (DC.in (W := wc.drew) hDc.out hb3); have S3 := Aside0.mk (SS.in (W := wc.drew) hSc.out hb3); have G3 := Aside0.mk (Good.below (w := wc.drew) hGc.out hb3); have B3 := Aside0.mk (below_tr (W := wc.drew) hBc.out.drew hb3); have x0 : w3.cell? ⟨w2.heap.size + 1, 0, none⟩ = some (.bool a') := (blk_cell D3.out 0).trans rfl; have x1 : w3.cell? ⟨w2.heap.size + 1, 1, none⟩ = some (.bool b') := (blk_cell D3.out 1).trans rfl; have x2 : w3.cell? ⟨w2.heap.size + 1, 2, none⟩ = some (.int .i64 off') := (blk_cell D3.out 2).trans rfl; have x3 : w3.cell? ⟨w2.heap.size + 1, 3, none⟩ = some (.bool bad') := (blk_cell D3.out 3).trans rfl; have f0 := blk_frozen D3.out 0; have f1 := blk_frozen D3.out 1; have f2 := blk_frozen D3.out 2; have f3 := blk_frozen D3.out 3; clear hb3)
        have S4 : SS ((((w3.setCell ⟨w2.heap.size + 1, 0, none⟩ (.bool pa)).setCell ⟨w2.heap.size + 1, 1, none⟩ (.bool pb)).setCell ⟨w2.heap.size + 1, 2, none⟩ (.int .i64 noff)).setCell ⟨w2.heap.size + 1, 3, none⟩ (.bool nbad)) w2.heap.size mode cat left (.slice A n c) t0 t1 := blk_gr S3.out (grDC _ _ _ _ _ _) (by omega)
        have D4 : DC ((((w3.setCell ⟨w2.heap.size + 1, 0, none⟩ (.bool pa)).setCell ⟨w2.heap.size + 1, 1, none⟩ (.bool pb)).setCell ⟨w2.heap.size + 1, 2, none⟩ (.int .i64 noff)).setCell ⟨w2.heap.size + 1, 3, none⟩ (.bool nbad)) (w2.heap.size + 1) pa pb noff nbad := setDC D3.out _ _ _ _
        have G4 : Good ((((w3.setCell ⟨w2.heap.size + 1, 0, none⟩ (.bool pa)).setCell ⟨w2.heap.size + 1, 1, none⟩ (.bool pb)).setCell ⟨w2.heap.size + 1, 2, none⟩ (.int .i64 noff)).setCell ⟨w2.heap.size + 1, 3, none⟩ (.bool nbad)) (.slice A n c) := G3.out.grown (G3.out.typed D3.out (by decide)) (grDC _ _ _ _ _ _)
        have B4 : Below w.heap.size w ((((w3.setCell ⟨w2.heap.size + 1, 0, none⟩ (.bool pa)).setCell ⟨w2.heap.size + 1, 1, none⟩ (.bool pb)).setCell ⟨w2.heap.size + 1, 2, none⟩ (.int .i64 noff)).setCell ⟨w2.heap.size + 1, 3, none⟩ (.bool nbad)) := below_grown B3.out (grDC _ _ _ _ _ _) (by have := HS2.out; omega)
        generalize hw4 : (((w3.setCell ⟨w2.heap.size + 1, 0, none⟩ (.bool pa)).setCell ⟨w2.heap.size + 1, 1, none⟩ (.bool pb)).setCell ⟨w2.heap.size + 1, 2, none⟩ (.int .i64 noff)).setCell ⟨w2.heap.size + 1, 3, none⟩ (.bool nbad) = w4 at *
        clear hw4 x0 x1 x2 x3 f0 f1 f2 f3 y0 y1 y2 y3 z0 z1 D3 S3 G3 B3 hSc hDc hGc hBc
        have SS4 := Aside0.mk S4
        have DD4 := Aside0.mk D4
        have GG4 := Aside0.mk G4
        have BB4 := Aside0.mk B4
        clear S4 D4 G4 B4
        go_cut [9] (fun v9 wd => ∃ (A9 : Option Addr) (c9 : Nat), v9 = .slice A9 (vioL nbad).length c9 ∧ Aside0 (VL wd A9 (vioL nbad)) ∧ Aside0 (SS wd w2.heap.size mode cat left (.slice A n c) t0 t1) ∧ Aside0 (DC wd (w2.heap.size + 1) pa pb noff nbad) ∧ Aside0 (Good wd (.slice A n c)) ∧ Aside0 (Below w.heap.size w wd))
        case first =>
          cases nbad with
          | false =>
            go_wp2
            go_meet
            case rel => exact ⟨none, 0, rfl, ⟨vl_nil _⟩, SS4, DD4, GG4, BB4⟩
          | true =>
            obtain ⟨i0, hi, hz0, hz1, hz2⟩ := info_parts info_viol
            go_wp2_with (at_builtin; refine wpList_append_grows _ rfl _ _ 39 rfl 67 i0 (.agg #[.int .i64 0, .int .i64 0, .int .i64 0, .int .i64 0]) 4 32 Try.underlying39 hi hz0 hz1 hz2 rfl (by decide) none 0 0 [] rfl (fun _ => ⟨rfl, rfl⟩) rfl (fun _ e => by cases e) ⟨w4.heap.size, 0, none⟩ 1 1 [.int .i64 6, .int .i64 0, .int .i64 0, .int .i64 0] rfl rfl (four_new0 w4 6 0 0 0 _) (by simp [Value.oneCell']) (by decide) (by simp only [maxLen]; omega) (by omega) ?_; intro v' w5 hown hg; obtain ⟨g5, cap5, rfl, hv5⟩ := one_viol hown; have HV5 := Aside0.mk hv5; have hb5 : Below w4.heap.size w4 w5 := below_none ((Below.refl _ w4).alloc (Nat.le_refl _) _) hg; have HB5 := Aside0.mk hb5; clear hown hg hv5 hb5)
            go_meet
            case rel => exact ⟨some ⟨g5, 0, none⟩, cap5, rfl, HV5, ⟨SS4.out.in HB5.out⟩, ⟨DD4.out.in HB5.out⟩, ⟨GG4.out.below HB5.out⟩, ⟨below_tr BB4.out HB5.out⟩⟩
        case rest =>
          obtain ⟨A9, c9, rfl, hVd, hSd, hDd, hGd, hBd⟩ := hcut
          clear SS4 DD4 GG4 BB4
          have z2 := (hBd.out.cell (World.block_lt_of_cell? w _ P2.out)).trans P2.out
          have y0 : wc.cell? ⟨w2.heap.size + 1, 0, none⟩ = some (.bool pa) := (blk_cell hDd.out 0).trans rfl
          have y1 : wc.cell? ⟨w2.heap.size + 1, 1, none⟩ = some (.bool pb) := (blk_cell hDd.out 1).trans rfl
          have y2 : wc.cell? ⟨w2.heap.size + 1, 2, none⟩ = some (.int .i64 noff) := (blk_cell hDd.out 2).trans rfl
          have y3 : wc.cell? ⟨w2.heap.size + 1, 3, none⟩ = some (.bool nbad) := (blk_cell hDd.out 3).trans rfl
          go_upto_if 63 with (go_at_call 27; refine (closed_run pa pb noff nbad _).mono ?_; rintro e w6 ⟨rfl, hb6⟩; have V6 := Aside0.mk (hVd.out.in hb6); have S6 := Aside0.mk (hSd.out.in hb6); have D6 := Aside0.mk (hDd.out.in hb6); have G6 := Aside0.mk (hGd.out.below hb6); have B6 := Aside0.mk (below_tr hBd.out hb6); clear hb6)
          clear z2 y0 y1 y2 y3 hVd hSd hDd hGd hBd
          obtain ⟨cb, hcb⟩ : ∃ cb, closedB pa pb nbad = cb := ⟨_, rfl⟩
          rw [hcb]
          have HCB := Aside0.mk hcb
          clear hcb
          go_cut [10] (fun v10 wd => v10 = .int .i64 (askS pa pb nbad pask) ∧ Aside0 (VL wd A9 (vioL nbad)) ∧ Aside0 (SS wd w2.heap.size mode cat left (.slice A n c) t0 t1) ∧ Aside0 (DC wd (w2.heap.size + 1) pa pb noff nbad) ∧ Aside0 (Good wd (.slice A n c)) ∧ Aside0 (Below w.heap.size w wd))
          case first =>
            cases cb with
            | true =>
              have ha : askS pa pb nbad pask = pask := if_pos HCB.out
              have HA := Aside0.mk ha
              clear ha
              go_wp2
              go_meet
              case rel => exact ⟨by rw [HA.out], V6, S6, D6, G6, B6⟩
            | false =>
              have ha : askS pa pb nbad pask = 3 := if_neg (by rw [HCB.out]; decide)
              have HA := Aside0.mk ha
              clear ha
              go_wp2
              go_meet
              case rel => exact ⟨by rw [HA.out], V6, S6, D6, G6, B6⟩
          case rest =>
            obtain ⟨hv10, hVe, hSe, hDe, hGe, hBe⟩ := hcut
            subst hv10
            clear V6 S6 D6 G6 B6
            obtain ⟨rb, hrb⟩ : ∃ rb : Bool, (if k < l1.length then rdOf false l1 (k : Int) else false) = rb := ⟨_, rfl⟩
            obtain ⟨x, hx⟩ : ∃ x, modeS mode cat left (callS (vioL nbad) (askS pa pb nbad pask)) (askS pa pb nbad pask) rb = x := ⟨_, rfl⟩
            obtain ⟨x0, x1, x2⟩ := x
            have HX := Aside0.mk hx
            clear hx
            obtain ⟨aS, haS⟩ : ∃ a, askS pa pb nbad pask = a := ⟨_, rfl⟩
            rw [haS] at HX
            rw [haS]
            have HAS := Aside0.mk haS
            clear haS
            go_step
            go_step
            go_cut [11] (fun v11 wd => ∃ (Bx n' c' : Nat) (A' : Option Addr) (s0 s1 : Int), v11 = .pointer (some ⟨Bx, 0, none⟩) ∧ Aside0 (w2.heap.size + 1 < Bx) ∧ Aside0 (SS wd Bx x0 x1 x2 (.slice A' n' c') s0 s1) ∧ Aside0 (SS wd w2.heap.size mode cat left (.slice A n c) t0 t1) ∧ Aside0 (DC wd (w2.heap.size + 1) pa pb noff nbad) ∧ Aside0 (Good wd (.slice A' n' c')) ∧ Aside0 (Below w.heap.size w wd))
            case first =>
              have y0 : wc.cell? ⟨w2.heap.size, 0, none⟩ = some (.int .i64 mode) := (blk_cell hSe.out 0).trans rfl
              have y1 : wc.cell? ⟨w2.heap.size, 1, none⟩ = some (.int .i64 cat) := (blk_cell hSe.out 1).trans rfl
              have y2 : wc.cell? ⟨w2.heap.size, 2, none⟩ = some (.int .i64 left) := (blk_cell hSe.out 2).trans rfl
              have y3 : wc.cell? ⟨w2.heap.size, 3, none⟩ = some (.slice A n c) := (blk_cell hSe.out 3).trans rfl
              have y4 : wc.cell? ⟨w2.heap.size, 4, none⟩ = some (.int .i64 t0) := (blk_cell hSe.out 4).trans rfl
              have y5 : wc.cell? ⟨w2.heap.size, 5, none⟩ = some (.int .i64 t1) := (blk_cell hSe.out 5).trans rfl
              have q1 : (0 : Int) ≤ (k : Int) := by omega
              have Gd : Aside0 (Good wc.drew (.slice A n c)) := ⟨hGe.out⟩
              have Vd : Aside0 (VL wc.drew A9 (vioL nbad)) := ⟨VL.in (W := wc) hVe.out (Below.refl _ wc).drew⟩
              have Ga : Aside0 (Good ((wc.alloc (.cells #[.int .i64 0, .int .i64 0, .int .i64 0, .slice none 0 0, .int .i64 0, .int .i64 0] 48 (0, 0))).drew) (.slice A n c)) := ⟨hGe.out.below (((Below.refl _ wc).alloc (Nat.le_refl _) _).drew)⟩
              have Va : Aside0 (VL ((wc.alloc (.cells #[.int .i64 0, .int .i64 0, .int .i64 0, .slice none 0 0, .int .i64 0, .int .i64 0] 48 (0, 0))).drew) A9 (vioL nbad)) := ⟨hVe.out.in (((Below.refl _ wc).alloc (Nat.le_refl _) _).drew)⟩
              have Na := Aside0.mk (show ((wc.alloc (.cells #[.int .i64 0, .int .i64 0, .int .i64 0, .slice none 0 0, .int .i64 0, .int .i64 0] 48 (0, 0))).drew).heap[wc.heap.size]? = _ from heap_alloc_new wc (.cells #[.int .i64 0, .int .i64 0, .int .i64 0, .slice none 0 0, .int .i64 0, .int .i64 0] 48 (0, 0)))
              have HL := Aside0.mk (vioL_len nbad)
              have LT3 : Aside0 (w2.heap.size + 1 < wc.heap.size) := ⟨(Array.getElem?_eq_some_iff.1 hDe.out).1⟩
              have ya0 : (wc.alloc (.cells #[.int .i64 0, .int .i64 0, .int .i64 0, .slice none 0 0, .int .i64 0, .int .i64 0] 48 (0, 0))).drew.cell? ⟨w2.heap.size, 0, none⟩ = some (.int .i64 mode) := cell_al y0 _
              have ya1 : (wc.alloc (.cells #[.int .i64 0, .int .i64 0, .int .i64 0, .slice none 0 0, .int .i64 0, .int .i64 0] 48 (0, 0))).drew.cell? ⟨w2.heap.size, 1, none⟩ = some (.int .i64 cat) := cell_al y1 _
              have ya2 : (wc.alloc (.cells #[.int .i64 0, .int .i64 0, .int .i64 0, .slice none 0 0, .int .i64 0, .int .i64 0] 48 (0, 0))).drew.cell? ⟨w2.heap.size, 2, none⟩ = some (.int .i64 left) := cell_al y2 _
              have ya3 : (wc.alloc (.cells #[.int .i64 0, .int .i64 0, .int .i64 0, .slice none 0 0, .int .i64 0, .int .i64 0] 48 (0, 0))).drew.cell? ⟨w2.heap.size, 3, none⟩ = some (.slice A n c) := cell_al y3 _
              have ya4 : (wc.alloc (.cells #[.int .i64 0, .int .i64 0, .int .i64 0, .slice none 0 0, .int .i64 0, .int .i64 0] 48 (0, 0))).drew.cell? ⟨w2.heap.size, 4, none⟩ = some (.int .i64 t0) := cell_al y4 _
              have ya5 : (wc.alloc (.cells #[.int .i64 0, .int .i64 0, .int .i64 0, .slice none 0 0, .int .i64 0, .int .i64 0] 48 (0, 0))).drew.cell? ⟨w2.heap.size, 5, none⟩ = some (.int .i64 t1) := cell_al y5 _
              have yd0 : wc.drew.cell? ⟨w2.heap.size, 0, none⟩ = some (.int .i64 mode) := y0
              have yd1 : wc.drew.cell? ⟨w2.heap.size, 1, none⟩ = some (.int .i64 cat) := y1
              have yd2 : wc.drew.cell? ⟨w2.heap.size, 2, none⟩ = some (.int .i64 left) := y2
              have yd3 : wc.drew.cell? ⟨w2.heap.size, 3, none⟩ = some (.slice A n c) := y3
              have yd4 : wc.drew.cell? ⟨w2.heap.size, 4, none⟩ = some (.int .i64 t0) := y4
              have yd5 : wc.drew.cell? ⟨w2.heap.size, 5, none⟩ = some (.int .i64 t1) := y5
              have LT2 : Aside0 (w2.heap.size < wc.drew.heap.size) := ⟨(Array.getElem?_eq_some_iff.1 hSe.out).1⟩
              by_cases hl1 : k < l1.length
              · have q4 : (k : Int) < (l1.length : Int) := by omega
                have q5 : decide ((k : Int) < (l1.length : Int)) = true := decide_eq_true q4
                have q6 : decide (k < l1.length) = true := decide_eq_true hl1
                rw [if_pos hl1] at hrb
                obtain ⟨ad1, eA1, zr0⟩ := Kd.at_bool HR1.out (k : Int) (by omega) q4
                rw [hrb] at zr0
                cases eA1
                simp only [Int.toNat_natCast] at zr0
                have zr := (hBe.out.cell (World.block_lt_of_cell? w _ zr0)).trans zr0
                have y6 := zr
                have ya6 : (wc.alloc (.cells #[.int .i64 0, .int .i64 0, .int .i64 0, .slice none 0 0, .int .i64 0, .int .i64 0] 48 (0, 0))).drew.cell? (ad1.add k) = some (.bool rb) := cell_al zr _
                have yd6 : wc.drew.cell? (ad1.add k) = some (.bool rb) := zr
                have HZ := Aside0.mk zr0
                have HRB := Aside0.mk hrb
                clear zr0 hl1 hrb
                (first | (go_region_held3 (fun w' => w'.cell? ⟨w2.heap.size, 0, none⟩ = some (.int .i64 mode) ∧ w'.cell? ⟨w2.heap.size, 1, none⟩ = some (.int .i64 cat) ∧ w'.cell? ⟨w2.heap.size, 2, none⟩ = some (.int .i64 left) ∧ w'.cell? ⟨w2.heap.size, 3, none⟩ = some (.slice A n c) ∧ w'.cell? ⟨w2.heap.size, 4, none⟩ = some (.int .i64 t0) ∧ w'.cell? ⟨w2.heap.size, 5, none⟩ = some (.int .i64 t1) ∧ w'.cell? (ad1.add k) = some (.bool rb)) (first | with_reducible exact ⟨yd0, yd1, yd2, yd3, yd4, yd5, yd6⟩ | with_reducible exact ⟨ya0, ya1, ya2, ya3, ya4, ya5, ya6⟩ | with_reducible exact ⟨v0, v1, v2, v3, v4, v5, v6⟩ | with_reducible exact ⟨cell_al v0 _, cell_al v1 _, cell_al v2 _, cell_al v3 _, cell_al v4 _, cell_al v5 _, cell_al v6 _⟩ | with_reducible exact ⟨cell_al y0 _, cell_al y1 _, cell_al y2 _, cell_al y3 _, cell_al y4 _, cell_al y5 _, cell_al y6 _⟩ | exact ⟨far6 v0 nea _ _ _ _ _ _, far6 v1 nea _ _ _ _ _ _, far6 v2 nea _ _ _ _ _ _, far6 v3 nea _ _ _ _ _ _, far6 v4 nea _ _ _ _ _ _, far6 v5 nea _ _ _ _ _ _, far6 v6 neb _ _ _ _ _ _⟩ | exact ⟨far6 (cell_al v0 _) nea _ _ _ _ _ _, far6 (cell_al v1 _) nea _ _ _ _ _ _, far6 (cell_al v2 _) nea _ _ _ _ _ _, far6 (cell_al v3 _) nea _ _ _ _ _ _, far6 (cell_al v4 _) nea _ _ _ _ _ _, far6 (cell_al v5 _) nea _ _ _ _ _ _, far6 (cell_al v6 _) neb _ _ _ _ _ _⟩) (first
                  | (go_at_call 20; (with_reducible refine (step_any A n c t0 t1 A9 c9 (vioL nbad) wc.drew HX.out Gd.out Vd.out HL.out hM.out.2).mono ?_); rintro e w7 ⟨A', n', c', s0, s1, er, rfl, hg7, hb7⟩; have v0 := cell_in yd0 hb7; have v1 := cell_in yd1 hb7; have v2 := cell_in yd2 hb7; have v3 := cell_in yd3 hb7; have v4 := cell_in yd4 hb7; have v5 := cell_in yd5 hb7; have v6 := cell_in yd6 hb7; have nea : w7.heap.size ≠ w2.heap.size := Nat.ne_of_gt (Nat.lt_of_lt_of_le LT2.out hb7.size); have neb : w7.heap.size ≠ (ad1.add k).block := Nat.ne_of_gt (World.block_lt_of_cell? w7 _ v6); have HG7 := Aside0.mk hg7; have HB7 := Aside0.mk hb7; clear hg7 hb7)
                  | (go_at_call 20; (with_reducible refine (step_any A n c t0 t1 A9 c9 (vioL nbad) (wc.alloc (.cells #[.int .i64 0, .int .i64 0, .int .i64 0, .slice none 0 0, .int .i64 0, .int .i64 0] 48 (0, 0))).drew HX.out Ga.out Va.out HL.out hM.out.2).mono ?_); rintro e w7 ⟨A', n', c', s0, s1, er, rfl, hg7, hb7⟩; have v0 := cell_in ya0 hb7; have v1 := cell_in ya1 hb7; have v2 := cell_in ya2 hb7; have v3 := cell_in ya3 hb7; have v4 := cell_in ya4 hb7; have v5 := cell_in ya5 hb7; have v6 := cell_in ya6 hb7; have nea : wc.heap.size ≠ w2.heap.size := Nat.ne_of_gt LT2.out; have neb : wc.heap.size ≠ (ad1.add k).block := Nat.ne_of_gt (World.block_lt_of_cell? wc.drew _ yd6); have hn7 := blk_in Na.out hb7; have n0 : w7.cell? ⟨wc.heap.size, 0, none⟩ = some (.int .i64 0) := (blk_cell hn7 0).trans rfl; have n1 : w7.cell? ⟨wc.heap.size, 1, none⟩ = some (.int .i64 0) := (blk_cell hn7 1).trans rfl; have n2 : w7.cell? ⟨wc.heap.size, 2, none⟩ = some (.int .i64 0) := (blk_cell hn7 2).trans rfl; have n3 : w7.cell? ⟨wc.heap.size, 3, none⟩ = some (.slice none 0 0) := (blk_cell hn7 3).trans rfl; have n4 : w7.cell? ⟨wc.heap.size, 4, none⟩ = some (.int .i64 0) := (blk_cell hn7 4).trans rfl; have n5 : w7.cell? ⟨wc.heap.size, 5, none⟩ = some (.int .i64 0) := (blk_cell hn7 5).trans rfl; have HN7 := Aside0.mk hn7; have f0 := blk_frozen hn7 0; have f1 := blk_frozen hn7 1; have f2 := blk_frozen hn7 2; have f3 := blk_frozen hn7 3; have f4 := blk_frozen hn7 4; have f5 := blk_frozen hn7 5; have HG7 := Aside0.mk hg7; have HB7 := Aside0.mk hb7; clear hg7 hb7 hn7))) | (fail "no"))
                all_goals
                  first
                    | (obtain ⟨W9, e9, b9, g9⟩ := setR HN7.out x0 x1 x2 (.slice A' n' c') s0 s1; rw [e9]; go_wp2; go_meet; case rel => exact ⟨wc.heap.size, n', c', A', s0, s1, rfl, ⟨LT3.out⟩, ⟨b9⟩, ⟨blk_gr (SS.in (W := (wc.alloc (.cells #[.int .i64 0, .int .i64 0, .int .i64 0, .slice none 0 0, .int .i64 0, .int .i64 0] 48 (0, 0))).drew) (blk_al hSe.out (.cells #[.int .i64 0, .int .i64 0, .int .i64 0, .slice none 0 0, .int .i64 0, .int .i64 0] 48 (0, 0))) HB7.out) g9 (Ne.symm nea)⟩, ⟨blk_gr (DC.in (W := (wc.alloc (.cells #[.int .i64 0, .int .i64 0, .int .i64 0, .slice none 0 0, .int .i64 0, .int .i64 0] 48 (0, 0))).drew) (blk_al hDe.out (.cells #[.int .i64 0, .int .i64 0, .int .i64 0, .slice none 0 0, .int .i64 0, .int .i64 0] 48 (0, 0))) HB7.out) g9 (Nat.ne_of_lt LT3.out)⟩, ⟨HG7.out.grown (HG7.out.typed HN7.out (by decide)) g9⟩, ⟨below_grown (below_tr (W := (wc.alloc (.cells #[.int .i64 0, .int .i64 0, .int .i64 0, .slice none 0 0, .int .i64 0, .int .i64 0] 48 (0, 0))).drew) (hBe.out.alloc hBe.out.size (.cells #[.int .i64 0, .int .i64 0, .int .i64 0, .slice none 0 0, .int .i64 0, .int .i64 0] 48 (0, 0))).drew HB7.out) g9 hBe.out.size⟩⟩)
                    | (go_wp2; go_meet; case rel => exact ⟨w7.heap.size, n', c', A', s0, s1, rfl, ⟨Nat.lt_of_lt_of_le LT3.out HB7.out.size⟩, ⟨heap_alloc_new w7 _⟩, ⟨blk_al (SS.in (W := wc.drew) hSe.out HB7.out) _⟩, ⟨blk_al (DC.in (W := wc.drew) hDe.out HB7.out) _⟩, ⟨HG7.out.below ((Below.refl _ w7).alloc (Nat.le_refl _) _)⟩, ⟨(below_tr (W := wc.drew) hBe.out.drew HB7.out).alloc (below_tr (W := wc.drew) hBe.out.drew HB7.out).size _⟩⟩)
              · have q5 : decide ((k : Int) < (l1.length : Int)) = false := decide_eq_false (by omega)
                have q6 : decide (k < l1.length) = false := decide_eq_false hl1
                have q7 : ¬ ((k : Int) < (l1.length : Int)) := by omega
                have q8 : (l1.length : Int) ≤ (k : Int) := by omega
                have q9 : l1.length ≤ k := by omega
                rw [if_neg hl1] at hrb
                subst hrb
                clear hl1
                refine wp_region_noPanic ?_
                refine wp_region_held_drew (S := (fun w' => w'.cell? ⟨w2.heap.size, 0, none⟩ = some (.int .i64 mode) ∧ w'.cell? ⟨w2.heap.size, 1, none⟩ = some (.int .i64 cat) ∧ w'.cell? ⟨w2.heap.size, 2, none⟩ = some (.int .i64 left) ∧ w'.cell? ⟨w2.heap.size, 3, none⟩ = some (.slice A n c) ∧ w'.cell? ⟨w2.heap.size, 4, none⟩ = some (.int .i64 t0) ∧ w'.cell? ⟨w2.heap.size, 5, none⟩ = some (.int .i64 t1))) (by kernel_rfl) (by with_reducible exact ⟨yd0, yd1, yd2, yd3, yd4, yd5⟩) (fun hHeld => ?_)
                refine wpAnyH_take (i := 0) (oi := {dst := some 65, op := Go.Op.load 48 (Go.Operand.tmp 6), type := 48, pos := "top29.go:166", after := #[], guard := none}) (v := ?val1) rfl (by kernel_rfl) (by kernel_rfl) (by kernel_rfl) (fun _ _ _ h => h) (Or.inl ⟨by rfl, ?hy1⟩) (by assumption) ?_
                case hy1 => (intro w hSw; (try dsimp only at hSw); go_simp; try (with_reducible rfl))
                try simp only [Act.put, List.setIfInBounds_toArray, List.set_cons_zero, List.set_cons_succ]
                refine wpAnyH_take (i := 1) (oi := {dst := some 66, op := Go.Op.move (Go.Operand.tmp 9), type := 39, pos := "top29.go:166", after := #[], guard := none}) (v := ?val2) rfl (by kernel_rfl) (by kernel_rfl) (by kernel_rfl) (fun _ _ _ h => h) (Or.inl ⟨by rfl, ?hy2⟩) (by assumption) ?_
                case hy2 => (intro w hSw; (try dsimp only at hSw); go_simp; try (with_reducible rfl))
                try simp only [Act.put, List.setIfInBounds_toArray, List.set_cons_zero, List.set_cons_succ]
                refine wpAnyH_take (i := 2) (oi := {dst := some 67, op := Go.Op.move (Go.Operand.tmp 10), type := 3, pos := "top29.go:166", after := #[], guard := none}) (v := ?val3) rfl (by kernel_rfl) (by kernel_rfl) (by kernel_rfl) (fun _ _ _ h => h) (Or.inl ⟨by rfl, ?hy3⟩) (by assumption) ?_
                case hy3 => (intro w hSw; (try dsimp only at hSw); go_simp; try (with_reducible rfl))
                try simp only [Act.put, List.setIfInBounds_toArray, List.set_cons_zero, List.set_cons_succ]
                refine wpAnyH_take (i := 3) (oi := {dst := some 68, op := Go.Op.move (Go.Operand.tmp 8), type := 3, pos := "top29.go:166", after := #[], guard := none}) (v := ?val4) rfl (by kernel_rfl) (by kernel_rfl) (by kernel_rfl) (fun _ _ _ h => h) (Or.inl ⟨by rfl, ?hy4⟩) (by assumption) ?_
                case hy4 => (intro w hSw; (try dsimp only at hSw); go_simp; try (with_reducible rfl))
                try simp only [Act.put, List.setIfInBounds_toArray, List.set_cons_zero, List.set_cons_succ]
                refine wpAnyH_take (i := 4) (oi := {dst := some 69, op := Go.Op.move (Go.Operand.tmp 1), type := 59, pos := "top29.go:166", after := #[], guard := none}) (v := ?val5) rfl (by kernel_rfl) (by kernel_rfl) (by kernel_rfl) (fun _ _ _ h => h) (Or.inl ⟨by rfl, ?hy5⟩) (by assumption) ?_
                case hy5 => (intro w hSw; (try dsimp only at hSw); go_simp; try (with_reducible rfl))
                try simp only [Act.put, List.setIfInBounds_toArray, List.set_cons_zero, List.set_cons_succ]
                refine wpAnyH_take (i := 5) (oi := {dst := some 70, op := Go.Op.call {callee := Go.Callee.builtin Go.Builtin.len, args := #[Go.Operand.tmp 69], argTypes := #[59]}, type := 3, pos := "top29.go:166", after := #[{on := 4, ground := Go.Ground.data}], guard := none}) (v := ?val6) rfl (by kernel_rfl) (by kernel_rfl) (by kernel_rfl) (fun _ _ _ h => h) (Or.inl ⟨by rfl, ?hy6⟩) (by assumption) ?_
                case hy6 => (intro w hSw; (try dsimp only at hSw); go_simp; try (with_reducible rfl))
                try simp only [Act.put, List.setIfInBounds_toArray, List.set_cons_zero, List.set_cons_succ]
                refine wpAnyH_take (i := 6) (oi := {dst := some 71, op := Go.Op.binOp Go.BinOp.lss 3 (Go.Operand.tmp 68) (Go.Operand.tmp 70) 3, type := 4, pos := "top29.go:166", after := #[{on := 3, ground := Go.Ground.data}, {on := 5, ground := Go.Ground.data}], guard := none}) (v := ?val7) rfl (by kernel_rfl) (by kernel_rfl) (by kernel_rfl) (fun _ _ _ h => h) (Or.inl ⟨by rfl, ?hy7⟩) (by assumption) ?_
                case hy7 => (intro w hSw; (try dsimp only at hSw); go_simp; try (with_reducible rfl))
                try simp only [Act.put, List.setIfInBounds_toArray, List.set_cons_zero, List.set_cons_succ]
                refine wpAnyH_take (i := 7) (oi := {dst := some 72, op := Go.Op.move (Go.Operand.tmp 71), type := 4, pos := "top29.go:166", after := #[{on := 6, ground := Go.Ground.data}], guard := none}) (v := ?val8) rfl (by kernel_rfl) (by kernel_rfl) (by kernel_rfl) (fun _ _ _ h => h) (Or.inl ⟨by rfl, ?hy8⟩) (by assumption) ?_
                case hy8 => (intro w hSw; (try dsimp only at hSw); go_simp; try (with_reducible rfl))
                try simp only [Act.put, List.setIfInBounds_toArray, List.set_cons_zero, List.set_cons_succ]
                refine wpAnyH_take (i := 8) (oi := {dst := some 73, op := Go.Op.move (Go.Operand.tmp 1), type := 59, pos := "top29.go:166", after := #[{on := 7, ground := Go.Ground.guard}], guard := some (7, true)}) (v := undef) rfl (by kernel_rfl) (by kernel_rfl) (by kernel_rfl) (fun _ _ _ h => h) (Or.inr ⟨by rfl, rfl⟩) (by assumption) ?_
                try simp only [Act.put, List.setIfInBounds_toArray, List.set_cons_zero, List.set_cons_succ]
                refine wpAnyH_take (i := 9) (oi := {dst := some 74, op := Go.Op.move (Go.Operand.tmp 8), type := 3, pos := "top29.go:166", after := #[{on := 7, ground := Go.Ground.guard}], guard := some (7, true)}) (v := undef) rfl (by kernel_rfl) (by kernel_rfl) (by kernel_rfl) (fun _ _ _ h => h) (Or.inr ⟨by rfl, rfl⟩) (by assumption) ?_
                try simp only [Act.put, List.setIfInBounds_toArray, List.set_cons_zero, List.set_cons_succ]
                refine wpAnyH_take (i := 10) (oi := {dst := some 75, op := Go.Op.indexAddr 59 (Go.Operand.tmp 73) (Go.Operand.tmp 74), type := 0, pos := "top29.go:166", after := #[{on := 8, ground := Go.Ground.data}, {on := 9, ground := Go.Ground.data}, {on := 7, ground := Go.Ground.guard}], guard := some (7, true)}) (v := undef) rfl (by kernel_rfl) (by kernel_rfl) (by kernel_rfl) (fun _ _ _ h => h) (Or.inr ⟨by rfl, rfl⟩) (by assumption) ?_
                try simp only [Act.put, List.setIfInBounds_toArray, List.set_cons_zero, List.set_cons_succ]
                refine wpAnyH_take (i := 11) (oi := {dst := some 76, op := Go.Op.load 4 (Go.Operand.tmp 75), type := 4, pos := "top29.go:166", after := #[{on := 10, ground := Go.Ground.data}, {on := 7, ground := Go.Ground.guard}], guard := some (7, true)}) (v := undef) rfl (by kernel_rfl) (by kernel_rfl) (by kernel_rfl) (fun _ _ _ h => h) (Or.inr ⟨by rfl, rfl⟩) (by assumption) ?_
                try simp only [Act.put, List.setIfInBounds_toArray, List.set_cons_zero, List.set_cons_succ]
                refine wpAnyH_take (i := 12) (oi := {dst := some 77, op := Go.Op.pick (Go.Operand.tmp 72) (Go.Operand.tmp 76) (Go.Operand.const (Go.Value.bool false)), type := 4, pos := "top29.go:166", after := #[{on := 7, ground := Go.Ground.data}, {on := 11, ground := Go.Ground.data}], guard := none}) (v := ?val13) rfl (by kernel_rfl) (by kernel_rfl) (by kernel_rfl) (fun _ _ _ h => h) (Or.inl ⟨by rfl, ?hy13⟩) (by assumption) ?_
                case hy13 => (intro w hSw; (try dsimp only at hSw); go_simp; try (with_reducible rfl))
                try simp only [Act.put, List.setIfInBounds_toArray, List.set_cons_zero, List.set_cons_succ]
                refine wpAnyH_ready (rs := [13, 17]) (by kernel_rfl) (by simp) ?_
                refine AllReadyH.cons (o := {dst := some 78, op := Go.Op.call {callee := Go.Callee.value (Go.Operand.func 20), args := #[Go.Operand.tmp 65, Go.Operand.tmp 66, Go.Operand.tmp 67, Go.Operand.tmp 77], argTypes := #[48, 39, 3, 4]}, type := 50, pos := "top29.go:166", after := #[{on := 0, ground := Go.Ground.data}, {on := 1, ground := Go.Ground.data}, {on := 2, ground := Go.Ground.data}, {on := 12, ground := Go.Ground.data}, {on := 7, ground := Go.Ground.chain}], guard := none}) rfl (fun K hK => ?_) (AllReadyH.cons (o := {dst := some 11, op := Go.Op.alloc 48, type := 0, pos := "top29.go:166", after := #[], guard := none}) rfl (fun K hK => ?_) AllReadyH.nil)
                · go_simp
                  go_at_call 20
                  (with_reducible refine (step_any A n c t0 t1 A9 c9 (vioL nbad) wc.drew HX.out Gd.out Vd.out HL.out hM.out.2).mono ?_)
                  rintro e w7 ⟨A', n', c', s0, s1, er, rfl, hg7, hb7⟩
                  have v0 := cell_in yd0 hb7
                  have v1 := cell_in yd1 hb7
                  have v2 := cell_in yd2 hb7
                  have v3 := cell_in yd3 hb7
                  have v4 := cell_in yd4 hb7
                  have v5 := cell_in yd5 hb7
                  have nea : w7.heap.size ≠ w2.heap.size := Nat.ne_of_gt (Nat.lt_of_lt_of_le LT2.out hb7.size)
                  have HG7 := Aside0.mk hg7
                  have HB7 := Aside0.mk hb7
                  clear hg7 hb7
                  (try go_wp2_with (fail))
                  refine hK.out _ _ ?_ (fun hHeld => ?_)
                  · ((try dsimp only); with_reducible exact ⟨v0, v1, v2, v3, v4, v5⟩)
                  clear hK K
                  try simp only [Act.put, List.setIfInBounds_toArray, List.set_cons_zero, List.set_cons_succ]
                  refine wpAnyH_take (i := 14) (oi := {dst := some 64, op := Go.Op.move (Go.Operand.tmp 78), type := 50, pos := "top29.go:166", after := #[{on := 13, ground := Go.Ground.data}], guard := none}) (v := ?val14) rfl (by kernel_rfl) (by kernel_rfl) (by kernel_rfl) (fun _ _ _ h => h) (Or.inl ⟨by rfl, ?hy14⟩) (by assumption) ?_
                  case hy14 => (intro w hSw; (try dsimp only at hSw); go_simp; try (with_reducible rfl))
                  try simp only [Act.put, List.setIfInBounds_toArray, List.set_cons_zero, List.set_cons_succ]
                  refine wpAnyH_take (i := 15) (oi := {dst := some 79, op := Go.Op.extract (Go.Operand.tmp 64) 0, type := 48, pos := "top29.go:166", after := #[{on := 14, ground := Go.Ground.data}], guard := none}) (v := ?val15) rfl (by kernel_rfl) (by kernel_rfl) (by kernel_rfl) (fun _ _ _ h => h) (Or.inl ⟨by rfl, ?hy15⟩) (by assumption) ?_
                  case hy15 => (intro w hSw; (try dsimp only at hSw); go_simp; try (with_reducible rfl))
                  try simp only [Act.put, List.setIfInBounds_toArray, List.set_cons_zero, List.set_cons_succ]
                  refine wpAnyH_take (i := 16) (oi := {dst := some 80, op := Go.Op.extract (Go.Operand.tmp 64) 1, type := 49, pos := "top29.go:166", after := #[{on := 14, ground := Go.Ground.data}, {on := 18, ground := Go.Ground.gcOnly Go.Departure.lateStores}], guard := none}) (v := ?val16) rfl (by kernel_rfl) (by kernel_rfl) (by kernel_rfl) (fun _ _ _ h => h) (Or.inl ⟨by rfl, ?hy16⟩) (by assumption) ?_
                  case hy16 => (intro w hSw; (try dsimp only at hSw); go_simp; try (with_reducible rfl))
                  try simp only [Act.put, List.setIfInBounds_toArray, List.set_cons_zero, List.set_cons_succ]
                  refine wpAnyH_ready (rs := [17]) (by kernel_rfl) (by simp) ?_
                  refine AllReadyH.cons (o := {dst := some 11, op := Go.Op.alloc 48, type := 0, pos := "top29.go:166", after := #[], guard := none}) rfl (fun K hK => ?_) AllReadyH.nil
                  go_simp
                  refine hK.out _ _ ?_ (fun hHeld => ?_)
                  · ((try dsimp only); with_reducible exact ⟨cell_al v0 _, cell_al v1 _, cell_al v2 _, cell_al v3 _, cell_al v4 _, cell_al v5 _⟩)
                  clear hK K
                  try simp only [Act.put, List.setIfInBounds_toArray, List.set_cons_zero, List.set_cons_succ]
                  refine wpAnyH_ready (rs := [18]) (by kernel_rfl) (by simp) ?_
                  refine AllReadyH.cons (o := {dst := none, op := Go.Op.store 48 (Go.Operand.tmp 11) (Go.Operand.tmp 79), type := 0, pos := "top29.go:166", after := #[{on := 17, ground := Go.Ground.data}, {on := 15, ground := Go.Ground.data}, {on := 13, ground := Go.Ground.chain}, {on := 0, ground := Go.Ground.phase}, {on := 1, ground := Go.Ground.phase}, {on := 2, ground := Go.Ground.phase}, {on := 3, ground := Go.Ground.phase}, {on := 4, ground := Go.Ground.phase}, {on := 5, ground := Go.Ground.phase}, {on := 6, ground := Go.Ground.phase}, {on := 7, ground := Go.Ground.phase}, {on := 8, ground := Go.Ground.phase}, {on := 9, ground := Go.Ground.phase}, {on := 10, ground := Go.Ground.phase}, {on := 11, ground := Go.Ground.phase}, {on := 12, ground := Go.Ground.phase}, {on := 13, ground := Go.Ground.phase}, {on := 14, ground := Go.Ground.phase}, {on := 15, ground := Go.Ground.phase}, {on := 16, ground := Go.Ground.textOnly Go.Departure.lateStores}, {on := 17, ground := Go.Ground.phase}], guard := none}) rfl (fun K hK => ?_) AllReadyH.nil
                  go_simp
                  refine hK.out _ _ ?_ (fun hHeld => ?_)
                  · ((try dsimp only); with_reducible exact ⟨cell_al v0 _, cell_al v1 _, cell_al v2 _, cell_al v3 _, cell_al v4 _, cell_al v5 _⟩)
                  clear hK K
                  try simp only [Act.put, List.setIfInBounds_toArray, List.set_cons_zero, List.set_cons_succ]
                  refine wpAnyH_take (i := 19) (oi := {dst := some 12, op := Go.Op.assign (Go.Operand.tmp 80), type := 49, pos := "top29.go:166", after := #[{on := 16, ground := Go.Ground.data}, {on := 18, ground := Go.Ground.chain}, {on := 0, ground := Go.Ground.phase}, {on := 1, ground := Go.Ground.phase}, {on := 2, ground := Go.Ground.phase}, {on := 3, ground := Go.Ground.phase}, {on := 4, ground := Go.Ground.phase}, {on := 5, ground := Go.Ground.phase}, {on := 6, ground := Go.Ground.phase}, {on := 7, ground := Go.Ground.phase}, {on := 8, ground := Go.Ground.phase}, {on := 9, ground := Go.Ground.phase}, {on := 10, ground := Go.Ground.phase}, {on := 11, ground := Go.Ground.phase}, {on := 12, ground := Go.Ground.phase}, {on := 13, ground := Go.Ground.phase}, {on := 14, ground := Go.Ground.phase}, {on := 15, ground := Go.Ground.phase}, {on := 16, ground := Go.Ground.phase}, {on := 17, ground := Go.Ground.phase}, {on := 18, ground := Go.Ground.phase}], guard := none}) (v := ?val17) rfl (by kernel_rfl) (by kernel_rfl) (by kernel_rfl) (fun _ _ _ h => h) (Or.inl ⟨by rfl, ?hy17⟩) (by assumption) ?_
                  case hy17 => (intro w hSw; (try dsimp only at hSw); go_simp; try (with_reducible rfl))
                  try simp only [Act.put, List.setIfInBounds_toArray, List.set_cons_zero, List.set_cons_succ]
                  refine wpAnyH_done (by kernel_rfl) ?_ _
                  refine NoPanic.normal ?_
                  (go_wp2; go_meet; case rel => exact ⟨w7.heap.size, n', c', A', s0, s1, rfl, ⟨Nat.lt_of_lt_of_le LT3.out HB7.out.size⟩, ⟨heap_alloc_new w7 _⟩, ⟨blk_al (SS.in (W := wc.drew) hSe.out HB7.out) _⟩, ⟨blk_al (DC.in (W := wc.drew) hDe.out HB7.out) _⟩, ⟨HG7.out.below ((Below.refl _ w7).alloc (Nat.le_refl _) _)⟩, ⟨(below_tr (W := wc.drew) hBe.out.drew HB7.out).alloc (below_tr (W := wc.drew) hBe.out.drew HB7.out).size _⟩⟩)
                · go_simp
                  refine hK.out _ _ ?_ (fun hHeld => ?_)
                  · ((try dsimp only); with_reducible exact ⟨ya0, ya1, ya2, ya3, ya4, ya5⟩)
                  clear hK K
                  try simp only [Act.put, List.setIfInBounds_toArray, List.set_cons_zero, List.set_cons_succ]
                  refine wpAnyH_ready (rs := [13]) (by kernel_rfl) (by simp) ?_
                  refine AllReadyH.cons (o := {dst := some 78, op := Go.Op.call {callee := Go.Callee.value (Go.Operand.func 20), args := #[Go.Operand.tmp 65, Go.Operand.tmp 66, Go.Operand.tmp 67, Go.Operand.tmp 77], argTypes := #[48, 39, 3, 4]}, type := 50, pos := "top29.go:166", after := #[{on := 0, ground := Go.Ground.data}, {on := 1, ground := Go.Ground.data}, {on := 2, ground := Go.Ground.data}, {on := 12, ground := Go.Ground.data}, {on := 7, ground := Go.Ground.chain}], guard := none}) rfl (fun K hK => ?_) AllReadyH.nil
                  go_simp
                  go_at_call 20
                  (with_reducible refine (step_any A n c t0 t1 A9 c9 (vioL nbad) (wc.alloc (.cells #[.int .i64 0, .int .i64 0, .int .i64 0, .slice none 0 0, .int .i64 0, .int .i64 0] 48 (0, 0))).drew HX.out Ga.out Va.out HL.out hM.out.2).mono ?_)
                  rintro e w7 ⟨A', n', c', s0, s1, er, rfl, hg7, hb7⟩
                  have v0 := cell_in ya0 hb7
                  have v1 := cell_in ya1 hb7
                  have v2 := cell_in ya2 hb7
                  have v3 := cell_in ya3 hb7
                  have v4 := cell_in ya4 hb7
                  have v5 := cell_in ya5 hb7
                  have nea : wc.heap.size ≠ w2.heap.size := Nat.ne_of_gt LT2.out
                  have hn7 := blk_in Na.out hb7
                  have n0 : w7.cell? ⟨wc.heap.size, 0, none⟩ = some (.int .i64 0) := (blk_cell hn7 0).trans rfl
                  have n1 : w7.cell? ⟨wc.heap.size, 1, none⟩ = some (.int .i64 0) := (blk_cell hn7 1).trans rfl
                  have n2 : w7.cell? ⟨wc.heap.size, 2, none⟩ = some (.int .i64 0) := (blk_cell hn7 2).trans rfl
                  have n3 : w7.cell? ⟨wc.heap.size, 3, none⟩ = some (.slice none 0 0) := (blk_cell hn7 3).trans rfl
                  have n4 : w7.cell? ⟨wc.heap.size, 4, none⟩ = some (.int .i64 0) := (blk_cell hn7 4).trans rfl
                  have n5 : w7.cell? ⟨wc.heap.size, 5, none⟩ = some (.int .i64 0) := (blk_cell hn7 5).trans rfl
                  have HN7 := Aside0.mk hn7
                  have f0 := blk_frozen hn7 0
                  have f1 := blk_frozen hn7 1
                  have f2 := blk_frozen hn7 2
                  have f3 := blk_frozen hn7 3
                  have f4 := blk_frozen hn7 4
                  have f5 := blk_frozen hn7 5
                  have HG7 := Aside0.mk hg7
                  have HB7 := Aside0.mk hb7
                  clear hg7 hb7 hn7
                  (try go_wp2_with (fail))
                  refine hK.out _ _ ?_ (fun hHeld => ?_)
                  · ((try dsimp only); with_reducible exact ⟨v0, v1, v2, v3, v4, v5⟩)
                  clear hK K
                  try simp only [Act.put, List.setIfInBounds_toArray, List.set_cons_zero, List.set_cons_succ]
                  refine wpAnyH_take (i := 14) (oi := {dst := some 64, op := Go.Op.move (Go.Operand.tmp 78), type := 50, pos := "top29.go:166", after := #[{on := 13, ground := Go.Ground.data}], guard := none}) (v := ?val18) rfl (by kernel_rfl) (by kernel_rfl) (by kernel_rfl) (fun _ _ _ h => h) (Or.inl ⟨by rfl, ?hy18⟩) (by assumption) ?_
                  case hy18 => (intro w hSw; (try dsimp only at hSw); go_simp; try (with_reducible rfl))
                  try simp only [Act.put, List.setIfInBounds_toArray, List.set_cons_zero, List.set_cons_succ]
                  refine wpAnyH_take (i := 15) (oi := {dst := some 79, op := Go.Op.extract (Go.Operand.tmp 64) 0, type := 48, pos := "top29.go:166", after := #[{on := 14, ground := Go.Ground.data}], guard := none}) (v := ?val19) rfl (by kernel_rfl) (by kernel_rfl) (by kernel_rfl) (fun _ _ _ h => h) (Or.inl ⟨by rfl, ?hy19⟩) (by assumption) ?_
                  case hy19 => (intro w hSw; (try dsimp only at hSw); go_simp; try (with_reducible rfl))
                  try simp only [Act.put, List.setIfInBounds_toArray, List.set_cons_zero, List.set_cons_succ]
                  refine wpAnyH_take (i := 16) (oi := {dst := some 80, op := Go.Op.extract (Go.Operand.tmp 64) 1, type := 49, pos := "top29.go:166", after := #[{on := 14, ground := Go.Ground.data}, {on := 18, ground := Go.Ground.gcOnly Go.Departure.lateStores}], guard := none}) (v := ?val20) rfl (by kernel_rfl) (by kernel_rfl) (by kernel_rfl) (fun _ _ _ h => h) (Or.inl ⟨by rfl, ?hy20⟩) (by assumption) ?_
                  case hy20 => (intro w hSw; (try dsimp only at hSw); go_simp; try (with_reducible rfl))
                  try simp only [Act.put, List.setIfInBounds_toArray, List.set_cons_zero, List.set_cons_succ]
                  refine wpAnyH_ready (rs := [18]) (by kernel_rfl) (by simp) ?_
                  refine AllReadyH.cons (o := {dst := none, op := Go.Op.store 48 (Go.Operand.tmp 11) (Go.Operand.tmp 79), type := 0, pos := "top29.go:166", after := #[{on := 17, ground := Go.Ground.data}, {on := 15, ground := Go.Ground.data}, {on := 13, ground := Go.Ground.chain}, {on := 0, ground := Go.Ground.phase}, {on := 1, ground := Go.Ground.phase}, {on := 2, ground := Go.Ground.phase}, {on := 3, ground := Go.Ground.phase}, {on := 4, ground := Go.Ground.phase}, {on := 5, ground := Go.Ground.phase}, {on := 6, ground := Go.Ground.phase}, {on := 7, ground := Go.Ground.phase}, {on := 8, ground := Go.Ground.phase}, {on := 9, ground := Go.Ground.phase}, {on := 10, ground := Go.Ground.phase}, {on := 11, ground := Go.Ground.phase}, {on := 12, ground := Go.Ground.phase}, {on := 13, ground := Go.Ground.phase}, {on := 14, ground := Go.Ground.phase}, {on := 15, ground := Go.Ground.phase}, {on := 16, ground := Go.Ground.textOnly Go.Departure.lateStores}, {on := 17, ground := Go.Ground.phase}], guard := none}) rfl (fun K hK => ?_) AllReadyH.nil
                  go_simp
                  refine hK.out _ _ ?_ (fun hHeld => ?_)
                  · ((try dsimp only); exact ⟨far6 v0 nea _ _ _ _ _ _, far6 v1 nea _ _ _ _ _ _, far6 v2 nea _ _ _ _ _ _, far6 v3 nea _ _ _ _ _ _, far6 v4 nea _ _ _ _ _ _, far6 v5 nea _ _ _ _ _ _⟩)
                  clear hK K
                  try simp only [Act.put, List.setIfInBounds_toArray, List.set_cons_zero, List.set_cons_succ]
                  refine wpAnyH_take (i := 19) (oi := {dst := some 12, op := Go.Op.assign (Go.Operand.tmp 80), type := 49, pos := "top29.go:166", after := #[{on := 16, ground := Go.Ground.data}, {on := 18, ground := Go.Ground.chain}, {on := 0, ground := Go.Ground.phase}, {on := 1, ground := Go.Ground.phase}, {on := 2, ground := Go.Ground.phase}, {on := 3, ground := Go.Ground.phase}, {on := 4, ground := Go.Ground.phase}, {on := 5, ground := Go.Ground.phase}, {on := 6, ground := Go.Ground.phase}, {on := 7, ground := Go.Ground.phase}, {on := 8, ground := Go.Ground.phase}, {on := 9, ground := Go.Ground.phase}, {on := 10, ground := Go.Ground.phase}, {on := 11, ground := Go.Ground.phase}, {on := 12, ground := Go.Ground.phase}, {on := 13, ground := Go.Ground.phase}, {on := 14, ground := Go.Ground.phase}, {on := 15, ground := Go.Ground.phase}, {on := 16, ground := Go.Ground.phase}, {on := 17, ground := Go.Ground.phase}, {on := 18, ground := Go.Ground.phase}], guard := none}) (v := ?val21) rfl (by kernel_rfl) (by kernel_rfl) (by kernel_rfl) (fun _ _ _ h => h) (Or.inl ⟨by rfl, ?hy21⟩) (by assumption) ?_
                  case hy21 => (intro w hSw; (try dsimp only at hSw); go_simp; try (with_reducible rfl))
                  try simp only [Act.put, List.setIfInBounds_toArray, List.set_cons_zero, List.set_cons_succ]
                  refine wpAnyH_done (by kernel_rfl) ?_ _
                  refine NoPanic.normal ?_
                  (obtain ⟨W9, e9, b9, g9⟩ := setR HN7.out x0 x1 x2 (.slice A' n' c') s0 s1; rw [e9]; go_wp2; go_meet; case rel => exact ⟨wc.heap.size, n', c', A', s0, s1, rfl, ⟨LT3.out⟩, ⟨b9⟩, ⟨blk_gr (SS.in (W := (wc.alloc (.cells #[.int .i64 0, .int .i64 0, .int .i64 0, .slice none 0 0, .int .i64 0, .int .i64 0] 48 (0, 0))).drew) (blk_al hSe.out (.cells #[.int .i64 0, .int .i64 0, .int .i64 0, .slice none 0 0, .int .i64 0, .int .i64 0] 48 (0, 0))) HB7.out) g9 (Ne.symm nea)⟩, ⟨blk_gr (DC.in (W := (wc.alloc (.cells #[.int .i64 0, .int .i64 0, .int .i64 0, .slice none 0 0, .int .i64 0, .int .i64 0] 48 (0, 0))).drew) (blk_al hDe.out (.cells #[.int .i64 0, .int .i64 0, .int .i64 0, .slice none 0 0, .int .i64 0, .int .i64 0] 48 (0, 0))) HB7.out) g9 (Nat.ne_of_lt LT3.out)⟩, ⟨HG7.out.grown (HG7.out.typed HN7.out (by decide)) g9⟩, ⟨below_grown (below_tr (W := (wc.alloc (.cells #[.int .i64 0, .int .i64 0, .int .i64 0, .slice none 0 0, .int .i64 0, .int .i64 0] 48 (0, 0))).drew) (hBe.out.alloc hBe.out.size (.cells #[.int .i64 0, .int .i64 0, .int .i64 0, .slice none 0 0, .int .i64 0, .int .i64 0] 48 (0, 0))).drew HB7.out) g9 hBe.out.size⟩⟩)

            case rest =>
              obtain ⟨Bx, n', c', A', s0, s1, rfl, hlt, hSx, hSf, hDf, hGf, hBf⟩ := hcut
              clear hrb hVe hSe hDe hGe hBe
              obtain ⟨L1, L2, L3, L4⟩ := il_law hM.out.1 hM.out.2 pa pb nbad pask rb (HAS.out.symm) rfl HX.out
              have LA := Aside0.mk (show x0 = 2 → pa = true ∧ pb = true ∧ nbad = false ∧ (mode = 2 ∨ pask = 1) from L1)
              have LB := Aside0.mk (show closedB pa pb nbad = false → 3 ≤ x0 from L2)
              have LC := Aside0.mk (show (1 ≤ x0 ∧ x0 ≤ 5) ∧ 0 ≤ x2 ∧ x2 ≤ 60 from ⟨L3, L4⟩)
              clear L1 L2 L3 L4 HX HAS
              go_step
              go_step
              go_cut [116] (fun v116 wd => v116 = .bool false ∧ Aside0 (SS wd Bx x0 x1 x2 (.slice A' n' c') s0 s1) ∧ Aside0 (SS wd w2.heap.size mode cat left (.slice A n c) t0 t1) ∧ Aside0 (DC wd (w2.heap.size + 1) pa pb noff nbad) ∧ Aside0 (Good wd (.slice A' n' c')) ∧ Aside0 (Below w.heap.size w wd))
              case first =>
                have m0 : wc.cell? ⟨Bx, 0, none⟩ = some (.int .i64 x0) := (blk_cell hSx.out 0).trans rfl
                have m1 : wc.cell? ⟨Bx, 1, none⟩ = some (.int .i64 x1) := (blk_cell hSx.out 1).trans rfl
                have m2 : wc.cell? ⟨Bx, 2, none⟩ = some (.int .i64 x2) := (blk_cell hSx.out 2).trans rfl
                have m3 : wc.cell? ⟨Bx, 3, none⟩ = some (.slice A' n' c') := (blk_cell hSx.out 3).trans rfl
                have m4 : wc.cell? ⟨Bx, 4, none⟩ = some (.int .i64 s0) := (blk_cell hSx.out 4).trans rfl
                have m5 : wc.cell? ⟨Bx, 5, none⟩ = some (.int .i64 s1) := (blk_cell hSx.out 5).trans rfl
                have y0 : wc.cell? ⟨w2.heap.size, 0, none⟩ = some (.int .i64 mode) := (blk_cell hSf.out 0).trans rfl
                have y1 : wc.cell? ⟨w2.heap.size, 1, none⟩ = some (.int .i64 cat) := (blk_cell hSf.out 1).trans rfl
                have y2 : wc.cell? ⟨w2.heap.size, 2, none⟩ = some (.int .i64 left) := (blk_cell hSf.out 2).trans rfl
                have y3 : wc.cell? ⟨w2.heap.size, 3, none⟩ = some (.slice A n c) := (blk_cell hSf.out 3).trans rfl
                have y4 : wc.cell? ⟨w2.heap.size, 4, none⟩ = some (.int .i64 t0) := (blk_cell hSf.out 4).trans rfl
                have y5 : wc.cell? ⟨w2.heap.size, 5, none⟩ = some (.int .i64 t1) := (blk_cell hSf.out 5).trans rfl
                have d0 : wc.cell? ⟨w2.heap.size + 1, 0, none⟩ = some (.bool pa) := (blk_cell hDf.out 0).trans rfl
                have d1 : wc.cell? ⟨w2.heap.size + 1, 1, none⟩ = some (.bool pb) := (blk_cell hDf.out 1).trans rfl
                have d2 : wc.cell? ⟨w2.heap.size + 1, 2, none⟩ = some (.int .i64 noff) := (blk_cell hDf.out 2).trans rfl
                have d3 : wc.cell? ⟨w2.heap.size + 1, 3, none⟩ = some (.bool nbad) := (blk_cell hDf.out 3).trans rfl
                have z0 := (hBf.out.cell (World.block_lt_of_cell? w _ P0.out)).trans P0.out
                have z1 := (hBf.out.cell (World.block_lt_of_cell? w _ P1.out)).trans P1.out
                have z2 := (hBf.out.cell (World.block_lt_of_cell? w _ P2.out)).trans P2.out
                by_cases hx2 : x0 = 2
                · obtain ⟨e1, e2, e3, e4⟩ := LA.out hx2
                  subst e1
                  subst e2
                  subst e3
                  subst hx2
                  by_cases hm2 : mode = 2
                  · subst hm2
                    clear e4
                    go_wp2
                    go_meet
                    case rel => exact ⟨rfl, hSx, hSf, hDf, hGf, hBf⟩
                  · have e5 : pask = 1 := e4.resolve_left hm2
                    subst e5
                    have hm3 : (mode == 2) = false := beq_eq_false_iff_ne.mpr hm2
                    have hm4 : (mode != 2) = true := by simp [bne, hm3]
                    have hm5 : decide (mode = 2) = false := decide_eq_false hm2
                    clear e4
                    go_wp2
                    go_meet
                    case rel => exact ⟨rfl, hSx, hSf, hDf, hGf, hBf⟩
                · have hx3 : (x0 == 2) = false := beq_eq_false_iff_ne.mpr hx2
                  clear hx2
                  go_wp2
                  go_meet
                  case rel => exact ⟨rfl, hSx, hSf, hDf, hGf, hBf⟩
              case rest =>
                obtain ⟨rfl, hSx2, hSf2, hDf2, hGf2, hBf2⟩ := hcut
                clear hSx hSf hDf hGf hBf
                go_step
                go_step
                go_cut [124] (fun v124 wd => v124 = .bool false ∧ Aside0 (SS wd Bx x0 x1 x2 (.slice A' n' c') s0 s1) ∧ Aside0 (SS wd w2.heap.size mode cat left (.slice A n c) t0 t1) ∧ Aside0 (DC wd (w2.heap.size + 1) pa pb noff nbad) ∧ Aside0 (Good wd (.slice A' n' c')) ∧ Aside0 (Below w.heap.size w wd))
                case first =>
                  have m0 : wc.cell? ⟨Bx, 0, none⟩ = some (.int .i64 x0) := (blk_cell hSx2.out 0).trans rfl
                  have m1 : wc.cell? ⟨Bx, 1, none⟩ = some (.int .i64 x1) := (blk_cell hSx2.out 1).trans rfl
                  have m2 : wc.cell? ⟨Bx, 2, none⟩ = some (.int .i64 x2) := (blk_cell hSx2.out 2).trans rfl
                  have m3 : wc.cell? ⟨Bx, 3, none⟩ = some (.slice A' n' c') := (blk_cell hSx2.out 3).trans rfl
                  have m4 : wc.cell? ⟨Bx, 4, none⟩ = some (.int .i64 s0) := (blk_cell hSx2.out 4).trans rfl
                  have m5 : wc.cell? ⟨Bx, 5, none⟩ = some (.int .i64 s1) := (blk_cell hSx2.out 5).trans rfl
                  have d0 : wc.cell? ⟨w2.heap.size + 1, 0, none⟩ = some (.bool pa) := (blk_cell hDf2.out 0).trans rfl
                  have d1 : wc.cell? ⟨w2.heap.size + 1, 1, none⟩ = some (.bool pb) := (blk_cell hDf2.out 1).trans rfl
                  have d2 : wc.cell? ⟨w2.heap.size + 1, 2, none⟩ = some (.int .i64 noff) := (blk_cell hDf2.out 2).trans rfl
                  have d3 : wc.cell? ⟨w2.heap.size + 1, 3, none⟩ = some (.bool nbad) := (blk_cell hDf2.out 3).trans rfl
                  cases cb with
                  | true =>
                    go_wp2_with (go_at_call 27; refine (closed_run pa pb noff nbad _).mono ?_; rw [HCB.out]; rintro e w6 ⟨rfl, hb6⟩; have HB6 := Aside0.mk hb6; clear hb6)
                    go_meet
                    case rel => exact ⟨rfl, ⟨hSx2.out.in HB6.out⟩, ⟨hSf2.out.in HB6.out⟩, ⟨hDf2.out.in HB6.out⟩, ⟨hGf2.out.below HB6.out⟩, ⟨below_tr hBf2.out HB6.out⟩⟩
                  | false =>
                    have h3 := LB.out HCB.out
                    obtain ⟨cm, hcm⟩ : ∃ cm, cmdS x0 x1 = cm := ⟨_, rfl⟩
                    have hcm0 : ¬ cm = 0 := by rw [← hcm]; exact cmd_ne h3 LC.out.1.2
                    have hcm1 : (cm == 0) = false := beq_eq_false_iff_ne.mpr hcm0
                    have HCM := Aside0.mk hcm
                    clear h3 hcm hcm0
                    go_wp2_with (first
                      | (go_at_call 27; refine (closed_run pa pb noff nbad _).mono ?_; rw [HCB.out]; rintro e w6 ⟨rfl, hb6⟩; have HB6 := Aside0.mk hb6; have m0x := cell_in m0 hb6; have m1x := cell_in m1 hb6; have m2x := cell_in m2 hb6; have m3x := cell_in m3 hb6; have m4x := cell_in m4 hb6; have m5x := cell_in m5 hb6; clear hb6)
                      | (go_at_call 23; refine (command_run x0 x1 x2 A' n' c' s0 s1 _).mono ?_; rw [HCM.out]; rintro e w8 ⟨rfl, hb8⟩; have HB8 := Aside0.mk hb8; clear hb8))
                    go_meet
                    case rel => exact ⟨rfl, ⟨SS.in (hSx2.out.in HB6.out) HB8.out⟩, ⟨SS.in (hSf2.out.in HB6.out) HB8.out⟩, ⟨DC.in (hDf2.out.in HB6.out) HB8.out⟩, ⟨Good.below (hGf2.out.below HB6.out) HB8.out⟩, ⟨below_tr (below_tr hBf2.out HB6.out) HB8.out⟩⟩
                case rest =>
                  obtain ⟨rfl, hSx, hSf, hDf, hGf, hBf⟩ := hcut
                  clear hSx2 hSf2 hDf2 hGf2 hBf2
                  have m0 : wc.cell? ⟨Bx, 0, none⟩ = some (.int .i64 x0) := (blk_cell hSx.out 0).trans rfl
                  have m1 : wc.cell? ⟨Bx, 1, none⟩ = some (.int .i64 x1) := (blk_cell hSx.out 1).trans rfl
                  have m2 : wc.cell? ⟨Bx, 2, none⟩ = some (.int .i64 x2) := (blk_cell hSx.out 2).trans rfl
                  have m3 : wc.cell? ⟨Bx, 3, none⟩ = some (.slice A' n' c') := (blk_cell hSx.out 3).trans rfl
                  have m4 : wc.cell? ⟨Bx, 4, none⟩ = some (.int .i64 s0) := (blk_cell hSx.out 4).trans rfl
                  have m5 : wc.cell? ⟨Bx, 5, none⟩ = some (.int .i64 s1) := (blk_cell hSx.out 5).trans rfl
                  have y0 : wc.cell? ⟨w2.heap.size, 0, none⟩ = some (.int .i64 mode) := (blk_cell hSf.out 0).trans rfl
                  have y1 : wc.cell? ⟨w2.heap.size, 1, none⟩ = some (.int .i64 cat) := (blk_cell hSf.out 1).trans rfl
                  have y2 : wc.cell? ⟨w2.heap.size, 2, none⟩ = some (.int .i64 left) := (blk_cell hSf.out 2).trans rfl
                  have y3 : wc.cell? ⟨w2.heap.size, 3, none⟩ = some (.slice A n c) := (blk_cell hSf.out 3).trans rfl
                  have y4 : wc.cell? ⟨w2.heap.size, 4, none⟩ = some (.int .i64 t0) := (blk_cell hSf.out 4).trans rfl
                  have y5 : wc.cell? ⟨w2.heap.size, 5, none⟩ = some (.int .i64 t1) := (blk_cell hSf.out 5).trans rfl
                  have HSF := Aside0.mk hSf.out
                  have f0 := blk_frozen hSf.out 0
                  have f1 := blk_frozen hSf.out 1
                  have f2 := blk_frozen hSf.out 2
                  have f3 := blk_frozen hSf.out 3
                  have f4 := blk_frozen hSf.out 4
                  have f5 := blk_frozen hSf.out 5
                  go_wp2
                  obtain ⟨W9, e9, b9, g9⟩ := setR hSf.out x0 x1 x2 (.slice A' n' c') s0 s1
                  rw [e9]
                  go_roundw
                  case rel => exact ⟨k + 1, n', c', A', x0, x1, x2, s0, s1, noff, pa, pb, nbad, by rw [wrapk q3 H1.out], q3, ⟨LC.out.1, LC.out.2⟩, ⟨b9⟩, ⟨blk_gr hDf.out g9 (by omega)⟩, ⟨hGf.out.grown (hGf.out.typed hSf.out (by decide)) g9⟩, ⟨below_grown hBf.out g9 HS2.out⟩⟩
                  case measure => exact meask q3 H1.out
    · go_wp2
      go_ret
      exact ⟨rfl, hB.out⟩
end Go.Proofs.Ythmddbffhbfmeaa.Sup
