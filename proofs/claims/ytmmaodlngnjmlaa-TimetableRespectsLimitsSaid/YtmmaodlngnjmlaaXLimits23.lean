/- The law of the limits: its walk (begun). The law of the limits, given the head: what the timetable does, in plain Lean, handed to the walk. The law of the limits, with its head. -/
import Derived.Test.YtmmaodlngnjmlaaP4
import Derived.Test.YtmmaodlngnjmlaaP5
import Derived.Test.YtmmaodlngnjmlaaP4
import Derived.LoopN
import Derived.KernelRfl
import Derived.Tactics
import Derived.Deep.RegionHeld3
import Derived.Test.YtmmaodlngnjmlaaXStill
import Derived.Test.YtmmaodlngnjmlaaXWays23
import Derived.Test.YtmmaodlngnjmlaaXTime23
import Derived.Test.YtmmaodlngnjmlaaP7
import Derived.Test.YtmmaodlngnjmlaaXHead23
namespace Go.Proofs.Ytmmaodlngnjmlaa.Lims
set_option linter.unusedVariables false
set_option linter.unusedSimpArgs false
open Go Go.RowKit Go.Proofs.Ytmmaodlngnjmlaa Go.Proofs.YtmmaodlngnjmlaaW.PrintWords Go.Proofs.YtmmaodlngnjmlaaW.PrintMore Go.Proofs.YtmmaodlngnjmlaaW.PrintLast Go.Proofs.Ytmmaodlngnjmlaa.P
theorem blk_in {W W' : World} {b : Nat} {o : Obj} (h : W.heap[b]? = some o) (hB : Below W.heap.size W W') : W'.heap[b]? = some o := (hB.block b (Array.getElem?_eq_some_iff.1 h).1).trans h
theorem blk_al {W : World} {b : Nat} {o : Obj} (h : W.heap[b]? = some o) (o' : Obj) : (W.alloc o').heap[b]? = some o := (Below.heap_alloc W o' b (Array.getElem?_eq_some_iff.1 h).1).trans h
theorem below_tr {w W W' : World} (h : Below w.heap.size w W) (hB : Below W.heap.size W W') : Below w.heap.size w W' := h.trans (hB.mono h.size)
theorem below_al {w W W' : World} {o : Obj} (h : Below w.heap.size w W) (hB : Below (W.alloc o).heap.size (W.alloc o) W') : Below w.heap.size w W' := (h.alloc h.size o).trans (hB.mono (h.alloc h.size o).size)
/-- The six rows of the law, in one block: each its own, none another's. -/
structure Six (W : World) (base gb : Nat) (v : Nat → Value) (ls : Nat → List Int) : Prop where
  blk : W.heap[gb]? = some (.cells #[v 0, v 1, v 2, v 3, v 4, v 5] 86 (0, 0))
  low : base ≤ gb
  row : ∀ i, i < 6 → Kd.R (Kd.int .i64) 3 W base (fun _ => True) (v i) (ls i)
  ap : ∀ i j, i < 6 → j < 6 → i ≠ j → ∀ b, (v i).ownBlock = some b → (v j).ownBlock ≠ some b
theorem Six.below {W W' : World} {base gb : Nat} {v : Nat → Value} {ls : Nat → List Int} (h : Six W base gb v ls) (hB : Below W.heap.size W W') : Six W' base gb v ls :=
  ⟨blk_in h.blk hB, h.low, fun i hi => Kd.R_below (h.row i hi) hB, h.ap⟩
def updV (v : Nat → Value) (i : Nat) (x : Value) : Nat → Value := fun j => if j = i then x else v j
def updL (l : Nat → List Int) (i : Nat) (x : List Int) : Nat → List Int := fun j => if j = i then x else l j
theorem cells_set (v : Nat → Value) {i : Nat} (hi : i < 6) (x : Value) : (#[v 0, v 1, v 2, v 3, v 4, v 5] : Array Value).setIfInBounds i x = #[updV v i x 0, updV v i x 1, updV v i x 2, updV v i x 3, updV v i x 4, updV v i x 5] := by
  match i, hi with
  | 0, _ => rfl
  | 1, _ => rfl
  | 2, _ => rfl
  | 3, _ => rfl
  | 4, _ => rfl
  | 5, _ => rfl
  | k + 6, h => omega
theorem cells_get (v : Nat → Value) {i : Nat} (hi : i < 6) : (#[v 0, v 1, v 2, v 3, v 4, v 5] : Array Value)[i]? = some (v i) := by
  match i, hi with
  | 0, _ => rfl
  | 1, _ => rfl
  | 2, _ => rfl
  | 3, _ => rfl
  | 4, _ => rfl
  | 5, _ => rfl
  | k + 6, h => omega
/-- A row appended to and put back. -/
theorem Six.put {W W1 : World} {base gb : Nat} {v : Nat → Value} {ls : Nat → List Int} (h : Six W base gb v ls) {i : Nat} (hi : i < 6) {v1 : Value} {p : Int} (hR : Kd.R (Kd.int .i64) 3 W1 base (fun _ => True) v1 (ls i ++ [p])) (hg : W.grownBy W1 (v i).ownBlock) (hat : v1.ownBlock = (v i).ownBlock ∨ ∃ b, v1.ownBlock = some b ∧ W.heap.size ≤ b) :
    Six (W1.setCell ⟨gb, i, none⟩ v1) base gb (updV v i v1) (updL ls i (ls i ++ [p])) := by
  have hgb : some gb ≠ (v i).ownBlock := Kd.R_ne (h.row i hi) h.blk (by decide)
  have hlt : gb < W.heap.size := (Array.getElem?_eq_some_iff.1 h.blk).1
  have b1 : W1.heap[gb]? = some (.cells #[v 0, v 1, v 2, v 3, v 4, v 5] 86 (0, 0)) := (hg.block gb hlt (fun e => hgb e)).trans h.blk
  have hrow : ∀ j, j < 6 → j ≠ i → Kd.R (Kd.int .i64) 3 W1 base (fun _ => True) (v j) (ls j) := fun j hj hne =>
    Kd.R_grown2 (h.row j hj) rfl hg (fun k hk e => h.ap i j hi hj (fun e' => hne e'.symm) k hk e.symm)
  refine ⟨?_, h.low, fun j hj => ?_, fun a b ha hb hab k hk => ?_⟩
  · have hs := blk_set b1 i v1
    rw [cells_set v hi] at hs
    exact hs
  · unfold updV updL
    by_cases c : j = i
    · rw [if_pos c, if_pos c]
      exact Kd.R_set hR b1 (by decide) i v1
    · rw [if_neg c, if_neg c]
      exact Kd.R_set (hrow j hj c) b1 (by decide) i v1
  · unfold updV at hk ⊢
    by_cases ca : a = i
    · have cb : b ≠ i := fun e => hab (ca.trans e.symm)
      rw [if_pos ca] at hk
      rw [if_neg cb]
      rcases hat with e | ⟨q, e, hq⟩
      · rw [e] at hk
        exact h.ap i b hi hb (fun e' => cb e'.symm) k hk
      · rw [e] at hk
        cases hk
        exact fun e' => by have := Kd.R_lt (h.row b hb) _ e'; omega
    · rw [if_neg ca] at hk
      by_cases cb : b = i
      · rw [if_pos cb]
        rcases hat with e | ⟨q, e, hq⟩
        · rw [e]
          exact h.ap a i ha hi ca k hk
        · rw [e]
          exact fun e' => by
            cases e'
            have := Kd.R_lt (h.row a ha) _ hk
            omega
      · rw [if_neg cb]
        exact h.ap a b ha hb hab k hk
/-- The rows behind n appends of tick T. -/
def lsm (P : Nat → Nat → Int) (T n : Nat) (j : Nat) : List Int := (List.range (if j < n then T + 1 else T)).map fun x => P x j
theorem Six.congr {W : World} {base gb : Nat} {v : Nat → Value} {ls ls' : Nat → List Int} (h : Six W base gb v ls) (e : ∀ i, i < 6 → ls i = ls' i) : Six W base gb v ls' :=
  ⟨h.blk, h.low, fun i hi => by rw [← e i hi]; exact h.row i hi, h.ap⟩
theorem lsm_put (P : Nat → Nat → Int) (T a k : Nat) (i : Nat) : updL (fun j => lsm P T (3 * a + k) j) (a * 3 + k) (lsm P T (3 * a + k) (a * 3 + k) ++ [P T (a * 3 + k)]) i = lsm P T (3 * a + (k + 1)) i := by
  unfold updL
  by_cases c : i = a * 3 + k
  · rw [if_pos c, c]
    unfold lsm
    rw [if_neg (by omega), if_pos (by omega), List.range_succ, List.map_append]
    rfl
  · rw [if_neg c]
    show lsm P T (3 * a + k) i = _
    unfold lsm
    by_cases c2 : i < 3 * a + k
    · rw [if_pos c2, if_pos (by omega)]
    · rw [if_neg c2, if_neg (by omega)]
theorem blk_far2 {W : World} {b g j : Nat} {o : Obj} {u : Value} (h : W.heap[b]? = some o) (hne : b ≠ g) : (W.setCell ⟨g, j, none⟩ u).heap[b]? = some o := (Below.heap_setCell W ⟨g, j, none⟩ u b hne).trans h
theorem pk_ {P : Program} {ops : Array Oper} {Q : Exit → Act → World → Prop} {md : Region.Mode} {S : World → Prop} {ds : List Nat} {i : Nat} {N : Option Tmp} {oi : Oper} {v : Value} {fuel : Nat} {l : Array Bool} {a a' : Act} {w : World} (l' : Array Bool)
    (h : wpAnyLast P md ops Q S ds fuel l' a' w) (hi : ops[i]? = some oi := by exact rfl) (hN : oi.dst = N := by exact rfl) (hc : anyB md ops l l' i = true := by kernel_rfl) (hQ : ∀ c a w, Q (.panic c) (a.put oi.dst v) w → Q (.panic c) a w := by exact fun _ _ _ h => h)
    (hy : Yields P ops oi v a := by refine Or.inl ⟨by rfl, ?_⟩; intro w'; go_simp; with_reducible rfl) (ha : a.put N v = a' := by simp only [Act.put, List.setIfInBounds_toArray, List.set_cons_zero, List.set_cons_succ, i64_w, i32_w]; rfl) :
    wpAnyLast P md ops Q S ds (fuel + 1) l a w := pure_ l' hi hN hc hQ hy ha h
theorem cell_al2 {W : World} {p : Addr} {v : Value} (h : W.cell? p = some v) (o : Obj) : (W.alloc o).cell? p = some v := (World.cell?_alloc_lt _ _ _ (World.block_lt_of_cell? _ _ h)).trans h
theorem lsm_len (P : Nat → Nat → Int) (T n j : Nat) (hT : T < 300) : ((lsm P T n j).length + 1) * 8 ≤ 140737488355328 := by
  unfold lsm
  rw [List.length_map, List.length_range]
  split <;> omega
abbrev I : Bool := true
abbrev O : Bool := false
theorem get6 (o : Nat → Int) {i : Nat} (hi : i < 6) : (#[.int .i64 (o 0), .int .i64 (o 1), .int .i64 (o 2), .int .i64 (o 3), .int .i64 (o 4), .int .i64 (o 5)] : Array Value)[i]? = some (.int .i64 (o i)) := by
  match i, hi with
  | 0, _ => rfl
  | 1, _ => rfl
  | 2, _ => rfl
  | 3, _ => rfl
  | 4, _ => rfl
  | 5, _ => rfl
  | k + 6, h => omega
theorem six_zero (W : World) : Six (W.alloc (.cells #[.slice none 0 0, .slice none 0 0, .slice none 0 0, .slice none 0 0, .slice none 0 0, .slice none 0 0] 86 (0, 0))) W.heap.size W.heap.size (fun _ => .slice none 0 0) (fun _ => []) :=
  ⟨heap_alloc_new W _, Nat.le_refl _, fun i hi => Kd.R_nil _ _ _ _ _, fun i j hi hj hij b hb => by simp [Value.ownBlock] at hb⟩
theorem lsm_zero (P : Nat → Nat → Int) : (fun j => lsm P 0 0 j) = fun _ => [] := by
  funext j
  unfold lsm
  rw [if_neg (Nat.not_lt_zero _)]
  rfl
theorem lsm_six (P : Nat → Nat → Int) (T : Nat) {j : Nat} (hj : j < 6) : lsm P T 6 j = lsm P (T + 1) 0 j := by
  unfold lsm
  rw [if_pos hj, if_neg (Nat.not_lt_zero _)]
set_option maxRecDepth 100000 in
set_option maxHeartbeats 4000000 in
theorem lims_main (x0 x1 x2 V A J : Int) (A1 : Option Addr) (c1 : Nat) (l1 : List S63) (w : World) (hr1 : Kd.C k63 w A1 l1.length l1) (hc1 : l1.length ≤ c1) (hhead : ∀ w : World, Calls Try.prog 31 #[] w fun e w' => e = .returned (.bool true) ∧ Below w.heap.size w w')
    (hlim : ambidexterlaw23_lim.f x0 x1 x2 = some (V, A, J)) (K : Nat) (t : List S67) (hseq : timetable_Sequential.f K V A J l1 = some (t, 0)) (hlen : ¬ 30 < l1.length) (hsmall : ambidexterlaw23_small.f K t = some true) (tot : Nat) (htot : tot ≤ 2000) (hdur : timetable_Duration.f K t = some (tot : Int))
    (P : Nat → Nat → Int) (hpos : ∀ T : Nat, T ≤ 300 → timetable_PositionsAt.f 0 0 0 0 0 0 t (T : Int) = some (P T 0, P T 1, P T 2, P T 3, P T 4, P T 5)) (hlimited : ∀ i m, i < 6 → m ≤ 300 → ambidexterlaw23_limited.f K V A J ((List.range m).map fun T => P T i) = some true) :
    Calls Try.prog 9 #[.agg #[.int .u8 x0, .int .u8 x1, .int .u8 x2], .slice A1 l1.length c1] w fun e w' => e = .returned (.bool true) ∧ Below w.heap.size w w' := by
  have HR1 := Aside0.mk hr1
  have HC1 := Aside0.mk hc1
  have HPOS := Aside0.mk hpos
  have HLIM := Aside0.mk hlimited
  have HHEAD := Aside0.mk hhead
  have HL := Aside0.mk hlim
  have HSEQ := Aside0.mk hseq
  have HSM := Aside0.mk hsmall
  have HDUR := Aside0.mk hdur
  have HTOT := Aside0.mk htot
  have d1 : decide (30 < l1.length) = false := decide_eq_false hlen
  have d2 : decide ((30 : Int) < (l1.length : Int)) = false := decide_eq_false (by omega)
  clear hr1 hc1 hpos hlimited hhead hlim hseq hsmall hdur htot hlen
  have B0 := Aside0.mk (heap_alloc_new w (.cells #[.int .u8 x0, .int .u8 x1, .int .u8 x2] 51 (0, 0)))
  go_enter Try.func9, Try.ntmps9
  go_wp2_with (first
    | (go_at_call 31; refine (HHEAD.out _).mono ?_; rintro e wa ⟨rfl, hb⟩; have HBa := Aside0.mk (below_al (Below.refl w.heap.size w) hb); have Ba := Aside0.mk (blk_in B0.out hb); have c0 := (blk_cell Ba.out 0).trans rfl; have c1_ := (blk_cell Ba.out 1).trans rfl; have c2 := (blk_cell Ba.out 2).trans rfl; clear hb)
    | (go_at_call 42; refine (ambidexterlaw23_lim.calls x0 x1 x2 V A J _ HL.out).mono ?_; rintro e wb ⟨rfl, hb⟩; have HBb := Aside0.mk (below_tr HBa.out hb); clear hb c0 c1_ c2)
    | (go_at_call 27; refine (timetable_Sequential.calls K V A J A1 c1 l1 t 0 _ (Kd.C_alloc (Kd.C_below HR1.out HBb.out) _) HC1.out HSEQ.out).mono ?_; rintro e wc ⟨v0, rfl, hS, hb⟩; have BXc := Aside0.mk (blk_in (heap_alloc_new wb (.cells #[.int .i64 V, .int .i64 A, .int .i64 J] 25 (0, 0))) hb); have HBc := Aside0.mk (below_al HBb.out hb); obtain ⟨A7, c7, e7⟩ := Kd.S_slice hS; subst e7; have CT := Aside0.mk (Kd.S_reads' hS).2.2; have LT := Aside0.mk (Kd.S_reads' hS).2.1; clear hb hS)
    | (go_at_call 43; refine (ambidexterlaw23_small.calls K A7 c7 t true _ CT.out LT.out HSM.out).mono ?_; rintro e wd ⟨rfl, hb⟩; have BXd := Aside0.mk (blk_in BXc.out hb); have HBd := Aside0.mk (below_tr HBc.out hb); have CTd := Aside0.mk (Kd.C_below CT.out hb); clear hb))
  have F0 := Aside0.mk (six_zero wd)
  rw [← lsm_zero P] at F0
  have HWd := Aside0.mk ((Below.refl wd.heap.size wd).alloc (Nat.le_refl _) (.cells #[.slice none 0 0, .slice none 0 0, .slice none 0 0, .slice none 0 0, .slice none 0 0, .slice none 0 0] 86 (0, 0)))
  clear d1 d2
  go_loopw [10] (fun i wr => ∃ (T : Nat) (v : Nat → Value), i = .int .i64 T ∧ T ≤ 300 ∧ Aside0 (Six wr wd.heap.size wd.heap.size v (fun j => lsm P T 0 j)) ∧ Aside0 (Below wd.heap.size wd wr))
    (fun i _ => 300 - (intOf i).toNat)
  case atStart => exact ⟨0, fun _ => .slice none 0 0, rfl, by omega, F0, HWd⟩
  case round =>
    obtain ⟨T, v, rfl, hT, hS, hB⟩ := hrel
    clear F0 HWd
    have e1 : wrap64 ((tot : Int) + 2) = (tot : Int) + 2 := by have := HTOT.out; unfold wrap64; omega
    by_cases h1 : T ≤ tot + 2
    · have d1 : decide ((T : Int) ≤ (tot : Int) + 2) = true := decide_eq_true (by omega)
      by_cases h2 : T < 300
      · have d2 : decide ((T : Int) < 300) = true := decide_eq_true (by omega)
        have H2 := Aside0.mk h2
        clear h1 h2
        go_wp2_with (first
          | (go_at_call 29; refine (timetable_Duration.calls K A7 c7 t (tot : Int) _ (Kd.C_below CTd.out hB.out) LT.out HDUR.out).mono ?_; rintro e we ⟨rfl, hb⟩; have hSe := Aside0.mk (hS.out.below hb); have hBe := Aside0.mk (below_tr hB.out hb); clear hb)
          | (go_at_call 30; refine (timetable_PositionsAt.calls 0 0 0 0 0 0 A7 c7 t (T : Int) (P T 0) (P T 1) (P T 2) (P T 3) (P T 4) (P T 5) _ (Kd.C_below CTd.out hBe.out) LT.out (HPOS.out T (by omega))).mono ?_; rintro e wf ⟨rfl, hb⟩; have hSf := Aside0.mk (hSe.out.below hb); have hBf := Aside0.mk (below_tr hBe.out hb); clear hb))
        have PB := Aside0.mk (heap_alloc_new wf (.cells #[.int .i64 (P T 0), .int .i64 (P T 1), .int .i64 (P T 2), .int .i64 (P T 3), .int .i64 (P T 4), .int .i64 (P T 5)] 69 (0, 0)))
        have F1 := Aside0.mk (hSf.out.below ((Below.refl wf.heap.size wf).alloc (Nat.le_refl _) (.cells #[.int .i64 (P T 0), .int .i64 (P T 1), .int .i64 (P T 2), .int .i64 (P T 3), .int .i64 (P T 4), .int .i64 (P T 5)] 69 (0, 0))))
        have F2 := Aside0.mk (hBf.out.alloc hBf.out.size (.cells #[.int .i64 (P T 0), .int .i64 (P T 1), .int .i64 (P T 2), .int .i64 (P T 3), .int .i64 (P T 4), .int .i64 (P T 5)] 69 (0, 0)))
        have HGE := Aside0.mk (show wd.heap.size ≤ wf.heap.size from hBf.out.size)
        have HLT := Aside0.mk (show wd.heap.size < wf.heap.size from (Array.getElem?_eq_some_iff.1 hSf.out.blk).1)
        clear d1 d2 hS hB hSe hBe hSf hBf
        go_loopw [12] (fun i wr => ∃ (a : Nat) (v : Nat → Value), i = .int .i64 a ∧ a ≤ 2 ∧ Aside0 (Six wr wd.heap.size wd.heap.size v (fun j => lsm P T (3 * a) j)) ∧ Aside0 (wr.heap[wf.heap.size]? = some (.cells #[.int .i64 (P T 0), .int .i64 (P T 1), .int .i64 (P T 2), .int .i64 (P T 3), .int .i64 (P T 4), .int .i64 (P T 5)] 69 (0, 0))) ∧ Aside0 (Below wd.heap.size wd wr))
          (fun i _ => 2 - (intOf i).toNat)
        case atStart => exact ⟨0, v, rfl, by omega, F1, PB, F2⟩
        case round =>
          obtain ⟨a, v1, rfl, ha, hS, hP, hB⟩ := hrel
          clear F1 F2 PB
          by_cases h3 : a < 2
          · have d3 : decide ((a : Int) < 2) = true := decide_eq_true (by omega)
            have H3 := Aside0.mk h3
            clear h3
            go_wp2
            have F1 := Aside0.mk (show Six _ wd.heap.size wd.heap.size v1 (fun j => lsm P T (3 * a + 0) j) from hS.out)
            go_loopw [13] (fun i wr => ∃ (k : Nat) (v : Nat → Value), i = .int .i64 k ∧ k ≤ 3 ∧ Aside0 (Six wr wd.heap.size wd.heap.size v (fun j => lsm P T (3 * a + k) j)) ∧ Aside0 (wr.heap[wf.heap.size]? = some (.cells #[.int .i64 (P T 0), .int .i64 (P T 1), .int .i64 (P T 2), .int .i64 (P T 3), .int .i64 (P T 4), .int .i64 (P T 5)] 69 (0, 0))) ∧ Aside0 (Below wd.heap.size wd wr))
              (fun i _ => 3 - (intOf i).toNat)
            case atStart => exact ⟨0, v1, rfl, by omega, F1, hP, hB⟩
            case round =>
              obtain ⟨k, v2, rfl, hk, hS2, hP2, hB2⟩ := hrel
              clear F1 hS hP hB
              by_cases h4 : k < 3
              · have d4 : decide ((k : Int) < 3) = true := decide_eq_true (by omega)
                have H4 := Aside0.mk h4
                have i1 : (a : Int) < 2 := by have := H3.out; omega
                have i2 : (k : Int) < 3 := by omega
                clear h4
                have q0 : wr.cell? ⟨wd.heap.size, a * 3 + k, none⟩ = some (v2 (a * 3 + k)) := (blk_cell hS2.out.blk _).trans (cells_get v2 (by have := H3.out; have := H4.out; omega))
                have q1 : wr.cell? ⟨wf.heap.size, a * 3 + k, none⟩ = some (.int .i64 (P T (a * 3 + k))) := (blk_cell hP2.out _).trans (get6 (P T) (by have := H3.out; have := H4.out; omega))
                go_wp2
                have hB2d := Aside0.mk (hB2.out.drew)
                have hS2d := Aside0.mk (hS2.out.below (Below.drew (Below.refl _ _)))
                have hP2d := Aside0.mk (blk_in hP2.out (Below.drew (Below.refl wr.heap.size wr)))
                refine start_ (n := 17) (S := fun w' => w'.cell? ⟨wd.heap.size, a * 3 + k, none⟩ = some (v2 (a * 3 + k)) ∧ w'.cell? ⟨wf.heap.size, a * 3 + k, none⟩ = some (.int .i64 (P T (a * 3 + k)))) (ds := [16]) #[O,O,O,O,O,O,O,O,O,O,O,O,O,O,O,O,O] (by kernel_rfl) rfl rfl ⟨q0, q1⟩ (fun hHeld => ?_)
                generalize wr.drew = wx at hHeld hB2d hS2d hP2d ⊢
                refine pk_ (i := 0) (N := some 65) #[I,O,O,O,O,O,O,O,O,O,O,O,O,O,O,O,O] ?_
                refine pk_ (i := 1) (N := some 66) #[I,I,O,O,O,O,O,O,O,O,O,O,O,O,O,O,O] ?_
                refine pk_ (i := 2) (N := some 67) #[I,I,I,O,O,O,O,O,O,O,O,O,O,O,O,O,O] ?_
                refine pk_ (i := 3) (N := some 68) #[I,I,I,I,O,O,O,O,O,O,O,O,O,O,O,O,O] ?_
                refine pk_ (i := 4) (N := some 69) #[I,I,I,I,I,O,O,O,O,O,O,O,O,O,O,O,O] ?_
                refine pk_ (i := 5) (N := some 70) #[I,I,I,I,I,I,O,O,O,O,O,O,O,O,O,O,O] ?_
                refine pk_ (i := 7) (N := some 72) #[I,I,I,I,I,I,O,I,O,O,O,O,O,O,O,O,O] ?_
                refine pk_ (i := 8) (N := some 73) #[I,I,I,I,I,I,O,I,I,O,O,O,O,O,O,O,O] ?_
                refine pk_ (i := 9) (N := some 74) #[I,I,I,I,I,I,O,I,I,I,O,O,O,O,O,O,O] ?_
                refine pk_ (i := 10) (N := some 75) #[I,I,I,I,I,I,O,I,I,I,I,O,O,O,O,O,O] ?_
                refine pk_ (i := 14) (N := some 79) #[I,I,I,I,I,I,O,I,I,I,I,O,O,O,I,O,O] ?_
                refine take_ (i := 6) (N := some 71) (v := ?_) (a' := ?_) #[I,I,I,I,I,I,I,I,I,I,I,O,O,O,I,O,O] rfl rfl (by kernel_rfl) (fun _ _ _ h => h) (Or.inl ⟨by rfl, ?_⟩) hHeld ?_ ?_
                rotate_left; · (rintro w' ⟨s0, s1⟩; go_simp; with_reducible rfl)
                rotate_left; · (simp only [Act.put, List.setIfInBounds_toArray, List.set_cons_zero, List.set_cons_succ, i64_w, i32_w]; rfl)
                refine take_ (i := 11) (N := some 76) (v := ?_) (a' := ?_) #[I,I,I,I,I,I,I,I,I,I,I,I,O,O,I,O,O] rfl rfl (by kernel_rfl) (fun _ _ _ h => h) (Or.inl ⟨by rfl, ?_⟩) hHeld ?_ ?_
                rotate_left; · (rintro w' ⟨s0, s1⟩; go_simp; with_reducible rfl)
                rotate_left; · (simp only [Act.put, List.setIfInBounds_toArray, List.set_cons_zero, List.set_cons_succ, i64_w, i32_w]; rfl)
                refine one_ (i := 12) (N := some 77) #[I,I,I,I,I,I,I,I,I,I,I,I,I,O,I,O,O] rfl rfl (by kernel_rfl) (by decide) (fun K_ hK => ?_)
                refine value_ (w1 := ?_) (v := ?_) (by rfl) rfl ?_ ?_
                rotate_left 2
                · go_simp
                  constructor
                  · rfl
                  · rfl
                refine hK.out _ _ ⟨cell_al2 hHeld.1 _, cell_al2 hHeld.2 _⟩ (fun hHeld => ?_)
                clear hK K_
                refine norm_ (a' := ?_) ?_ ?_
                rotate_left
                · (show Act.put _ (some 77) _ = _; simp only [Act.put, List.setIfInBounds_toArray, List.set_cons_zero, List.set_cons_succ, i64_w, i32_w]; rfl)
                refine one_ (i := 13) (N := some 78) (oi := {dst := some 78, op := Go.Op.call { callee := Go.Callee.builtin Go.Builtin.append, args := #[Go.Operand.tmp 71, Go.Operand.tmp 77], argTypes := #[27, 27] }, type := 27, pos := "law.go:182", after := #[{on := 6, ground := Go.Ground.data}, {on := 12, ground := Go.Ground.data}], guard := none}) #[I,I,I,I,I,I,I,I,I,I,I,I,I,I,I,O,O] rfl rfl (by kernel_rfl) (by decide) (fun K_ hK => ?_)
                refine Kd.R_append_step (Kd.int .i64) (w0 := wd) wd.heap.size ?hw (.tmp 71) (.tmp 77) 27 3 (.int .i64 0) 8 ?hop Try.underlying27 info3 rfl (by decide) (by omega) (v2 (a * 3 + k)) (lsm P T (3 * a + k) (a * 3 + k)) (P T (a * 3 + k)) [.int .i64 (P T (a * 3 + k))] (fun _ => True) (fun _ => False) ?hs ?hx ?aP (fun _ hk => hk.elim) (fun _ _ => trivial) ?aO ?aB ?aS ?aL ?_
                (case hw => rfl)
                (case hop => rfl)
                (case hs => rfl)
                (case hx => first | rfl | (go_simp; rfl))
                (case aP => exact rfl)
                (case aB => exact hB2d.out)
                (case aO => exact hS2d.out.row _ (by have := H3.out; have := H4.out; omega))
                (case aS => exact hB2d.out.size)
                (case aL => exact lsm_len P T _ _ H2.out)
                intro v3 w3 ho hb hg hat
                obtain ⟨A3, c3, e3⟩ := Kd.R_slice ho
                subst e3
                have hi6 : a * 3 + k < 6 := by have := H3.out; have := H4.out; omega
                have nb : some wd.heap.size ≠ (v2 (a * 3 + k)).ownBlock := Kd.R_ne (hS2d.out.row _ hi6) hS2d.out.blk (by decide)
                have np : some wf.heap.size ≠ (v2 (a * 3 + k)).ownBlock := Kd.R_ne (hS2d.out.row _ hi6) hP2d.out (by decide)
                have g3 := (hg.block _ (Array.getElem?_eq_some_iff.1 hS2d.out.blk).1 (fun e => nb e)).trans hS2d.out.blk
                have p3 := (hg.block _ (Array.getElem?_eq_some_iff.1 hP2d.out).1 (fun e => np e)).trans hP2d.out
                have hS3 := Aside0.mk (hS2d.out.put hi6 ho hg hat)
                have hP3 := Aside0.mk p3
                have hB3 := Aside0.mk hb
                refine hK.out _ _ ⟨(blk_cell g3 _).trans (cells_get v2 hi6), (blk_cell p3 _).trans (get6 (P T) hi6)⟩ (fun hHeld => ?_)
                clear hK K_
                refine norm_ (a' := ?_) ?_ ?_
                rotate_left
                · (show Act.put _ (some 78) _ = _; simp only [Act.put, List.setIfInBounds_toArray, List.set_cons_zero, List.set_cons_succ, i64_w, i32_w]; rfl)
                refine pk_ (i := 15) (N := some 80) #[I,I,I,I,I,I,I,I,I,I,I,I,I,I,I,I,O] ?_
                refine last_ (i := 16) (N := none) #[I,I,I,I,I,I,I,I,I,I,I,I,I,I,I,I,I] rfl rfl (by kernel_rfl) (by decide) (fun K_ hK => ?_)
                have hs16 : w3.cell? ⟨wd.heap.size, a * 3 + k, none⟩ = some (v2 (a * 3 + k)) := hHeld.1
                have hf16 := blk_frozen g3 (a * 3 + k)
                refine skip_ (w1 := ?_) (by rfl) rfl ?_ ?_
                rotate_left
                · go_simp
                  rfl
                refine hK.out _ _ ?_
                clear hK K_
                refine done_ (by kernel_rfl) ?_
                go_wp2
                have el : (lsm P T (3 * a + k) (a * 3 + k) ++ [P T (a * 3 + k)]).length = (lsm P T (3 * a + k) (a * 3 + k)).length + 1 := by rw [List.length_append]; rfl
                rw [← el]
                refine ⟨⟨k + 1, _, rfl, by have := H4.out; omega, ⟨hS3.out.congr (fun i _ => lsm_put P T a k i)⟩, ⟨blk_far2 p3 (by have := HLT.out; omega)⟩, ⟨below_set hb (Nat.le_refl _)⟩⟩, ?_⟩
                show 3 - ((k + 1 : Nat) : Int).toNat < 3 - (k : Int).toNat
                have := H4.out
                omega
              · have d4 : decide ((k : Int) < 3) = false := decide_eq_false (by omega)
                have ek : k = 3 := by omega
                subst ek
                go_wp2
                refine ⟨⟨a + 1, v2, rfl, by have := H3.out; omega, ⟨hS2.out.congr (fun i _ => rfl)⟩, hP2, hB2⟩, ?_⟩
                show 2 - ((a + 1 : Nat) : Int).toNat < 2 - (a : Int).toNat
                have := H3.out
                omega
          · have d3 : decide ((a : Int) < 2) = false := decide_eq_false (by omega)
            have ea : a = 2 := by omega
            subst ea
            go_wp2
            refine ⟨⟨T + 1, v1, rfl, by have := H2.out; omega, ⟨hS.out.congr (fun i hi => lsm_six P T hi)⟩, hB⟩, ?_⟩
            show 300 - ((T + 1 : Nat) : Int).toNat < 300 - (T : Int).toNat
            have := H2.out
            omega
      · have d2 : decide ((T : Int) < 300) = false := decide_eq_false (by omega)
        clear h1 h2
        go_wp2_with (go_at_call 29; refine (timetable_Duration.calls K A7 c7 t (tot : Int) _ (Kd.C_below CTd.out hB.out) LT.out HDUR.out).mono ?_; rintro e we ⟨rfl, hb⟩; have hSe := Aside0.mk (hS.out.below hb); have hBe := Aside0.mk (below_tr hB.out hb); clear hb)
        clear d1 d2
        have BXe := Aside0.mk (blk_in BXd.out hBe.out)
        clear hS hB
        go_loopw [14] (fun i wr => ∃ (a : Nat), i = .int .i64 a ∧ a ≤ 2 ∧ Aside0 (Six wr wd.heap.size wd.heap.size v (fun j => lsm P T 0 j)) ∧ Aside0 (wr.heap[wb.heap.size]? = some (.cells #[.int .i64 V, .int .i64 A, .int .i64 J] 25 (0, 0))) ∧ Aside0 (Below wd.heap.size wd wr))
          (fun i _ => 2 - (intOf i).toNat)
        case atStart => exact ⟨0, rfl, by omega, hSe, BXe, hBe⟩
        case round =>
          obtain ⟨a, rfl, ha, hS, hP, hB⟩ := hrel
          clear hSe hBe BXe
          by_cases h3 : a < 2
          · have d3 : decide ((a : Int) < 2) = true := decide_eq_true (by omega)
            have H3 := Aside0.mk h3
            clear h3
            go_wp2
            go_loopw [15] (fun i wr => ∃ (k : Nat), i = .int .i64 k ∧ k ≤ 3 ∧ Aside0 (Six wr wd.heap.size wd.heap.size v (fun j => lsm P T 0 j)) ∧ Aside0 (wr.heap[wb.heap.size]? = some (.cells #[.int .i64 V, .int .i64 A, .int .i64 J] 25 (0, 0))) ∧ Aside0 (Below wd.heap.size wd wr))
              (fun i _ => 3 - (intOf i).toNat)
            case atStart => exact ⟨0, rfl, by omega, hS, hP, hB⟩
            case round =>
              obtain ⟨k, rfl, hk, hS2, hP2, hB2⟩ := hrel
              clear hS hP hB
              by_cases h4 : k < 3
              · have d4 : decide ((k : Int) < 3) = true := decide_eq_true (by omega)
                have H4 := Aside0.mk h4
                have i1 : (a : Int) < 2 := by have := H3.out; omega
                have i2 : (k : Int) < 3 := by omega
                clear h4
                have hi6 : a * 3 + k < 6 := by have := H3.out; have := H4.out; omega
                obtain ⟨A3, c3, e3⟩ := Kd.R_slice (hS2.out.row _ hi6)
                have q0 : wr.cell? ⟨wd.heap.size, a * 3 + k, none⟩ = some (.slice A3 (lsm P T 0 (a * 3 + k)).length c3) := ((blk_cell hS2.out.blk _).trans (cells_get v hi6)).trans (congrArg some e3)
                have p0 : wr.cell? ⟨wb.heap.size, 0, none⟩ = some (.int .i64 V) := (blk_cell hP2.out 0).trans rfl
                have p1 : wr.cell? ⟨wb.heap.size, 1, none⟩ = some (.int .i64 A) := (blk_cell hP2.out 1).trans rfl
                have p2 : wr.cell? ⟨wb.heap.size, 2, none⟩ = some (.int .i64 J) := (blk_cell hP2.out 2).trans rfl
                go_wp2
                have hB2d := Aside0.mk (hB2.out.drew)
                have hS2d := Aside0.mk (hS2.out.below (Below.drew (Below.refl _ _)))
                have hP2d := Aside0.mk (blk_in hP2.out (Below.drew (Below.refl wr.heap.size wr)))
                refine start_ (n := 8) (S := fun w' => w'.cell? ⟨wd.heap.size, a * 3 + k, none⟩ = some (.slice A3 (lsm P T 0 (a * 3 + k)).length c3) ∧ w'.cell? ⟨wb.heap.size, 0, none⟩ = some (.int .i64 V) ∧ w'.cell? ⟨wb.heap.size, 1, none⟩ = some (.int .i64 A) ∧ w'.cell? ⟨wb.heap.size, 2, none⟩ = some (.int .i64 J)) (ds := []) #[O,O,O,O,O,O,O,O] (by kernel_rfl) rfl rfl ⟨q0, p0, p1, p2⟩ (fun hHeld => ?_)
                generalize wr.drew = wx at hHeld hB2d hS2d hP2d ⊢
                refine pk_ (i := 1) (N := some 90) #[O,I,O,O,O,O,O,O] ?_
                refine pk_ (i := 2) (N := some 91) #[O,I,I,O,O,O,O,O] ?_
                refine pk_ (i := 3) (N := some 92) #[O,I,I,I,O,O,O,O] ?_
                refine pk_ (i := 4) (N := some 93) #[O,I,I,I,I,O,O,O] ?_
                refine take_ (i := 0) (N := some 89) (v := ?_) (a' := ?_) #[I,I,I,I,I,O,O,O] rfl rfl (by kernel_rfl) (fun _ _ _ h => h) (Or.inl ⟨by rfl, ?_⟩) hHeld ?_ ?_
                rotate_left; · (rintro w' ⟨s0, s1, s2, s3⟩; go_simp; with_reducible rfl)
                rotate_left; · (simp only [Act.put, List.setIfInBounds_toArray, List.set_cons_zero, List.set_cons_succ, i64_w, i32_w]; rfl)
                refine take_ (i := 5) (N := some 94) (v := ?_) (a' := ?_) #[I,I,I,I,I,I,O,O] rfl rfl (by kernel_rfl) (fun _ _ _ h => h) (Or.inl ⟨by rfl, ?_⟩) hHeld ?_ ?_
                rotate_left; · (rintro w' ⟨s0, s1, s2, s3⟩; go_simp; with_reducible rfl)
                rotate_left; · (simp only [Act.put, List.setIfInBounds_toArray, List.set_cons_zero, List.set_cons_succ, i64_w, i32_w]; rfl)
                refine one_ (i := 6) (N := some 95) #[I,I,I,I,I,I,I,O] rfl rfl (by kernel_rfl) (by decide) (fun K_ hK => ?_)
                refine goes_ Try.func46 (by kernel_rfl) rfl #[.agg #[.int .i64 V, .int .i64 A, .int .i64 J], .slice A3 (lsm P T 0 (a * 3 + k)).length c3] (by rfl) rfl rfl (by (try simp only [List.map_toArray, List.map_cons, List.map_nil]); rfl) ?_
                have hr := Kd.R_reads' (e3 ▸ hS2d.out.row _ hi6)
                refine (ambidexterlaw23_limited.calls K V A J A3 c3 (lsm P T 0 (a * 3 + k)) true _ hr.2.2 hr.2.1 (HLIM.out _ T hi6 hT)).mono ?_
                rintro e wy ⟨rfl, hb⟩
                have hB3 := Aside0.mk (below_tr hB2d.out hb)
                have hS3 := Aside0.mk (hS2d.out.below hb)
                have hP3 := Aside0.mk (blk_in hP2d.out hb)
                refine ⟨_, rfl, ?_⟩
                refine hK.out _ _ ⟨((blk_cell hS3.out.blk _).trans (cells_get v hi6)).trans (congrArg some e3), (blk_cell hP3.out 0).trans rfl, (blk_cell hP3.out 1).trans rfl, (blk_cell hP3.out 2).trans rfl⟩ (fun hHeld => ?_)
                clear hK K_
                refine norm_ (a' := ?_) ?_ ?_
                rotate_left
                · (show Act.put _ (some 95) _ = _; simp only [Act.put, List.setIfInBounds_toArray, List.set_cons_zero, List.set_cons_succ, i64_w, i32_w]; rfl)
                refine pk_ (i := 7) (N := some 96) #[I,I,I,I,I,I,I,I] ?_
                refine done_ (by kernel_rfl) ?_
                go_wp2
                refine ⟨⟨k + 1, rfl, by have := H4.out; omega, hS3, hP3, hB3⟩, ?_⟩
                show 3 - ((k + 1 : Nat) : Int).toNat < 3 - (k : Int).toNat
                have := H4.out
                omega
              · have d4 : decide ((k : Int) < 3) = false := decide_eq_false (by omega)
                have ek : k = 3 := by omega
                subst ek
                go_wp2
                refine ⟨⟨a + 1, rfl, by have := H3.out; omega, hS2, hP2, hB2⟩, ?_⟩
                show 2 - ((a + 1 : Nat) : Int).toNat < 2 - (a : Int).toNat
                have := H3.out
                omega
          · have d3 : decide ((a : Int) < 2) = false := decide_eq_false (by omega)
            have ea : a = 2 := by omega
            subst ea
            go_wp2
            go_ret
            exact ⟨rfl, below_tr HBd.out hB.out⟩
    · have d1 : decide ((T : Int) ≤ (tot : Int) + 2) = false := decide_eq_false (by omega)
      clear h1
      go_wp2_with (go_at_call 29; refine (timetable_Duration.calls K A7 c7 t (tot : Int) _ (Kd.C_below CTd.out hB.out) LT.out HDUR.out).mono ?_; rintro e we ⟨rfl, hb⟩; have hSe := Aside0.mk (hS.out.below hb); have hBe := Aside0.mk (below_tr hB.out hb); clear hb)
      clear d1
      have BXe := Aside0.mk (blk_in BXd.out hBe.out)
      clear hS hB
      go_loopw [14] (fun i wr => ∃ (a : Nat), i = .int .i64 a ∧ a ≤ 2 ∧ Aside0 (Six wr wd.heap.size wd.heap.size v (fun j => lsm P T 0 j)) ∧ Aside0 (wr.heap[wb.heap.size]? = some (.cells #[.int .i64 V, .int .i64 A, .int .i64 J] 25 (0, 0))) ∧ Aside0 (Below wd.heap.size wd wr))
        (fun i _ => 2 - (intOf i).toNat)
      case atStart => exact ⟨0, rfl, by omega, hSe, BXe, hBe⟩
      case round =>
        obtain ⟨a, rfl, ha, hS, hP, hB⟩ := hrel
        clear hSe hBe BXe
        by_cases h3 : a < 2
        · have d3 : decide ((a : Int) < 2) = true := decide_eq_true (by omega)
          have H3 := Aside0.mk h3
          clear h3
          go_wp2
          go_loopw [15] (fun i wr => ∃ (k : Nat), i = .int .i64 k ∧ k ≤ 3 ∧ Aside0 (Six wr wd.heap.size wd.heap.size v (fun j => lsm P T 0 j)) ∧ Aside0 (wr.heap[wb.heap.size]? = some (.cells #[.int .i64 V, .int .i64 A, .int .i64 J] 25 (0, 0))) ∧ Aside0 (Below wd.heap.size wd wr))
            (fun i _ => 3 - (intOf i).toNat)
          case atStart => exact ⟨0, rfl, by omega, hS, hP, hB⟩
          case round =>
            obtain ⟨k, rfl, hk, hS2, hP2, hB2⟩ := hrel
            clear hS hP hB
            by_cases h4 : k < 3
            · have d4 : decide ((k : Int) < 3) = true := decide_eq_true (by omega)
              have H4 := Aside0.mk h4
              have i1 : (a : Int) < 2 := by have := H3.out; omega
              have i2 : (k : Int) < 3 := by omega
              clear h4
              have hi6 : a * 3 + k < 6 := by have := H3.out; have := H4.out; omega
              obtain ⟨A3, c3, e3⟩ := Kd.R_slice (hS2.out.row _ hi6)
              have q0 : wr.cell? ⟨wd.heap.size, a * 3 + k, none⟩ = some (.slice A3 (lsm P T 0 (a * 3 + k)).length c3) := ((blk_cell hS2.out.blk _).trans (cells_get v hi6)).trans (congrArg some e3)
              have p0 : wr.cell? ⟨wb.heap.size, 0, none⟩ = some (.int .i64 V) := (blk_cell hP2.out 0).trans rfl
              have p1 : wr.cell? ⟨wb.heap.size, 1, none⟩ = some (.int .i64 A) := (blk_cell hP2.out 1).trans rfl
              have p2 : wr.cell? ⟨wb.heap.size, 2, none⟩ = some (.int .i64 J) := (blk_cell hP2.out 2).trans rfl
              go_wp2
              have hB2d := Aside0.mk (hB2.out.drew)
              have hS2d := Aside0.mk (hS2.out.below (Below.drew (Below.refl _ _)))
              have hP2d := Aside0.mk (blk_in hP2.out (Below.drew (Below.refl wr.heap.size wr)))
              refine start_ (n := 8) (S := fun w' => w'.cell? ⟨wd.heap.size, a * 3 + k, none⟩ = some (.slice A3 (lsm P T 0 (a * 3 + k)).length c3) ∧ w'.cell? ⟨wb.heap.size, 0, none⟩ = some (.int .i64 V) ∧ w'.cell? ⟨wb.heap.size, 1, none⟩ = some (.int .i64 A) ∧ w'.cell? ⟨wb.heap.size, 2, none⟩ = some (.int .i64 J)) (ds := []) #[O,O,O,O,O,O,O,O] (by kernel_rfl) rfl rfl ⟨q0, p0, p1, p2⟩ (fun hHeld => ?_)
              generalize wr.drew = wx at hHeld hB2d hS2d hP2d ⊢
              refine pk_ (i := 1) (N := some 90) #[O,I,O,O,O,O,O,O] ?_
              refine pk_ (i := 2) (N := some 91) #[O,I,I,O,O,O,O,O] ?_
              refine pk_ (i := 3) (N := some 92) #[O,I,I,I,O,O,O,O] ?_
              refine pk_ (i := 4) (N := some 93) #[O,I,I,I,I,O,O,O] ?_
              refine take_ (i := 0) (N := some 89) (v := ?_) (a' := ?_) #[I,I,I,I,I,O,O,O] rfl rfl (by kernel_rfl) (fun _ _ _ h => h) (Or.inl ⟨by rfl, ?_⟩) hHeld ?_ ?_
              rotate_left; · (rintro w' ⟨s0, s1, s2, s3⟩; go_simp; with_reducible rfl)
              rotate_left; · (simp only [Act.put, List.setIfInBounds_toArray, List.set_cons_zero, List.set_cons_succ, i64_w, i32_w]; rfl)
              refine take_ (i := 5) (N := some 94) (v := ?_) (a' := ?_) #[I,I,I,I,I,I,O,O] rfl rfl (by kernel_rfl) (fun _ _ _ h => h) (Or.inl ⟨by rfl, ?_⟩) hHeld ?_ ?_
              rotate_left; · (rintro w' ⟨s0, s1, s2, s3⟩; go_simp; with_reducible rfl)
              rotate_left; · (simp only [Act.put, List.setIfInBounds_toArray, List.set_cons_zero, List.set_cons_succ, i64_w, i32_w]; rfl)
              refine one_ (i := 6) (N := some 95) #[I,I,I,I,I,I,I,O] rfl rfl (by kernel_rfl) (by decide) (fun K_ hK => ?_)
              refine goes_ Try.func46 (by kernel_rfl) rfl #[.agg #[.int .i64 V, .int .i64 A, .int .i64 J], .slice A3 (lsm P T 0 (a * 3 + k)).length c3] (by rfl) rfl rfl (by (try simp only [List.map_toArray, List.map_cons, List.map_nil]); rfl) ?_
              have hr := Kd.R_reads' (e3 ▸ hS2d.out.row _ hi6)
              refine (ambidexterlaw23_limited.calls K V A J A3 c3 (lsm P T 0 (a * 3 + k)) true _ hr.2.2 hr.2.1 (HLIM.out _ T hi6 hT)).mono ?_
              rintro e wy ⟨rfl, hb⟩
              have hB3 := Aside0.mk (below_tr hB2d.out hb)
              have hS3 := Aside0.mk (hS2d.out.below hb)
              have hP3 := Aside0.mk (blk_in hP2d.out hb)
              refine ⟨_, rfl, ?_⟩
              refine hK.out _ _ ⟨((blk_cell hS3.out.blk _).trans (cells_get v hi6)).trans (congrArg some e3), (blk_cell hP3.out 0).trans rfl, (blk_cell hP3.out 1).trans rfl, (blk_cell hP3.out 2).trans rfl⟩ (fun hHeld => ?_)
              clear hK K_
              refine norm_ (a' := ?_) ?_ ?_
              rotate_left
              · (show Act.put _ (some 95) _ = _; simp only [Act.put, List.setIfInBounds_toArray, List.set_cons_zero, List.set_cons_succ, i64_w, i32_w]; rfl)
              refine pk_ (i := 7) (N := some 96) #[I,I,I,I,I,I,I,I] ?_
              refine done_ (by kernel_rfl) ?_
              go_wp2
              refine ⟨⟨k + 1, rfl, by have := H4.out; omega, hS3, hP3, hB3⟩, ?_⟩
              show 3 - ((k + 1 : Nat) : Int).toNat < 3 - (k : Int).toNat
              have := H4.out
              omega
            · have d4 : decide ((k : Int) < 3) = false := decide_eq_false (by omega)
              have ek : k = 3 := by omega
              subst ek
              go_wp2
              refine ⟨⟨a + 1, rfl, by have := H3.out; omega, hS2, hP2, hB2⟩, ?_⟩
              show 2 - ((a + 1 : Nat) : Int).toNat < 2 - (a : Int).toNat
              have := H3.out
              omega
        · have d3 : decide ((a : Int) < 2) = false := decide_eq_false (by omega)
          have ea : a = 2 := by omega
          subst ea
          go_wp2
          go_ret
          exact ⟨rfl, below_tr HBd.out hB.out⟩
set_option maxRecDepth 100000 in
set_option maxHeartbeats 4000000 in
theorem lims_early (x0 x1 x2 V A J : Int) (A1 : Option Addr) (c1 : Nat) (l1 : List S63) (w : World) (hr1 : Kd.C k63 w A1 l1.length l1) (hc1 : l1.length ≤ c1) (hhead : ∀ w : World, Calls Try.prog 31 #[] w fun e w' => e = .returned (.bool true) ∧ Below w.heap.size w w')
    (hlim : ambidexterlaw23_lim.f x0 x1 x2 = some (V, A, J)) (K : Nat) (t : List S67) (e : Int) (hseq : timetable_Sequential.f K V A J l1 = some (t, e)) (hc : 30 < l1.length ∨ e ≠ 0) :
    Calls Try.prog 9 #[.agg #[.int .u8 x0, .int .u8 x1, .int .u8 x2], .slice A1 l1.length c1] w fun e w' => e = .returned (.bool true) ∧ Below w.heap.size w w' := by
  have HR1 := Aside0.mk hr1
  have HC1 := Aside0.mk hc1
  have HHEAD := Aside0.mk hhead
  have HL := Aside0.mk hlim
  have HSEQ := Aside0.mk hseq
  have HCC := Aside0.mk hc
  clear hr1 hc1 hhead hlim hseq hc
  have B0 := Aside0.mk (heap_alloc_new w (.cells #[.int .u8 x0, .int .u8 x1, .int .u8 x2] 51 (0, 0)))
  by_cases c : 30 < l1.length
  · have d1 : decide (30 < l1.length) = true := decide_eq_true c
    have d2 : decide ((30 : Int) < (l1.length : Int)) = true := decide_eq_true (by omega)
    clear c
    go_enter Try.func9, Try.ntmps9
    go_wp2_with (first
      | (go_at_call 31; refine (HHEAD.out _).mono ?_; rintro e_ wa ⟨rfl, hb⟩; have HBa := Aside0.mk (below_al (Below.refl w.heap.size w) hb); have Ba := Aside0.mk (blk_in B0.out hb); have c0 := (blk_cell Ba.out 0).trans rfl; have c1_ := (blk_cell Ba.out 1).trans rfl; have c2 := (blk_cell Ba.out 2).trans rfl; clear hb)
      | (go_at_call 42; refine (ambidexterlaw23_lim.calls x0 x1 x2 V A J _ HL.out).mono ?_; rintro e_ wb ⟨rfl, hb⟩; have HBb := Aside0.mk (below_tr HBa.out hb); clear hb c0 c1_ c2)
      | (go_at_call 27; refine (timetable_Sequential.calls K V A J A1 c1 l1 t e _ (Kd.C_alloc (Kd.C_below HR1.out HBb.out) _) HC1.out HSEQ.out).mono ?_; rintro e_ wc ⟨v0, rfl, hS, hb⟩; have HBc := Aside0.mk (below_al HBb.out hb); obtain ⟨A7, c7, e7⟩ := Kd.S_slice hS; subst e7; clear hb hS))
    go_ret
    exact ⟨rfl, HBc.out⟩
  · have d1 : decide (30 < l1.length) = false := decide_eq_false c
    have d2 : decide ((30 : Int) < (l1.length : Int)) = false := decide_eq_false (by omega)
    have c2 : e ≠ 0 := HCC.out.resolve_left c
    have d3 : (e != 0) = true := bne_iff_ne.mpr c2
    clear c c2
    go_enter Try.func9, Try.ntmps9
    go_wp2_with (first
      | (go_at_call 31; refine (HHEAD.out _).mono ?_; rintro e_ wa ⟨rfl, hb⟩; have HBa := Aside0.mk (below_al (Below.refl w.heap.size w) hb); have Ba := Aside0.mk (blk_in B0.out hb); have c0 := (blk_cell Ba.out 0).trans rfl; have c1_ := (blk_cell Ba.out 1).trans rfl; have c2 := (blk_cell Ba.out 2).trans rfl; clear hb)
      | (go_at_call 42; refine (ambidexterlaw23_lim.calls x0 x1 x2 V A J _ HL.out).mono ?_; rintro e_ wb ⟨rfl, hb⟩; have HBb := Aside0.mk (below_tr HBa.out hb); clear hb c0 c1_ c2)
      | (go_at_call 27; refine (timetable_Sequential.calls K V A J A1 c1 l1 t e _ (Kd.C_alloc (Kd.C_below HR1.out HBb.out) _) HC1.out HSEQ.out).mono ?_; rintro e_ wc ⟨v0, rfl, hS, hb⟩; have HBc := Aside0.mk (below_al HBb.out hb); obtain ⟨A7, c7, e7⟩ := Kd.S_slice hS; subst e7; clear hb hS))
    go_ret
    exact ⟨rfl, HBc.out⟩
end Go.Proofs.Ytmmaodlngnjmlaa.Lims
namespace Go.Proofs.Ytmmaodlngnjmlaa.Pure
set_option linter.unusedSimpArgs false
set_option linter.unusedVariables false
open Go Go.RowKit Go.Proofs.Ytmmaodlngnjmlaa.P Go.Proofs.YtmmaodlngnjmlaaW.PrintWords Go.Proofs.YtmmaodlngnjmlaaW.PrintLast Go.Proofs.YtmmaodlngnjmlaaW.PrintMore Go.Proofs.Ytmmaodlngnjmlaa.Motion
theorem lim_b {a0 a1 a2 : Int} (h : ((0 ≤ a0 ∧ a0 ≤ 255) ∧ (0 ≤ a1 ∧ a1 ≤ 255)) ∧ (0 ≤ a2 ∧ a2 ≤ 255)) : ∃ L : Lm, ok L ∧ ambidexterlaw23_lim.f a0 a1 a2 = some (L.v, L.a, L.j) := by
  obtain ⟨⟨h0, h1⟩, h2⟩ := h
  refine ⟨⟨1 + a0 % 8, 1 + a1 % 4, 1 + a2 % 2⟩, by unfold ok; dsimp only; omega, ?_⟩
  unfold ambidexterlaw23_lim.f
  rw [k64 (x := a0) (by omega) (by omega), k64 (x := a1) (by omega) (by omega), k64 (x := a2) (by omega) (by omega), Int.tmod_eq_emod_of_nonneg (by omega), Int.tmod_eq_emod_of_nonneg (by omega), Int.tmod_eq_emod_of_nonneg (by omega), k64 (by omega) (by omega), k64 (by omega) (by omega), k64 (by omega) (by omega)]
theorem may23 {m : Mv} (h : mayB m = true) : ambidexterref23_May.f m.f0 m.f1 m.f2 = some true := by
  obtain ⟨h0, h1, h2⟩ := may_iff h
  unfold ambidexterref23_May.f
  have e : (if m.f2 = 1 then some true else some (m.f2 == -1)) = some true := by
    rcases h2 with e | e <;> rw [e] <;> rfl
  rcases h0 with e0 | e0
  · rw [if_pos e0, if_pos h1.1, if_pos (by omega), e]
  · rw [if_neg (by omega), if_pos e0, if_pos h1.1, if_pos (by omega), e]
theorem small_l0 {t : List Sg} (ht : t.length ≤ 240) (hs : ∀ s ∈ t, 0 ≤ s.f1 ∧ s.f1 + (s.f2.length : Int) ≤ 2000 ∧ mayB s.f0.f0 = true) (k : Nat) : ∀ (m i : Nat), i + m = t.length → ambidexterlaw23_small.l0 (k + m + 1) t (i : Int) = some true
  | 0, i, h => by rw [ambidexterlaw23_small.l0, if_neg (by omega), decide_eq_true (by omega)]
  | m + 1, i, h => by
    have hi : i < t.length := by omega
    obtain ⟨h1, h2, h3⟩ := hs t[i] (List.getElem_mem hi)
    have ew := kn1 (i := i) (n := t.length) (by omega) hi
    show ambidexterlaw23_small.l0 (k + m + 1 + 1) t (i : Int) = _
    rw [ambidexterlaw23_small.l0, if_pos (by omega), if_pos (by omega), rds_at hi, if_neg (by omega), if_neg (by omega), if_neg (by omega), may23 h3, Option.bind_some, if_pos rfl, ew]
    exact small_l0 ht hs k m (i + 1) (by omega)
theorem small_ok {L : Lm} {l : List Mv} {t : List Sg} (h : TabOk L l t) (hl : l.length ≤ 240) {K : Nat} (hK : l.length + 1 ≤ K) : ambidexterlaw23_small.f K t = some true := by
  have hlen := h.len
  obtain ⟨j, rfl⟩ : ∃ j, K = j + t.length + 1 := ⟨K - t.length - 1, by omega⟩
  exact small_l0 (by omega) (fun s hs => ⟨(h.seg s hs).lo, (h.seg s hs).hi, h.may s hs⟩) j t.length 0 (by omega)
theorem tab_segW {L : Lm} {K : Nat} (hK : ∀ n : Int, 1 ≤ n → n ≤ 35 → Fuel L K n) {l : List Mv} {t : List Sg} (h : TabOk L l t) : ∀ s ∈ t, SegW L s := fun s hs => by
  have hg := h.seg s hs
  have hb := (hK _ hg.n1 hg.n2).2.1
  rw [← hg.js] at hb
  exact ⟨⟨hg.n1, hg.n2, hb⟩, h.may s hs, hg.lo, hg.hi⟩
/-- Where the joints stand at a tick. -/
def posP (t : List Sg) (T : Nat) (k : Nat) : Int := timetable_PositionsAt.o 0 0 0 0 0 0 t (T : Int) k
theorem posP_sum {L : Lm} (hL : ok L) {K : Nat} (hK : ∀ n : Int, 1 ≤ n → n ≤ 35 → Fuel L K n) {l : List Mv} {t : List Sg} (h : TabOk L l t) (hl : l.length ≤ 240) (T k : Nat) : posP t T k = 0 + sumW (T : Int) k t := by
  have e : timetable_PositionsAt.q 0 0 0 0 0 0 k = 0 := by
    unfold timetable_PositionsAt.q
    (repeat' split) <;> rfl
  have hz : wrap64 (timetable_PositionsAt.q 0 0 0 0 0 0 k * 12) = 0 := by
    rw [e, k64 (by omega) (by omega)]
    rfl
  have hlen := h.len
  refine (fold_sum hL (T : Int) k t (fun k => wrap64 (timetable_PositionsAt.q 0 0 0 0 0 0 k * 12)) (tab_segW hK h) (by omega) ?_).trans ?_
  · show _ ∧ _
    rw [hz]
    omega
  · rw [hz]
theorem limits_row {L : Lm} (hL : ok L) {K : Nat} (hK : ∀ n : Int, 1 ≤ n → n ≤ 35 → Fuel L K n) {l : List Mv} {t : List Sg} (h : TabOk L l t) (hl : l.length ≤ 240) (i m : Nat) (hm : m ≤ 300) {k : Nat} (hk : m + 1 ≤ k) :
    ambidexterlaw23_limited.f k L.v L.a L.j ((List.range m).map fun T => posP t T i) = some true := by
  have hlen := h.len
  refine limited_ok hL (tab_segW hK h) h.apart (by omega) i 0 (by omega) (by simp; omega) (fun j hj => ?_) (by simp; omega)
  simp only [List.getElem_map, List.getElem_range]
  exact posP_sum hL hK h hl j i
theorem respects_run0 (a0 a1 a2 : Int) (hb : ((0 ≤ a0 ∧ a0 ≤ 255) ∧ (0 ≤ a1 ∧ a1 ≤ 255)) ∧ (0 ≤ a2 ∧ a2 ≤ 255)) (A1 : Option Addr) (c1 : Nat) (l1 : List S63) (hl : l1.length ≤ 5864062014800) (w : World) (hr1 : Kd.C k63 w A1 l1.length l1) (hc1 : l1.length ≤ c1)
    (hhead : ∀ w : World, Calls Try.prog 31 #[] w fun e w' => e = .returned (.bool true) ∧ Below w.heap.size w w') :
    Calls Try.prog 9 #[.agg #[.int .u8 a0, .int .u8 a1, .int .u8 a2], .slice A1 l1.length c1] w fun e w' => e = .returned (.bool true) ∧ Below w.heap.size w w' := by
  obtain ⟨L, hL, hf⟩ := lim_b hb
  obtain ⟨K, hK⟩ := pr_all hL
  have hs := seq_ok hL hK hl (k := K + 2 * l1.length + 400) (by omega)
  by_cases cm : l1.all mayB = true
  · rw [if_pos cm] at hs
    cases ht : tab L 0 (runsL l1) with
    | none =>
      rw [ht] at hs
      exact Lims.lims_early a0 a1 a2 L.v L.a L.j A1 c1 l1 w hr1 hc1 hhead hf _ _ 2 hs (Or.inr (by decide))
    | some t =>
      rw [ht] at hs
      by_cases c : 30 < l1.length
      · exact Lims.lims_early a0 a1 a2 L.v L.a L.j A1 c1 l1 w hr1 hc1 hhead hf _ _ 0 hs (Or.inl c)
      · have hT := tab_ok ht cm
        have hr := runs_length l1 []
        have hr2 : (runsL l1).length ≤ l1.length := by simpa [runsL] using hr
        have hd := dur_ok ht (by omega) (k := K + 2 * l1.length + 400) (by omega)
        have e0 := end_ge L (runsL l1) 0
        have e1 : endOf L 0 (runsL l1) ≤ 2000 := by
          rcases ((tab_iff L (runsL l1) 0).1 (by rw [ht]; rfl)).2 with e | e
          · rw [e]
            show (0 : Int) ≤ 2000
            decide
          · exact e
        exact Lims.lims_main a0 a1 a2 L.v L.a L.j A1 c1 l1 w hr1 hc1 hhead hf (K + 2 * l1.length + 400) t hs c (small_ok hT (by omega) (by omega)) (endOf L 0 (runsL l1)).toNat (by omega) (by rw [hd]; congr 1; omega) (posP t)
          (fun T hT' => by
            unfold timetable_PositionsAt.f
            rw [if_pos (pos_ok hT (by omega) (by omega) (by omega))]
            rfl)
          (fun i m hi hm => limits_row hL hK hT (by omega) i m hm (by omega))
  · rw [if_neg cm] at hs
    exact Lims.lims_early a0 a1 a2 L.v L.a L.j A1 c1 l1 w hr1 hc1 hhead hf _ _ 1 hs (Or.inr (by decide))
end Go.Proofs.Ytmmaodlngnjmlaa.Pure
namespace Go.Proofs.Ytmmaodlngnjmlaa.Lims
open Go Go.RowKit Go.Proofs.Ytmmaodlngnjmlaa.P Go.Proofs.YtmmaodlngnjmlaaW.PrintWords
theorem respects_run (a0 a1 a2 : Int) (hb : ((0 ≤ a0 ∧ a0 ≤ 255) ∧ (0 ≤ a1 ∧ a1 ≤ 255)) ∧ (0 ≤ a2 ∧ a2 ≤ 255)) (A1 : Option Addr) (c1 : Nat) (l1 : List S63) (hl : l1.length ≤ 5864062014800) (w : World) (hr1 : Kd.C k63 w A1 l1.length l1) (hc1 : l1.length ≤ c1) :
    Calls Try.prog 9 #[.agg #[.int .u8 a0, .int .u8 a1, .int .u8 a2], .slice A1 l1.length c1] w fun e w' => e = .returned (.bool true) ∧ Below w.heap.size w w' := by
  obtain ⟨k, hk⟩ := Pure.head23
  exact Pure.respects_run0 a0 a1 a2 hb A1 c1 l1 hl w hr1 hc1 (fun w => ambidexterlaw23_head.calls k true w hk)
end Go.Proofs.Ytmmaodlngnjmlaa.Lims
