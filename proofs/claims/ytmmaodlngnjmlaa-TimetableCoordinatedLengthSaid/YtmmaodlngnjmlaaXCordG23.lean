/- timetable.Coordinated, in general, and at the two schedules of the head's examples. -/
import Derived.Test.YtmmaodlngnjmlaaP4
import Derived.Test.YtmmaodlngnjmlaaP1
import Derived.LoopN
import Derived.Deep.RegionHeld3
import Derived.Test.YtmmaodlngnjmlaaXShorts2
import Derived.Test.YtmmaodlngnjmlaaXCM23
import Derived.KernelRfl
import Derived.Tactics
import Derived.Test.YtmmaodlngnjmlaaXFar2
namespace Go.Proofs.Ytmmaodlngnjmlaa.Coord
set_option linter.unusedVariables false
set_option linter.unusedSimpArgs false
open Go Go.RowKit Go.Proofs.Ytmmaodlngnjmlaa Go.Proofs.YtmmaodlngnjmlaaW.PrintWords Go.Proofs.YtmmaodlngnjmlaaW.PrintMore Go.Proofs.YtmmaodlngnjmlaaW.PrintLast Go.Proofs.Ytmmaodlngnjmlaa.P
theorem of1 : timetable_of.f 3 1 ([] : List S63) = some true := by kernel_rfl
theorem of2 : timetable_of.f 3 1 [(⟨1, 0, 1⟩ : S63)] = some true := by kernel_rfl
theorem of3 : timetable_of.f 3 0 [(⟨0, 0, 1⟩ : S63)] = some true := by kernel_rfl
theorem valid : profile_ValidLimits.f 8 4 2 = some true := by kernel_rfl
theorem cell_in {W W' : World} {p : Addr} {v : Value} (h : W.cell? p = some v) (hB : Below W.heap.size W W') : W'.cell? p = some v := (hB.cell (World.block_lt_of_cell? W _ h)).trans h
theorem cell_al {W : World} {p : Addr} {v : Value} (h : W.cell? p = some v) (o : Obj) : (W.alloc o).cell? p = some v := (World.cell?_of_block (Below.heap_alloc W o _ (World.block_lt_of_cell? W _ h))).trans h
theorem blk_gr {W W' : World} {b r : Nat} {o : Obj} (h : W.heap[b]? = some o) (hg : W.grownBy W' (some r)) (hne : b ≠ r) : W'.heap[b]? = some o := (hg.block b (Array.getElem?_eq_some_iff.1 h).1 (fun e => hne (Option.some.inj e))).trans h
theorem far6 {W : World} {p : Addr} {u : Value} (h : W.cell? p = some u) {B : Nat} (hne : B ≠ p.block) (a b c d e f : Value) : ((((((W.setCell ⟨B, 0, none⟩ a).setCell ⟨B, 1, none⟩ b).setCell ⟨B, 2, none⟩ c).setCell ⟨B, 3, none⟩ d).setCell ⟨B, 4, none⟩ e).setCell ⟨B, 5, none⟩ f).cell? p = some u := by
  rw [World.cell?_setCell_far _ _ _ _ hne, World.cell?_setCell_far _ _ _ _ hne, World.cell?_setCell_far _ _ _ _ hne, World.cell?_setCell_far _ _ _ _ hne, World.cell?_setCell_far _ _ _ _ hne, World.cell?_setCell_far _ _ _ _ hne, h]
theorem setS {W : World} {R t : Nat} {x0 x1 x2 x3 x4 x5 : Value} (h : W.heap[R]? = some (.cells #[x0, x1, x2, x3, x4, x5] t (0, 0))) (a b c d e f : Value) :
    ∃ W', (((((W.setCell ⟨R, 0, none⟩ a).setCell ⟨R, 1, none⟩ b).setCell ⟨R, 2, none⟩ c).setCell ⟨R, 3, none⟩ d).setCell ⟨R, 4, none⟩ e).setCell ⟨R, 5, none⟩ f = W' ∧
      W'.heap[R]? = some (.cells #[a, b, c, d, e, f] t (0, 0)) ∧ W.grownBy W' (some R) := by
  refine ⟨_, rfl, ?_, ?_⟩
  · have h0 := blk_set h 0 a
    have h1 := blk_set h0 1 b
    have h2 := blk_set h1 2 c
    have h3 := blk_set h2 3 d
    have h4 := blk_set h3 4 e
    have h5 := blk_set h4 5 f
    simpa using h5
  · exact (((((Ticks.grown_set W R 0 _).trans (Ticks.grown_set _ R 1 _)).trans (Ticks.grown_set _ R 2 _)).trans (Ticks.grown_set _ R 3 _)).trans (Ticks.grown_set _ R 4 _)).trans (Ticks.grown_set _ R 5 _)
theorem eqA2 (d : Nat) (w : World) (x0 y0 x1 y1 : Int) :
    (Op.equalIn (d + 2) 124 (.agg #[.int .i64 x0, .int .i64 x1]) (.agg #[.int .i64 y0, .int .i64 y1])).run Try.prog w = .ok (x0 == y0 && (x1 == y1)) w := by
  refine eqArr Try.underlying124 (e := 3) (n := 1) (by kernel_rfl) (by kernel_rfl) ?_
  show (Op.eqItems _ 3 1 _ _ [0, 1]).run _ _ = _
  refine eqi_cons (by go_simp; rfl) (by go_simp; rfl) (by go_simp) ?_
  exact eqi_last (by go_simp; rfl) (by go_simp; rfl) (by go_simp)
end Go.Proofs.Ytmmaodlngnjmlaa.Coord
namespace Go.Proofs.Ytmmaodlngnjmlaa.Reach
set_option linter.unusedVariables false
set_option linter.unusedSimpArgs false
open Go Go.RowKit Go.Proofs.Ytmmaodlngnjmlaa Go.Proofs.YtmmaodlngnjmlaaW.PrintWords Go.Proofs.YtmmaodlngnjmlaaW.PrintMore Go.Proofs.YtmmaodlngnjmlaaW.PrintLast Go.Proofs.Ytmmaodlngnjmlaa.P
abbrev Mv := S63
abbrev Av := S91
abbrev Sg := S67
abbrev sg0 : Obj := .cells #[.int .i64 0, .int .i64 0, .int .i64 0, .int .i64 0, .int .i64 0, .slice none 0 0] 67 (0, 0)
abbrev lm6 (a0 a1 a2 b0 b1 b2 : Int) : Array Value := #[.int .i64 a0, .int .i64 a1, .int .i64 a2, .int .i64 b0, .int .i64 b1, .int .i64 b2]
abbrev lmo (a0 a1 a2 b0 b1 b2 : Int) : Obj := .cells (lm6 a0 a1 a2 b0 b1 b2) 72 (0, 0)
theorem cell_dr {W : World} {p : Addr} {v : Value} (h : W.cell? p = some v) : W.drew.cell? p = some v := h
theorem cell_ald {W : World} {p : Addr} {v : Value} (h : W.cell? p = some v) (o : Obj) : (W.alloc o).drew.cell? p = some v := Coord.cell_al h o
theorem cell_ns {W : World} {p : Addr} {v : Value} (h : W.cell? p = some v) : W.heap.size ≠ p.block := Nat.ne_of_gt (World.block_lt_of_cell? W _ h)
theorem heldS {W : World} {g : Nat} (h : W.heap[g]? = some sg0) : W.cell? ⟨g, 0, none⟩ = some (.int .i64 0) ∧ W.cell? ⟨g, 1, none⟩ = some (.int .i64 0) ∧ W.cell? ⟨g, 2, none⟩ = some (.int .i64 0) ∧ W.cell? ⟨g, 3, none⟩ = some (.int .i64 0) ∧ W.cell? ⟨g, 4, none⟩ = some (.int .i64 0) ∧ W.cell? ⟨g, 5, none⟩ = some (.slice none 0 0) :=
 ⟨(blk_cell h 0).trans rfl, (blk_cell h 1).trans rfl, (blk_cell h 2).trans rfl, (blk_cell h 3).trans rfl, (blk_cell h 4).trans rfl, (blk_cell h 5).trans rfl⟩
theorem idxB_0 (w : World) (x0 x1 : Bool) : Sem.run Try.prog (Instr.index 125 (.agg #[.bool x0, .bool x1]) (.int .i64 0)) w = .ok (.bool x0) w := by kernel_rfl
theorem idxB_1 (w : World) (x0 x1 : Bool) : Sem.run Try.prog (Instr.index 125 (.agg #[.bool x0, .bool x1]) (.int .i64 1)) w = .ok (.bool x1) w := by kernel_rfl
attribute [local go_sem high] idxB_0 idxB_1 Coord.eqA2
def cA (l : List Av) : Nat := l.countP fun x => x.f0
def cB (l : List Av) : Nat := l.countP fun x => x.f1
theorem take_rd (l : List Av) {i : Nat} (h : i < l.length) : l.take (i + 1) = l.take i ++ [rd_T91 l i] := by
 rw [List.take_succ_eq_append_getElem h]
 unfold rd_T91
 rw [Int.toNat_natCast, List.getD_eq_getElem?_getD, List.getElem?_eq_getElem h]
 rfl
theorem cA_le (l : List Av) : cA l ≤ l.length := List.countP_le_length
theorem cB_le (l : List Av) : cB l ≤ l.length := List.countP_le_length
theorem ok_app {l : List Av} {x : Av} (h : ∀ y ∈ l, (y.f0 || y.f1) = true) (hx : (x.f0 || x.f1) = true) : ∀ y ∈ l ++ [x], (y.f0 || y.f1) = true := fun y hy => by
 rcases List.mem_append.1 hy with hy | hy
 ·
  exact h y hy
 ·
  rw [List.mem_singleton.1 hy]
  exact hx
/-- One arm's move in an advance. -/
def armS (pp : Nat → List Int) (has : Bool) (m : Nat) (at_ : Nat) (s : Nat × (Nat → List Mv) × List Sg) : Option (Nat × (Nat → List Mv) × List Sg) :=
 if has = true then
  match s.2.1 m with
  | [] => none
  | x :: r => if at_ + (pp m).length ≤ 2000 then some (max s.1 (at_ + (pp m).length), (fun j => if j = m then r else s.2.1 j), s.2.2 ++ [⟨⟨x, 1⟩, (at_ : Int), pp m⟩]) else none
 else some s
def coR (pp : Nat → List Int) : List Av → Nat → (Nat → List Mv) → List Sg → Option (List Sg)
 | [], _, _, out => some out
 | x :: l, at_, xs, out => ((armS pp x.f0 0 at_ (at_, xs, out)).bind (armS pp x.f1 1 at_)).bind fun s => coR pp l s.1 s.2.1 s.2.2
def two (l1 l2 : List Mv) : Nat → List Mv := fun m => if m = 0 then l1 else if m = 1 then l2 else []
/-- What Coordinated answers. -/
def coF (pp : Nat → List Int) (o1 o2 : Bool) (l1 l2 : List Mv) (l3 : List Av) : Int × List Sg :=
 if (o1 = true ∧ o2 = true) ∧ (∀ x ∈ l3, (x.f0 || x.f1) = true) ∧ cA l3 = l1.length ∧ cB l3 = l2.length then
  match coR pp l3 0 (two l1 l2) [] with
  | some t => (0, t)
  | none => (2, [])
 else (1, [])
theorem coF_no {pp : Nat → List Int} {o1 o2 : Bool} {l1 l2 : List Mv} {l3 : List Av} (h : o1 = false ∨ o2 = false ∨ (∃ x ∈ l3, (x.f0 || x.f1) = false) ∨ cA l3 ≠ l1.length ∨ cB l3 ≠ l2.length) : coF pp o1 o2 l1 l2 l3 = (1, []) := by
 unfold coF
 rw [if_neg]
 rintro ⟨⟨ha, hb⟩, hc, hd, he⟩
 rcases h with h | h | ⟨x, hx, h⟩ | h | h
 ·
  rw [ha] at h; cases h
 ·
  rw [hb] at h; cases h
 ·
  rw [hc x hx] at h; cases h
 ·
  exact h hd
 ·
  exact h he
theorem rfl_err {p : Int × List Sg} {w' : World} {base : Nat} {e : Int} (h : p = (e, [])) : (.returned (.tuple #[.slice none 0 0, .int .i64 e]) : Ending) = .returned (.tuple #[.slice none 0 0, .int .i64 p.1]) ∧ Kd.S k67 67 w' base (fun _ => True) (.slice none 0 0) p.2 := by
 rw [h]
 exact ⟨rfl, Kd.S_nil _ _ _ _ _⟩
/-- What the walk asks of an arm's single moves. -/
structure SlotOk (K : Nat) (a b c : Int) (p : List Int) : Prop where
 pos : 1 ≤ p.length
 run : ∀ (y : Mv) (at_ : Nat), at_ ≤ 2000 → ∃ (g0 g1 g2 g3 g4 : Int) (J : List Int) (okb : Bool), timetable_slot.f K a b c y.f0 y.f1 y.f2 1 (at_ : Int) = some (g0, g1, g2, g3, g4, J, okb) ∧ (okb = true → at_ + p.length ≤ 2000 ∧ g0 = y.f0 ∧ g1 = y.f1 ∧ g2 = y.f2 ∧ g3 = 1 ∧ g4 = at_ ∧ J = p) ∧ (okb = false → ¬ at_ + p.length ≤ 2000)
/-- What is still to do within an advance, and behind it. -/
def restF (pp : Nat → List Int) (fa fb : Bool) (l : List Av) (at_ m : Nat) (s : Nat × (Nat → List Mv) × List Sg) : Option (List Sg) :=
 (if m = 0 then (armS pp fa 0 at_ s).bind (armS pp fb 1 at_) else if m = 1 then armS pp fb 1 at_ s else some s).bind fun s => coR pp l s.1 s.2.1 s.2.2
theorem drop_rd (l : List Av) {i : Nat} (h : i < l.length) : l.drop i = rd_T91 l i :: l.drop (i + 1) := by
 rw [List.drop_eq_getElem_cons h]
 unfold rd_T91
 rw [Int.toNat_natCast, List.getD_eq_getElem?_getD, List.getElem?_eq_getElem h]
 rfl
theorem two_0 (a b r : List Mv) : (fun j => if j = 0 then r else two a b j) = two r b := by
 funext j
 unfold two
 by_cases c : j = 0
 ·
  rw [if_pos c, if_pos c]
 ·
  rw [if_neg c, if_neg c, if_neg c]
theorem two_1 (a b r : List Mv) : (fun j => if j = 1 then r else two a b j) = two a r := by
 funext j
 unfold two
 by_cases c : j = 1
 ·
  rw [if_pos c, if_neg (by omega), if_pos c]
 ·
  rw [if_neg c, if_neg c, if_neg c]
theorem ends_g {J : List Int} {at_ : Nat} (h : at_ + J.length ≤ 2000) (a b c : Int) : timetable_ends.f a b c 1 (at_ : Int) J = some ((at_ + J.length : Nat) : Int) := by
 unfold timetable_ends.f
 rw [show wrap64 ((at_ : Int) + (J.length : Int)) = ((at_ + J.length : Nat) : Int) from by unfold wrap64; omega]
theorem max_nat (a b : Nat) : (if (a : Int) < (b : Int) then (b : Int) else (a : Int)) = ((max a b : Nat) : Int) := by
 by_cases c : a < b
 ·
  rw [if_pos (by omega), Nat.max_eq_right (by omega)]
 ·
  rw [if_neg (by omega), Nat.max_eq_left (by omega)]
theorem armS_0 {pp : Nat → List Int} {at_ nx : Nat} {y : Mv} {r b : List Mv} {out : List Sg} (h : at_ + (pp 0).length ≤ 2000) : armS pp true 0 at_ (nx, two (y :: r) b, out) = some (max nx (at_ + (pp 0).length), two r b, out ++ [⟨⟨y, 1⟩, (at_ : Int), pp 0⟩]) := by
 unfold armS
 rw [if_pos rfl]
 show (if at_ + (pp 0).length ≤ 2000 then some (max nx (at_ + (pp 0).length), (fun j => if j = 0 then r else two (y :: r) b j), out ++ [(⟨⟨y, 1⟩, (at_ : Int), pp 0⟩ : Sg)]) else none) = _
 rw [if_pos h, two_0]
theorem armS_no0 {pp : Nat → List Int} {at_ nx : Nat} {y : Mv} {r b : List Mv} {out : List Sg} (h : ¬ at_ + (pp 0).length ≤ 2000) : armS pp true 0 at_ (nx, two (y :: r) b, out) = none := by
 unfold armS
 rw [if_pos rfl]
 show (if at_ + (pp 0).length ≤ 2000 then some (max nx (at_ + (pp 0).length), (fun j => if j = 0 then r else two (y :: r) b j), out ++ [(⟨⟨y, 1⟩, (at_ : Int), pp 0⟩ : Sg)]) else none) = _
 rw [if_neg h]
theorem armS_1 {pp : Nat → List Int} {at_ nx : Nat} {y : Mv} {r b : List Mv} {out : List Sg} (h : at_ + (pp 1).length ≤ 2000) : armS pp true 1 at_ (nx, two b (y :: r), out) = some (max nx (at_ + (pp 1).length), two b r, out ++ [⟨⟨y, 1⟩, (at_ : Int), pp 1⟩]) := by
 unfold armS
 rw [if_pos rfl]
 show (if at_ + (pp 1).length ≤ 2000 then some (max nx (at_ + (pp 1).length), (fun j => if j = 1 then r else two b (y :: r) j), out ++ [(⟨⟨y, 1⟩, (at_ : Int), pp 1⟩ : Sg)]) else none) = _
 rw [if_pos h, two_1]
theorem armS_no1 {pp : Nat → List Int} {at_ nx : Nat} {y : Mv} {r b : List Mv} {out : List Sg} (h : ¬ at_ + (pp 1).length ≤ 2000) : armS pp true 1 at_ (nx, two b (y :: r), out) = none := by
 unfold armS
 rw [if_pos rfl]
 show (if at_ + (pp 1).length ≤ 2000 then some (max nx (at_ + (pp 1).length), (fun j => if j = 1 then r else two b (y :: r) j), out ++ [(⟨⟨y, 1⟩, (at_ : Int), pp 1⟩ : Sg)]) else none) = _
 rw [if_neg h]
theorem rest_0 {pp : Nat → List Int} {fb : Bool} {l : List Av} {at_ : Nat} {s s' : Nat × (Nat → List Mv) × List Sg} {R : Option (List Sg)} {fa : Bool} (h : restF pp fa fb l at_ 0 s = R) (e : armS pp fa 0 at_ s = some s') : restF pp fa fb l at_ 1 s' = R := by
 rw [← h]
 unfold restF
 rw [if_pos rfl, e]
 rfl
theorem rest_1 {pp : Nat → List Int} {fa fb : Bool} {l : List Av} {at_ : Nat} {s s' : Nat × (Nat → List Mv) × List Sg} {R : Option (List Sg)} (h : restF pp fa fb l at_ 1 s = R) (e : armS pp fb 1 at_ s = some s') : restF pp fa fb l at_ 2 s' = R := by
 rw [← h]
 show coR pp l s'.1 s'.2.1 s'.2.2 = (armS pp fb 1 at_ s).bind _
 rw [e]
 rfl
theorem rest_0no {pp : Nat → List Int} {fa fb : Bool} {l : List Av} {at_ : Nat} {s : Nat × (Nat → List Mv) × List Sg} {R : Option (List Sg)} (h : restF pp fa fb l at_ 0 s = R) (e : armS pp fa 0 at_ s = none) : R = none := by
 rw [← h]
 unfold restF
 rw [if_pos rfl, e]
 rfl
theorem rest_1no {pp : Nat → List Int} {fa fb : Bool} {l : List Av} {at_ : Nat} {s : Nat × (Nat → List Mv) × List Sg} {R : Option (List Sg)} (h : restF pp fa fb l at_ 1 s = R) (e : armS pp fb 1 at_ s = none) : R = none := by
 rw [← h]
 show (armS pp fb 1 at_ s).bind _ = none
 rw [e]
 rfl
set_option maxRecDepth 100000 in
set_option maxHeartbeats 4000000 in
theorem coord_run (a0 a1 a2 b0 b1 b2 : Int) (va : profile_ValidLimits.f a0 a1 a2 = some true) (vb : profile_ValidLimits.f b0 b1 b2 = some true) (A1 : Option Addr) (c1 : Nat) (l1 : List Mv) (A2 : Option Addr) (c2 : Nat) (l2 : List Mv) (A3 : Option Addr) (c3 : Nat) (l3 : List Av) (w : World)
  (hr1 : Kd.C k63 w A1 l1.length l1) (hc1 : l1.length ≤ c1) (hr2 : Kd.C k63 w A2 l2.length l2) (hc2 : l2.length ≤ c2) (hr3 : Kd.C k91 w A3 l3.length l3) (K : Nat) (o1 o2 : Bool) (ho1 : timetable_of.f K 0 l1 = some o1) (ho2 : timetable_of.f K 1 l2 = some o2) (hl3 : l3.length ≤ 100000000000000) (pp : Nat → List Int) (hsl : (∀ x ∈ l3, (x.f0 || x.f1) = true) → SlotOk K a0 a1 a2 (pp 0) ∧ SlotOk K b0 b1 b2 (pp 1)) :
  Calls Try.prog 33 #[.agg (lm6 a0 a1 a2 b0 b1 b2), .slice A1 l1.length c1, .slice A2 l2.length c2, .slice A3 l3.length c3] w fun e w' => (∃ v : Value, e = .returned (.tuple #[v, .int .i64 (coF pp o1 o2 l1 l2 l3).1]) ∧ Kd.S k67 67 w' w.heap.size (fun _ => True) v (coF pp o1 o2 l1 l2 l3).2) ∧ Below w.heap.size w w' := by
 have HN3 := Aside0.mk hl3
 have HSL := Aside0.mk hsl
 clear hsl
 have HR1 := Aside0.mk hr1
 have HR2 := Aside0.mk hr2
 have HR3 := Aside0.mk hr3
 have HC1 := Aside0.mk hc1
 have HC2 := Aside0.mk hc2
 have HO1 := Aside0.mk ho1
 have HO2 := Aside0.mk ho2
 have VA := Aside0.mk va
 have VB := Aside0.mk vb
 clear hr1 hr2 hr3 hc1 hc2 ho1 ho2 va vb
 have B0 := Aside0.mk (heap_alloc_new w (lmo a0 a1 a2 b0 b1 b2))
 have HB0 := Aside0.mk ((Below.refl w.heap.size w).alloc (Nat.le_refl _) (lmo a0 a1 a2 b0 b1 b2))
 have e0 := (blk_cell B0.out 0).trans rfl
 have e1 := (blk_cell B0.out 1).trans rfl
 have e2 := (blk_cell B0.out 2).trans rfl
 go_enter Try.func33, Try.ntmps33
 go_wp2_with (first
  | (go_at_call 48; (with_reducible refine (profile_ValidLimits.calls a0 a1 a2 true _ VA.out).mono ?_); rintro e wa ⟨rfl, hb⟩; have HBa := Aside0.mk (below_tr HB0.out hb); have Ba := Aside0.mk (blk_in B0.out hb); clear hb e0 e1 e2; have e3 := (blk_cell Ba.out 3).trans rfl; have e4 := (blk_cell Ba.out 4).trans rfl; have e5 := (blk_cell Ba.out 5).trans rfl)
  | (go_at_call 48; (with_reducible refine (profile_ValidLimits.calls b0 b1 b2 true _ VB.out).mono ?_); rintro e wb ⟨rfl, hb⟩; have HBb := Aside0.mk (below_tr HBa.out hb); have Bb := Aside0.mk (blk_in Ba.out hb); clear hb e3 e4 e5)
  | (go_at_call 68; (with_reducible refine (timetable_of.calls K 0 A1 c1 l1 o1 _ (Kd.C_below HR1.out HBb.out) HC1.out HO1.out).mono ?_); rintro e wc ⟨rfl, hb⟩; have HBc := Aside0.mk (below_tr HBb.out hb); have Bc := Aside0.mk (blk_in Bb.out hb); clear hb)
  | (go_at_call 68; (with_reducible refine (timetable_of.calls K 1 A2 c2 l2 o2 _ (Kd.C_below HR2.out HBc.out) HC2.out HO2.out).mono ?_); rintro e wd ⟨rfl, hb⟩; have HBd := Aside0.mk (below_tr HBc.out hb); have Bd := Aside0.mk (blk_in Bc.out hb); clear hb))
 ·
  refine bodyPost_ret (v := .tuple #[.slice none 0 0, .int .i64 1]) (by simp [results, Try.results33, go_sem]) rfl ?_
  rename_i h1 h2
  exact ⟨⟨_, rfl_err (coF_no (Or.inr (Or.inl (by cases o2 <;> simp_all))))⟩, HBd.out⟩
 ·
  have h2 : o2 = true := by cases o2 <;> simp_all
  have h1 : o1 = true := by assumption
  subst h1
  subst h2
  have BL := Aside0.mk (blk_al (heap_alloc_new wd (.cells #[.slice A1 l1.length c1, .slice A2 l2.length c2] 123 (0, 0))) (.cells #[.int .i64 ((0 : Nat) : Int), .int .i64 ((0 : Nat) : Int)] 124 (0, 0)))
  have BN := Aside0.mk (heap_alloc_new (wd.alloc (.cells #[.slice A1 l1.length c1, .slice A2 l2.length c2] 123 (0, 0))) (.cells #[.int .i64 ((0 : Nat) : Int), .int .i64 ((0 : Nat) : Int)] 124 (0, 0)))
  rw [World.size_alloc] at BN
  have HZ := Aside0.mk (((Below.refl wd.heap.size wd).alloc (Nat.le_refl _) (.cells #[.slice A1 l1.length c1, .slice A2 l2.length c2] 123 (0, 0))).alloc (by rw [World.size_alloc]; omega) (.cells #[.int .i64 ((0 : Nat) : Int), .int .i64 ((0 : Nat) : Int)] 124 (0, 0)))
  clear B0 HB0 HBa Ba HBb Bb HBc Bc
  go_loopw [51] (fun i wr => ∃ n : Nat, i = .int .i64 n ∧ n ≤ l3.length ∧ Aside0 (∀ x ∈ l3.take n, (x.f0 || x.f1) = true) ∧ Aside0 (wr.heap[wd.heap.size]? = some (.cells #[.slice A1 l1.length c1, .slice A2 l2.length c2] 123 (0, 0))) ∧ Aside0 (wr.heap[wd.heap.size + 1]? = some (.cells #[.int .i64 ((cA (l3.take n) : Nat) : Int), .int .i64 ((cB (l3.take n) : Nat) : Int)] 124 (0, 0))) ∧ Aside0 (Below wd.heap.size wd wr))
   (fun i _ => l3.length - (intOf i).toNat)
  case atStart => exact ⟨0, rfl, by omega, ⟨fun x hx => by simp at hx⟩, BL, BN, HZ⟩
  case round =>
   clear BL BN HZ
   obtain ⟨n, rfl, hn, HX, BL, BN, HZ⟩ := hrel
   by_cases h3 : n < l3.length
   ·
    have d3 : decide ((n : Int) < (l3.length : Int)) = true := decide_eq_true (by omega)
    have i3 : (n : Int) < (l3.length : Int) := by omega
    have H3 := Aside0.mk h3
    have NEXT : wrap64 ((n : Int) + 1) = ((n + 1 : Nat) : Int) := by unfold wrap64; have := HN3.out; omega
    obtain ⟨ad, eA, z0, z1⟩ := at_T91 HR3.out (n : Int) (by omega) i3
    subst eA
    rw [Int.toNat_natCast] at z0 z1
    have eX := Aside0.mk (take_rd l3 h3)
    generalize rd_T91 l3 n = x at z0 z1 eX
    obtain ⟨fa, fb⟩ := x
    replace z0 := ((below_tr HBd.out HZ.out).cell (World.block_lt_of_cell? w _ z0)).trans z0
    replace z1 := ((below_tr HBd.out HZ.out).cell (World.block_lt_of_cell? w _ z1)).trans z1
    clear h3
    cases fa <;> cases fb
    ·
     go_wp2
     refine bodyPost_ret (v := .tuple #[.slice none 0 0, .int .i64 1]) (by simp [results, Try.results33, go_sem]) rfl ?_
     have hx : (⟨false, false⟩ : Av) ∈ l3 := List.mem_of_mem_take (i := n + 1) (by rw [eX.out]; exact List.mem_append_right _ List.mem_cons_self)
     exact ⟨⟨_, rfl_err (coF_no (Or.inr (Or.inr (Or.inl ⟨_, hx, rfl⟩))))⟩, below_tr HBd.out (HZ.out.alloc HZ.out.size _)⟩
    ·
     have n0 := (blk_cell (blk_al BN.out (.cells #[.bool false, .bool true] 91 (0, 0))) 0).trans rfl
     have n1 := (blk_cell (blk_al BN.out (.cells #[.bool false, .bool true] 91 (0, 0))) 1).trans rfl
     have f0 := blk_frozen (blk_al BN.out (.cells #[.bool false, .bool true] 91 (0, 0))) 0
     have f1 := blk_frozen (blk_al BN.out (.cells #[.bool false, .bool true] 91 (0, 0))) 1
     have eA : cA (l3.take (n + 1)) = cA (l3.take n) + 0 := by rw [eX.out]; unfold cA; rw [List.countP_append]; rfl
     have eB : cB (l3.take (n + 1)) = cB (l3.take n) + 1 := by rw [eX.out]; unfold cB; rw [List.countP_append]; rfl
     go_wp2
     refine wp_loop_rounds 3 ?_
     rw [rounds_succ]
     go_wp2
     rw [rounds_succ]
     go_wp2
     rw [rounds_succ]
     go_wp2
     have L1 := Aside0.mk (blk_far2 (g := wd.heap.size + 1) (j := 1) (u := (.int .i64 (wrap64 (((cB (l3.take n) : Nat) : Int) + 1)))) (blk_al BL.out (.cells #[.bool false, .bool true] 91 (0, 0))) (by omega))
     have N1 := Aside0.mk (blk_set (blk_al BN.out (.cells #[.bool false, .bool true] 91 (0, 0))) 1 (.int .i64 (wrap64 (((cB (l3.take n) : Nat) : Int) + 1))))
     have Z1 := Aside0.mk (below_set (g := wd.heap.size + 1) (j := 1) (v := (.int .i64 (wrap64 (((cB (l3.take n) : Nat) : Int) + 1)))) (HZ.out.alloc HZ.out.size (.cells #[.bool false, .bool true] 91 (0, 0))) (by omega))
     have WB : wrap64 (((cB (l3.take n) : Nat) : Int) + 1) = ((cB (l3.take n) + 1 : Nat) : Int) := by have := cB_le (l3.take n); have := List.length_take_le n l3; have := HN3.out; unfold wrap64; omega
     go_roundw
     case rel =>
      rw [WB] at L1 N1 Z1 ⊢
      exact ⟨_, _, _, _, _, _, _, _, _, _, _, _, _, _, _, _, _, _, _, _, _, _, _, _, _, _, _, _, _, _, _, _, _, _, ⟨n + 1, rfl, by have := H3.out; omega, ⟨by rw [eX.out]; exact ok_app HX.out rfl⟩, L1, ⟨by rw [eA, eB]; exact N1.out⟩, Z1⟩, rfl⟩
     case measure =>
      show l3.length - ((n : Int) + 1).toNat < l3.length - (n : Int).toNat
      have := H3.out
      omega
    ·
     have n0 := (blk_cell (blk_al BN.out (.cells #[.bool true, .bool false] 91 (0, 0))) 0).trans rfl
     have n1 := (blk_cell (blk_al BN.out (.cells #[.bool true, .bool false] 91 (0, 0))) 1).trans rfl
     have f0 := blk_frozen (blk_al BN.out (.cells #[.bool true, .bool false] 91 (0, 0))) 0
     have f1 := blk_frozen (blk_al BN.out (.cells #[.bool true, .bool false] 91 (0, 0))) 1
     have eA : cA (l3.take (n + 1)) = cA (l3.take n) + 1 := by rw [eX.out]; unfold cA; rw [List.countP_append]; rfl
     have eB : cB (l3.take (n + 1)) = cB (l3.take n) + 0 := by rw [eX.out]; unfold cB; rw [List.countP_append]; rfl
     go_wp2
     refine wp_loop_rounds 3 ?_
     rw [rounds_succ]
     go_wp2
     rw [rounds_succ]
     go_wp2
     rw [rounds_succ]
     go_wp2
     have L1 := Aside0.mk (blk_far2 (g := wd.heap.size + 1) (j := 0) (u := (.int .i64 (wrap64 (((cA (l3.take n) : Nat) : Int) + 1)))) (blk_al BL.out (.cells #[.bool true, .bool false] 91 (0, 0))) (by omega))
     have N1 := Aside0.mk (blk_set (blk_al BN.out (.cells #[.bool true, .bool false] 91 (0, 0))) 0 (.int .i64 (wrap64 (((cA (l3.take n) : Nat) : Int) + 1))))
     have Z1 := Aside0.mk (below_set (g := wd.heap.size + 1) (j := 0) (v := (.int .i64 (wrap64 (((cA (l3.take n) : Nat) : Int) + 1)))) (HZ.out.alloc HZ.out.size (.cells #[.bool true, .bool false] 91 (0, 0))) (by omega))
     have WA : wrap64 (((cA (l3.take n) : Nat) : Int) + 1) = ((cA (l3.take n) + 1 : Nat) : Int) := by have := cA_le (l3.take n); have := List.length_take_le n l3; have := HN3.out; unfold wrap64; omega
     go_roundw
     case rel =>
      rw [WA] at L1 N1 Z1 ⊢
      exact ⟨_, _, _, _, _, _, _, _, _, _, _, _, _, _, _, _, _, _, _, _, _, _, _, _, _, _, _, _, _, _, _, _, _, _, ⟨n + 1, rfl, by have := H3.out; omega, ⟨by rw [eX.out]; exact ok_app HX.out rfl⟩, L1, ⟨by rw [eA, eB]; exact N1.out⟩, Z1⟩, rfl⟩
     case measure =>
      show l3.length - ((n : Int) + 1).toNat < l3.length - (n : Int).toNat
      have := H3.out
      omega
    ·
     have n0 := (blk_cell (blk_al BN.out (.cells #[.bool true, .bool true] 91 (0, 0))) 0).trans rfl
     have n1 := (blk_cell (blk_al BN.out (.cells #[.bool true, .bool true] 91 (0, 0))) 1).trans rfl
     have f0 := blk_frozen (blk_al BN.out (.cells #[.bool true, .bool true] 91 (0, 0))) 0
     have f1 := blk_frozen (blk_al BN.out (.cells #[.bool true, .bool true] 91 (0, 0))) 1
     have eA : cA (l3.take (n + 1)) = cA (l3.take n) + 1 := by rw [eX.out]; unfold cA; rw [List.countP_append]; rfl
     have eB : cB (l3.take (n + 1)) = cB (l3.take n) + 1 := by rw [eX.out]; unfold cB; rw [List.countP_append]; rfl
     go_wp2
     refine wp_loop_rounds 3 ?_
     rw [rounds_succ]
     go_wp2
     rw [rounds_succ]
     go_wp2
     rw [rounds_succ]
     go_wp2
     have L1 := Aside0.mk (blk_far2 (g := wd.heap.size + 1) (j := 1) (u := (.int .i64 (wrap64 (((cB (l3.take n) : Nat) : Int) + 1)))) (blk_far2 (g := wd.heap.size + 1) (j := 0) (u := (.int .i64 (wrap64 (((cA (l3.take n) : Nat) : Int) + 1)))) (blk_al BL.out (.cells #[.bool true, .bool true] 91 (0, 0))) (by omega)) (by omega))
     have N1 := Aside0.mk (blk_set (blk_set (blk_al BN.out (.cells #[.bool true, .bool true] 91 (0, 0))) 0 (.int .i64 (wrap64 (((cA (l3.take n) : Nat) : Int) + 1)))) 1 (.int .i64 (wrap64 (((cB (l3.take n) : Nat) : Int) + 1))))
     have Z1 := Aside0.mk (below_set (g := wd.heap.size + 1) (j := 1) (v := (.int .i64 (wrap64 (((cB (l3.take n) : Nat) : Int) + 1)))) (below_set (g := wd.heap.size + 1) (j := 0) (v := (.int .i64 (wrap64 (((cA (l3.take n) : Nat) : Int) + 1)))) (HZ.out.alloc HZ.out.size (.cells #[.bool true, .bool true] 91 (0, 0))) (by omega)) (by omega))
     have WA : wrap64 (((cA (l3.take n) : Nat) : Int) + 1) = ((cA (l3.take n) + 1 : Nat) : Int) := by have := cA_le (l3.take n); have := List.length_take_le n l3; have := HN3.out; unfold wrap64; omega
     have WB : wrap64 (((cB (l3.take n) : Nat) : Int) + 1) = ((cB (l3.take n) + 1 : Nat) : Int) := by have := cB_le (l3.take n); have := List.length_take_le n l3; have := HN3.out; unfold wrap64; omega
     go_roundw
     case rel =>
      rw [WA] at L1 N1 Z1 ⊢
      rw [WB] at L1 N1 Z1 ⊢
      exact ⟨_, _, _, _, _, _, _, _, _, _, _, _, _, _, _, _, _, _, _, _, _, _, _, _, _, _, _, _, _, _, _, _, _, _, ⟨n + 1, rfl, by have := H3.out; omega, ⟨by rw [eX.out]; exact ok_app HX.out rfl⟩, L1, ⟨by rw [eA, eB]; exact N1.out⟩, Z1⟩, rfl⟩
     case measure =>
      show l3.length - ((n : Int) + 1).toNat < l3.length - (n : Int).toNat
      have := H3.out
      omega
   ·
    have en : n = l3.length := by omega
    subst en
    rw [List.take_length] at HX BN
    have n0 := (blk_cell BN.out 0).trans rfl
    have n1 := (blk_cell BN.out 1).trans rfl
    have d3 : decide ((l3.length : Int) < (l3.length : Int)) = false := decide_eq_false (by omega)
    cases bA : (((cA l3 : Nat) : Int) == ((l1.length : Nat) : Int)) with
    | false =>
     have nA : cA l3 ≠ l1.length := fun h => by rw [h, beq_self_eq_true] at bA; cases bA
     go_wp2
     refine bodyPost_ret (v := .tuple #[.slice none 0 0, .int .i64 1]) (by simp [results, Try.results33, go_sem]) rfl ?_
     exact ⟨⟨_, rfl_err (coF_no (Or.inr (Or.inr (Or.inr (Or.inl nA)))))⟩, below_tr HBd.out HZ.out⟩
    | true =>
     have hA : cA l3 = l1.length := by have h_ := eq_of_beq bA; omega
     cases bB : (((cB l3 : Nat) : Int) == ((l2.length : Nat) : Int)) with
     | false =>
      have nB : cB l3 ≠ l2.length := fun h => by rw [h, beq_self_eq_true] at bB; cases bB
      go_wp2
      refine bodyPost_ret (v := .tuple #[.slice none 0 0, .int .i64 1]) (by simp [results, Try.results33, go_sem]) rfl ?_
      exact ⟨⟨_, rfl_err (coF_no (Or.inr (Or.inr (Or.inr (Or.inr nB)))))⟩, below_tr HBd.out HZ.out⟩
     | true =>
      have hB : cB l3 = l2.length := by have h_ := eq_of_beq bB; omega
      go_wp2
      have S4 := Aside0.mk (show w.heap.size < wd.heap.size from (Array.getElem?_eq_some_iff.1 Bd.out).1)
      have HF := Aside0.mk (show coF pp true true l1 l2 l3 = match coR pp l3 0 (two l1 l2) [] with | some t => ((0 : Int), t) | none => (2, []) from if_pos ⟨⟨rfl, rfl⟩, HX.out, hA, hB⟩)
      obtain ⟨R0, hR0⟩ : ∃ R0, coR pp l3 0 (two l1 l2) [] = R0 := ⟨_, rfl⟩
      rw [hR0] at HF
      have HR0 := Aside0.mk (show coR pp (l3.drop 0) 0 (two l1 l2) [] = R0 from hR0)
      clear hR0
      have HS0 := Aside0.mk (Kd.S_nil k67 67 wr w.heap.size (fun _ => True))
      have HBw := Aside0.mk (below_tr HBd.out HZ.out)
      have BLm := Aside0.mk (blk_in Bd.out HZ.out)
      have CA0 : Aside0 (cA (l3.drop 0) = l1.length) := ⟨hA⟩
      have CB0 : Aside0 (cB (l3.drop 0) = l2.length) := ⟨hB⟩
      have HR1' := HR1
      have HR2' := HR2
      have HXA := Aside0.mk (show ∀ x ∈ l3, (x.f0 || x.f1) = true from HX.out)
      have HSL0 := Aside0.mk (HSL.out HXA.out).1.run
      have HSL1 := Aside0.mk (HSL.out HXA.out).2.run
      have PP0 := Aside0.mk (HSL.out HXA.out).1.pos
      have PP1 := Aside0.mk (HSL.out HXA.out).2.pos
      clear n0 n1 d3 bA bB BN HX
      go_loopw [89, 17, 16] (fun i a ov wt => ∃ (n at_ : Nat) (P0 P1 : Option Addr) (Q0 Q1 : Nat) (xs0 xs1 : List Mv) (out : List Sg), i = .int .i64 n ∧ a = .int .i64 at_ ∧ n ≤ l3.length ∧ Aside0 (at_ ≤ 2000) ∧ Aside0 (coR pp (l3.drop n) at_ (two xs0 xs1) out = R0) ∧ Aside0 (cA (l3.drop n) = xs0.length) ∧ Aside0 (cB (l3.drop n) = xs1.length) ∧ Aside0 (out.length ≤ 2 * at_) ∧ Aside0 (Kd.C k63 w P0 xs0.length xs0) ∧ Aside0 (xs0.length ≤ Q0) ∧ Aside0 (Kd.C k63 w P1 xs1.length xs1) ∧ Aside0 (xs1.length ≤ Q1) ∧ Aside0 (wt.heap[wd.heap.size]? = some (.cells #[.slice P0 xs0.length Q0, .slice P1 xs1.length Q1] 123 (0, 0))) ∧ Aside0 (wt.heap[w.heap.size]? = some (lmo a0 a1 a2 b0 b1 b2)) ∧ Aside0 (Kd.S k67 67 wt w.heap.size (fun _ => True) ov out) ∧ Aside0 (Below w.heap.size w wt))
       (fun i _ _ _ => l3.length - (intOf i).toNat)
      case atStart => exact ⟨0, 0, A1, A2, c1, c2, l1, l2, [], rfl, rfl, by omega, ⟨by omega⟩, HR0, CA0, CB0, ⟨by simp⟩, HR1, HC1, HR2, HC2, BL, BLm, HS0, HBw⟩
      case round =>
       clear HR0 CA0 CB0 BL BLm HS0 HBw HR1' HR2'
       obtain ⟨n, at_, P0, P1, Q0, Q1, xs0, xs1, out, rfl, rfl, hn, HAT, HR, CA, CB, HOL, HL0, HQ0, HL1, HQ1, UL, UX, HO, UW⟩ := hrel
       by_cases h3 : n < l3.length
       ·
        have d3 : decide ((n : Int) < (l3.length : Int)) = true := decide_eq_true (by omega)
        have i3 : (n : Int) < (l3.length : Int) := by omega
        have H3 := Aside0.mk h3
        obtain ⟨ad, eA, z0, z1⟩ := at_T91 HR3.out (n : Int) (by omega) i3
        subst eA
        rw [Int.toNat_natCast] at z0 z1
        have eX := drop_rd l3 h3
        have OKX : Aside0 (((rd_T91 l3 n).f0 || (rd_T91 l3 n).f1) = true) := ⟨HXA.out _ (List.mem_of_mem_drop (i := n) (by rw [eX]; exact List.mem_cons_self))⟩
        generalize rd_T91 l3 n = x at z0 z1 eX OKX
        obtain ⟨fa, fb⟩ := x
        replace z0 := (UW.out.cell (World.block_lt_of_cell? w _ z0)).trans z0
        replace z1 := (UW.out.cell (World.block_lt_of_cell? w _ z1)).trans z1
        rw [eX] at HR CA CB
        clear h3 eX
        obtain ⟨rest, erest⟩ : ∃ rest, l3.drop (n + 1) = rest := ⟨_, rfl⟩
        rw [erest] at HR CA CB
        have ERS := Aside0.mk erest
        clear erest
        have VL := Aside0.mk (blk_al UL.out (.cells #[.bool fa, .bool fb] 91 (0, 0)))
        have VX := Aside0.mk (blk_al UX.out (.cells #[.bool fa, .bool fb] 91 (0, 0)))
        have VO := Aside0.mk (Kd.S_alloc HO.out (.cells #[.bool fa, .bool fb] 91 (0, 0)))
        have VW := Aside0.mk (UW.out.alloc UW.out.size (.cells #[.bool fa, .bool fb] 91 (0, 0)))
        go_wp2
        have HM : Aside0 (restF pp fa fb rest at_ 0 (at_, two xs0 xs1, out) = R0) := ⟨HR.out⟩
        have CA1 : Aside0 (xs0.length = cA rest + (if 0 = 0 ∧ fa = true then 1 else 0)) := ⟨by rw [← CA.out]; unfold cA; rw [List.countP_cons]; cases fa <;> rfl⟩
        have CB1 : Aside0 (xs1.length = cB rest + (if 0 ≤ 1 ∧ fb = true then 1 else 0)) := ⟨by rw [← CB.out]; unfold cB; rw [List.countP_cons]; cases fb <;> rfl⟩
        have HOL1 : Aside0 (out.length ≤ 2 * at_ + 0) := ⟨HOL.out⟩
        have HPG : Aside0 (((0 = 1 ∧ fa = true) ∨ 0 = 2) → at_ + 1 ≤ at_) := ⟨fun h => by omega⟩
        clear z0 z1 UL UX HO UW HR CA CB HOL
        go_loopw [99, 20, 16] (fun i nx ov wu => ∃ (m nxt : Nat) (P0 P1 : Option Addr) (Q0 Q1 : Nat) (xs0 xs1 : List Mv) (out : List Sg), i = .int .i64 m ∧ nx = .int .i64 nxt ∧ m ≤ 2 ∧ Aside0 (nxt ≤ 2000) ∧ Aside0 (restF pp fa fb rest at_ m (nxt, two xs0 xs1, out) = R0) ∧ Aside0 (xs0.length = cA rest + (if m = 0 ∧ fa = true then 1 else 0)) ∧ Aside0 (xs1.length = cB rest + (if m ≤ 1 ∧ fb = true then 1 else 0)) ∧ Aside0 (out.length ≤ 2 * at_ + m) ∧ Aside0 (((m = 1 ∧ fa = true) ∨ m = 2) → at_ + 1 ≤ nxt) ∧ Aside0 (at_ ≤ nxt) ∧ Aside0 (Kd.C k63 w P0 xs0.length xs0) ∧ Aside0 (xs0.length ≤ Q0) ∧ Aside0 (Kd.C k63 w P1 xs1.length xs1) ∧ Aside0 (xs1.length ≤ Q1) ∧ Aside0 (wu.heap[wd.heap.size]? = some (.cells #[.slice P0 xs0.length Q0, .slice P1 xs1.length Q1] 123 (0, 0))) ∧ Aside0 (wu.heap[w.heap.size]? = some (lmo a0 a1 a2 b0 b1 b2)) ∧ Aside0 (Kd.S k67 67 wu w.heap.size (fun _ => True) ov out) ∧ Aside0 (Below w.heap.size w wu))
         (fun i _ _ _ => 2 - (intOf i).toNat)
        case atStart => exact ⟨0, at_, P0, P1, Q0, Q1, xs0, xs1, out, rfl, rfl, by omega, HAT, HM, CA1, CB1, HOL1, HPG, ⟨Nat.le_refl _⟩, HL0, HQ0, HL1, HQ1, VL, VX, VO, VW⟩
        case round =>
         clear HM CA1 CB1 HOL1 HPG HL0 HQ0 HL1 HQ1 VL VX VO VW
         obtain ⟨m, nxt, P0, P1, Q0, Q1, xs0, xs1, out, rfl, rfl, hm, HNX, HR, CA, CB, HOL, HPG, HLE, HL0, HQ0, HL1, HQ1, UL, UX, HO, UW⟩ := hrel
         have SU := Aside0.mk (show wd.heap.size < wr.heap.size from (Array.getElem?_eq_some_iff.1 UL.out).1)
         rcases (show m = 0 ∨ m = 1 ∨ m = 2 by omega) with rfl | rfl | rfl
         ·
          cases fa with
          | false =>
           go_wp2
           refine ⟨⟨1, nxt, P0, P1, Q0, Q1, xs0, xs1, out, rfl, rfl, by omega, HNX, ⟨rest_0 HR.out rfl⟩, ⟨by have h_ := CA.out; simpa using h_⟩, ⟨by have h_ := CB.out; simpa using h_⟩, ⟨by have h_ := HOL.out; omega⟩, ⟨fun h_ => by simp at h_⟩, HLE, HL0, HQ0, HL1, HQ1, UL, UX, HO, UW⟩, ?_⟩
           decide
          | true =>
           have HCT0 := Aside0.mk (show 1 ≤ xs0.length from by have h_ := CA.out; simp at h_; omega)
           obtain ⟨y, r, eY⟩ : ∃ y r, xs0 = y :: r := by
            cases h_ : xs0 with
            | nil => have h1_ := HCT0.out; rw [h_] at h1_; simp at h1_
            | cons y r => exact ⟨y, r, rfl⟩
           subst eY
           have HLR := HL0
           obtain ⟨ln, eln⟩ : ∃ ln, (y :: r).length = ln := ⟨_, rfl⟩
           have h1n : 1 ≤ ln := by rw [← eln]; simp
           rw [eln] at UL HL0
           have h1i : (0 : Int) < (ln : Int) := by omega
           have h1a : 0 < ln := h1n
           have h1b : decide (0 < ln) = true := decide_eq_true h1n
           have h1c : decide ((0 : Int) < (ln : Int)) = true := decide_eq_true h1i
           obtain ⟨am, eA1, m0, m1, m2⟩ := at_T63 HL0.out 0 (by omega) (by omega)
           subst eA1
           have M0 : Aside0 (w.cell? am = some (.int .i64 y.f0)) := ⟨by have h_ : w.cell? (am.add 0) = some (.int .i64 y.f0) := m0; rwa [Addr.add_zero'] at h_⟩
           have M1 : Aside0 (w.cell? ⟨am.block, am.off + 1, none⟩ = some (.int .i64 y.f1)) := ⟨by have h_ : w.cell? ⟨(am.add 0).block, (am.add 0).off + 1, none⟩ = some (.int .i64 y.f1) := m1; rwa [Addr.add_zero'] at h_⟩
           have M2 : Aside0 (w.cell? ⟨am.block, am.off + 2, none⟩ = some (.int .i64 y.f2)) := ⟨by have h_ : w.cell? ⟨(am.add 0).block, (am.add 0).off + 2, none⟩ = some (.int .i64 y.f2) := m2; rwa [Addr.add_zero'] at h_⟩
           clear m0 m1 m2
           obtain ⟨g0, g1, g2, g3, g4, J, okb, hsl, hgood, hbad⟩ := HSL0.out y at_ HAT.out
           have SL := Aside0.mk hsl
           have GD := Aside0.mk hgood
           have BD := Aside0.mk hbad
           clear hsl hgood hbad
           go_upto_region 29 with (fail)
           go_cut [23, 24] (fun v23 v24 wq => ∃ (Bs co : Nat) (Ao : Option Addr), v23 = .pointer (some ⟨Bs, 0, none⟩) ∧ v24 = .bool okb ∧ Aside0 (wd.heap.size < Bs) ∧ Aside0 (wq.heap[Bs]? = some (.cells #[.int .i64 g0, .int .i64 g1, .int .i64 g2, .int .i64 g3, .int .i64 g4, .slice Ao J.length co] 67 (0, 0))) ∧ Aside0 (Kd.R (Kd.int .i64) 3 wq w.heap.size (fun k => k ≠ Bs) (.slice Ao J.length co : Value) J) ∧ Aside0 (Kd.S k67 67 wq w.heap.size (fun k => some k ≠ (.slice Ao J.length co : Value).ownBlock ∧ k ≠ Bs) u16 out) ∧ Aside0 (wq.heap[wd.heap.size]? = some (.cells #[.slice (some am) ln Q0, .slice P1 xs1.length Q1] 123 (0, 0))) ∧ Aside0 (wq.heap[w.heap.size]? = some (lmo a0 a1 a2 b0 b1 b2)) ∧ Aside0 (Below w.heap.size w wq))
           case first =>
            have y0 : wr.cell? ⟨w.heap.size, 0, none⟩ = some (.int .i64 a0) := (blk_cell UX.out 0).trans rfl
            have y1 : wr.cell? ⟨w.heap.size, 1, none⟩ = some (.int .i64 a1) := (blk_cell UX.out 1).trans rfl
            have y2 : wr.cell? ⟨w.heap.size, 2, none⟩ = some (.int .i64 a2) := (blk_cell UX.out 2).trans rfl
            have y3 : wr.cell? ⟨wd.heap.size, 0, none⟩ = some (.slice (some am) ln Q0) := (blk_cell UL.out 0).trans rfl
            have y4 : wr.cell? am = some (.int .i64 y.f0) := (UW.out.cell (World.block_lt_of_cell? w _ M0.out)).trans M0.out
            have y5 : wr.cell? ⟨am.block, am.off + 1, none⟩ = some (.int .i64 y.f1) := (UW.out.cell (World.block_lt_of_cell? w _ M1.out)).trans M1.out
            have y6 : wr.cell? ⟨am.block, am.off + 2, none⟩ = some (.int .i64 y.f2) := (UW.out.cell (World.block_lt_of_cell? w _ M2.out)).trans M2.out
            have yd0 := cell_dr y0; have ya0 := cell_ald y0 sg0; have ns0 := cell_ns y0
            have yd1 := cell_dr y1; have ya1 := cell_ald y1 sg0; have ns1 := cell_ns y1
            have yd2 := cell_dr y2; have ya2 := cell_ald y2 sg0; have ns2 := cell_ns y2
            have yd3 := cell_dr y3; have ya3 := cell_ald y3 sg0; have ns3 := cell_ns y3
            have yd4 := cell_dr y4; have ya4 := cell_ald y4 sg0; have ns4 := cell_ns y4
            have yd5 := cell_dr y5; have ya5 := cell_ald y5 sg0; have ns5 := cell_ns y5
            have yd6 := cell_dr y6; have ya6 := cell_ald y6 sg0; have ns6 := cell_ns y6
            (first | (go_region_held3 (fun w' => w'.cell? ⟨w.heap.size, 0, none⟩ = some (.int .i64 a0) ∧ w'.cell? ⟨w.heap.size, 1, none⟩ = some (.int .i64 a1) ∧ w'.cell? ⟨w.heap.size, 2, none⟩ = some (.int .i64 a2) ∧ w'.cell? ⟨wd.heap.size, 0, none⟩ = some (.slice (some am) ln Q0) ∧ w'.cell? am = some (.int .i64 y.f0) ∧ w'.cell? ⟨am.block, am.off + 1, none⟩ = some (.int .i64 y.f1) ∧ w'.cell? ⟨am.block, am.off + 2, none⟩ = some (.int .i64 y.f2)) (first | with_reducible exact ⟨yd0, yd1, yd2, yd3, yd4, yd5, yd6⟩ | with_reducible exact ⟨ya0, ya1, ya2, ya3, ya4, ya5, ya6⟩ | with_reducible exact ⟨v0, v1, v2, v3, v4, v5, v6⟩ | with_reducible exact ⟨Coord.cell_al v0 _, Coord.cell_al v1 _, Coord.cell_al v2 _, Coord.cell_al v3 _, Coord.cell_al v4 _, Coord.cell_al v5 _, Coord.cell_al v6 _⟩ | with_reducible exact ⟨Coord.cell_al y0 _, Coord.cell_al y1 _, Coord.cell_al y2 _, Coord.cell_al y3 _, Coord.cell_al y4 _, Coord.cell_al y5 _, Coord.cell_al y6 _⟩ | exact ⟨Coord.far6 v0 ns0 _ _ _ _ _ _, Coord.far6 v1 ns1 _ _ _ _ _ _, Coord.far6 v2 ns2 _ _ _ _ _ _, Coord.far6 v3 ns3 _ _ _ _ _ _, Coord.far6 v4 ns4 _ _ _ _ _ _, Coord.far6 v5 ns5 _ _ _ _ _ _, Coord.far6 v6 ns6 _ _ _ _ _ _⟩) (first
             | (go_at_call 61; (with_reducible refine (timetable_slot.calls K a0 a1 a2 y.f0 y.f1 y.f2 1 (at_ : Int) g0 g1 g2 g3 g4 J okb wr.drew SL.out).mono ?_); rintro e w7 ⟨v5_, rfl, hR5, hb7⟩; obtain ⟨Ao, co, eo⟩ := Kd.R_slice hR5; subst eo; have v0 := Coord.cell_in yd0 hb7; have v1 := Coord.cell_in yd1 hb7; have v2 := Coord.cell_in yd2 hb7; have v3 := Coord.cell_in yd3 hb7; have v4 := Coord.cell_in yd4 hb7; have v5 := Coord.cell_in yd5 hb7; have v6 := Coord.cell_in yd6 hb7; have HO7 := Aside0.mk (Kd.S_elder' (Kd.S_drew HO.out) (Kd.R_base hR5) hb7); have HR7 := Aside0.mk hR5; have HB7 := Aside0.mk hb7; clear hR5 hb7)
             | (go_at_call 61; (with_reducible refine (timetable_slot.calls K a0 a1 a2 y.f0 y.f1 y.f2 1 (at_ : Int) g0 g1 g2 g3 g4 J okb (wr.alloc sg0).drew SL.out).mono ?_); rintro e w7 ⟨v5_, rfl, hR5, hb7⟩; obtain ⟨Ao, co, eo⟩ := Kd.R_slice hR5; subst eo; have v0 := Coord.cell_in ya0 hb7; have v1 := Coord.cell_in ya1 hb7; have v2 := Coord.cell_in ya2 hb7; have v3 := Coord.cell_in ya3 hb7; have v4 := Coord.cell_in ya4 hb7; have v5 := Coord.cell_in ya5 hb7; have v6 := Coord.cell_in ya6 hb7; have HO7 := Aside0.mk (Kd.S_elder' (Kd.S_drew (Kd.S_alloc (Kd.S_elderB HO.out wr.heap.size (Nat.le_refl _)) sg0)) (Kd.R_base hR5) hb7); have hn7 := blk_in (show ((wr.alloc sg0).drew).heap[wr.heap.size]? = some sg0 from heap_alloc_new wr sg0) hb7; have HN7 := Aside0.mk hn7; obtain ⟨n0, n1, n2, n3, n4, n5⟩ := heldS hn7; have f0 := blk_frozen hn7 0; have f1 := blk_frozen hn7 1; have f2 := blk_frozen hn7 2; have f3 := blk_frozen hn7 3; have f4 := blk_frozen hn7 4; have f5 := blk_frozen hn7 5; clear hn7; have HR7 := Aside0.mk hR5; have HB7 := Aside0.mk hb7; clear hR5 hb7))) | (fail "no"))
            all_goals
             first
              | (obtain ⟨W9, e9, b9, g9⟩ := Coord.setS HN7.out (.int .i64 g0) (.int .i64 g1) (.int .i64 g2) (.int .i64 g3) (.int .i64 g4) (.slice Ao J.length co); rw [e9]; go_wp2; go_meet; case rel => exact ⟨wr.heap.size, co, Ao, rfl, rfl, SU, ⟨b9⟩, ⟨Kd.R_mono (Kd.R_grown (Kd.R_types (Kd.R_lower HR7.out (show w.heap.size ≤ ((wr.alloc sg0).drew).heap.size from (UW.out.alloc UW.out.size sg0).drew.size)) HN7.out (by decide)) g9 (fun k h_ e_ => h_.2 (Option.some.inj e_))) (fun _ h_ => h_.2)⟩, ⟨Kd.S_mono (Kd.S_grown HO7.out g9 (fun k h_ e_ => h_.1.2 (Option.some.inj e_))) (fun _ h_ => ⟨h_.2, h_.1.2⟩)⟩, ⟨Coord.blk_gr (blk_in (W := (wr.alloc sg0).drew) (blk_al UL.out _) HB7.out) g9 (by have := SU.out; omega)⟩, ⟨Coord.blk_gr (blk_in (W := (wr.alloc sg0).drew) (blk_al UX.out _) HB7.out) g9 (by have := SU.out; have := S4.out; omega)⟩, ⟨Ticks.below_grown (below_tr (W := (wr.alloc sg0).drew) (UW.out.alloc UW.out.size sg0).drew HB7.out) g9 UW.out.size⟩⟩)
              | (go_wp2; go_meet; case rel => exact ⟨w7.heap.size, co, Ao, rfl, rfl, ⟨Nat.lt_of_lt_of_le SU.out HB7.out.size⟩, ⟨heap_alloc_new w7 _⟩, ⟨Kd.R_alloc (Kd.R_mono (Kd.R_elderB (Kd.R_lower HR7.out UW.out.size) w7.heap.size (Nat.le_refl _)) (fun _ h_ => h_.2)) _⟩, ⟨Kd.S_alloc (Kd.S_mono (Kd.S_elderB HO7.out w7.heap.size (Nat.le_refl _)) (fun _ h_ => ⟨h_.1.2, h_.2⟩)) _⟩, ⟨blk_al (blk_in (W := wr.drew) UL.out HB7.out) _⟩, ⟨blk_al (blk_in (W := wr.drew) UX.out HB7.out) _⟩, ⟨(below_tr (W := wr.drew) UW.out.drew HB7.out).alloc (below_tr (W := wr.drew) UW.out.drew HB7.out).size _⟩⟩)
           case rest =>
            obtain ⟨Bs, co, Ao, rfl, rfl, hLT, hSB, hRJ, hHO, hUL, hUX, hUW⟩ := hcut
            clear UL UX UW SU HO M0 M1 M2
            cases okb with
            | false =>
             have hR := rest_0no HR.out (armS_no0 (BD.out rfl))
             have hF := HF.out
             rw [hR] at hF
             go_wp2
             refine bodyPost_ret (v := .tuple #[.slice none 0 0, .int .i64 2]) (by simp [results, Try.results33, go_sem]) rfl ?_
             try rw [hF]
             exact ⟨⟨_, rfl, Kd.S_nil _ _ _ _ _⟩, hUW.out⟩
            | true =>
             obtain ⟨hfit, e0_, e1_, e2_, e3_, e4_, e5_⟩ := GD.out rfl
             subst e0_ e1_ e2_ e3_ e4_ e5_
             have FIT := Aside0.mk hfit
             obtain ⟨i0_, hi0_, _, hsz_, _⟩ := info_parts info63
             obtain ⟨qa, qn, qc, hq, eqa, eqn, eqc⟩ : ∃ (qa : Option Addr) (qn qc : Nat), (∀ W : World, (Instr.slice 50 (.slice (some am) ln Q0) (some (.int .i64 1)) none none).run Try.prog W = .ok (.slice qa qn qc) W) ∧ qa = (if Q0 = 1 then some am else (some am).map (·.add (1 * 3))) ∧ qn = ln - 1 ∧ qc = Q0 - 1 := ⟨_, _, _, cut_from (P := Try.prog) 50 63 .i64 Try.underlying50 hi0_ 3 hsz_ (some am) ln Q0 1 (by omega) (by omega), rfl, rfl, rfl⟩
             have HLn : Aside0 (Kd.C k63 w qa r.length r) := ⟨by rw [eqa]; exact Kd.C_drop (m := 1) HLR.out (by simp) HQ0.out⟩
             have HQn : Aside0 (r.length ≤ qc) := ⟨by have h_ := HQ0.out; simp at h_; omega⟩
             have ER := Aside0.mk (show qn = r.length from by simp at eln; omega)
             clear eqa eqn eqc
             have gT := Ticks.grown_set wc wd.heap.size 0 (.slice qa qn qc)
             have szT : (wc.setCell ⟨wd.heap.size, 0, none⟩ (.slice qa qn qc)).heap.size = wc.heap.size := by simp
             have neB : Bs ≠ wd.heap.size := by have := hLT.out; omega
             have TR := Aside0.mk (Kd.R_mono (ok' := fun k => k ≠ Bs) (Kd.R_grown (Kd.R_types hRJ.out hUL.out (by decide)) gT (fun k h_ e_ => h_.2 (Option.some.inj e_))) (fun _ h_ => h_.1))
             have TS := Aside0.mk (Kd.S_mono (ok' := fun k => some k ≠ (.slice Ao (pp 0).length co : Value).ownBlock ∧ k ≠ Bs) (Kd.S_grown (Kd.S_types hHO.out hUL.out (by decide)) gT (fun k h_ e_ => h_.2 (Option.some.inj e_))) (fun _ h_ => h_.1))
             have TB := Aside0.mk (Coord.blk_gr hSB.out gT neB)
             have TL : Aside0 ((wc.setCell ⟨wd.heap.size, 0, none⟩ (.slice qa qn qc)).heap[wd.heap.size]? = some (.cells #[.slice qa qn qc, .slice P1 xs1.length Q1] 123 (0, 0))) := ⟨by have h_ := blk_set hUL.out 0 (.slice qa qn qc); simpa using h_⟩
             have TX := Aside0.mk (Coord.blk_gr hUX.out gT (by have := S4.out; omega))
             have TW := Aside0.mk (Ticks.below_grown hUW.out gT (by have := S4.out; omega))
             have TA := Aside0.mk (Kd.R_apart' TR.out (Kd.S_typed TS.out) (by decide))
             have y0 : wc.cell? ⟨wd.heap.size, 0, none⟩ = some (.slice (some am) ln Q0) := (blk_cell hUL.out 0).trans rfl
             have yf := blk_frozen hUL.out 0
             have s0 : (wc.setCell ⟨wd.heap.size, 0, none⟩ (.slice qa qn qc)).cell? ⟨Bs, 0, none⟩ = some (.int .i64 y.f0) := (blk_cell TB.out 0).trans rfl
             have s1 : (wc.setCell ⟨wd.heap.size, 0, none⟩ (.slice qa qn qc)).cell? ⟨Bs, 1, none⟩ = some (.int .i64 y.f1) := (blk_cell TB.out 1).trans rfl
             have s2 : (wc.setCell ⟨wd.heap.size, 0, none⟩ (.slice qa qn qc)).cell? ⟨Bs, 2, none⟩ = some (.int .i64 y.f2) := (blk_cell TB.out 2).trans rfl
             have s3 : (wc.setCell ⟨wd.heap.size, 0, none⟩ (.slice qa qn qc)).cell? ⟨Bs, 3, none⟩ = some (.int .i64 1) := (blk_cell TB.out 3).trans rfl
             have s4 : (wc.setCell ⟨wd.heap.size, 0, none⟩ (.slice qa qn qc)).cell? ⟨Bs, 4, none⟩ = some (.int .i64 (at_ : Int)) := (blk_cell TB.out 4).trans rfl
             have s5 : (wc.setCell ⟨wd.heap.size, 0, none⟩ (.slice qa qn qc)).cell? ⟨Bs, 5, none⟩ = some (.slice Ao (pp 0).length co) := (blk_cell TB.out 5).trans rfl
             have NE := Aside0.mk (Kd.S_away TS.out (fun _ h_ => h_.2))
             have NL := Aside0.mk (Kd.S_ne TS.out TL.out (by decide))
             have NX := Aside0.mk (Kd.S_ne TS.out TX.out (by decide))
             have HBs := Aside0.mk ((Array.getElem?_eq_some_iff.1 TB.out).1)
             clear gT hSB hRJ hHO hUL hUX hUW
             go_step
             go_wp2_with (first
              | ((with_reducible refine gate_builtin (b := .append) (xs := #[.tmp 127, .tmp 129]) rfl ?_); at_builtin; refine Kd.S_append k67 (w0 := w) w.heap.size rfl (.tmp 127) (.tmp 129) 53 67 (.agg #[(.int .i64 0), (.int .i64 0), (.int .i64 0), (.int .i64 0), (.int .i64 0), (.slice none 0 0)]) 64 rfl Try.underlying53 info67 rfl (by decide) (by omega) u16 out (⟨⟨y, 1⟩, (at_ : Int), pp 0⟩ : Sg) [.int .i64 y.f0, .int .i64 y.f1, .int .i64 y.f2, .int .i64 1, .int .i64 (at_ : Int), .slice Ao (pp 0).length co] (fun _ => True) (fun k_ => some k_ = (.slice Ao (pp 0).length co : Value).ownBlock) rfl (by rw [szT]; rfl) (k67_mkM _ _ _ (⟨⟨y, 1⟩, (at_ : Int), pp 0⟩ : Sg) (Kd.R_tight rfl TR.out)) (fun k_ hk_ => ⟨trivial, (TA.out.1 k_ hk_.symm).2⟩) (fun _ _ => trivial) (Kd.S_mono TS.out (fun _ h_ => ⟨trivial, h_.1⟩)) TW.out TW.out.size (by have h1_ := HOL.out; have h2_ := HAT.out; omega) ?_; intro ov0 w8 ho hb hg hat; have AB := Aside0.mk ((hg.block Bs HBs.out NE.out).trans TB.out); have AL := Aside0.mk ((hg.block wd.heap.size (Array.getElem?_eq_some_iff.1 TL.out).1 NL.out).trans TL.out); have AX := Aside0.mk ((hg.block w.heap.size (Array.getElem?_eq_some_iff.1 TX.out).1 NX.out).trans TX.out); have AJ := Aside0.mk (Kd.R_grown TA.out hg (fun k h_ => h_.2)); have AO := Aside0.mk ho; have AW := Aside0.mk hb; have u0 : w8.cell? ⟨Bs, 0, none⟩ = some (.int .i64 y.f0) := (blk_cell AB.out 0).trans rfl; have u1 : w8.cell? ⟨Bs, 1, none⟩ = some (.int .i64 y.f1) := (blk_cell AB.out 1).trans rfl; have u2 : w8.cell? ⟨Bs, 2, none⟩ = some (.int .i64 y.f2) := (blk_cell AB.out 2).trans rfl; have u3 : w8.cell? ⟨Bs, 3, none⟩ = some (.int .i64 1) := (blk_cell AB.out 3).trans rfl; have u4 : w8.cell? ⟨Bs, 4, none⟩ = some (.int .i64 (at_ : Int)) := (blk_cell AB.out 4).trans rfl; have u5 : w8.cell? ⟨Bs, 5, none⟩ = some (.slice Ao (pp 0).length co) := (blk_cell AB.out 5).trans rfl; clear ho hb hg hat)
              | (go_at_call 62; refine (timetable_ends.calls y.f0 y.f1 y.f2 1 (at_ : Int) Ao co (pp 0) ((at_ + (pp 0).length : Nat) : Int) _ (Kd.R_reads' AJ.out).2.2 (Kd.R_reads' AJ.out).2.1 (ends_g FIT.out y.f0 y.f1 y.f2)).mono ?_; rintro e w9 ⟨rfl, hb9⟩; have UL := Aside0.mk (blk_in AL.out hb9); have UX := Aside0.mk (blk_in AX.out hb9); have UW := Aside0.mk (below_tr AW.out hb9); have HO := Aside0.mk (Kd.S_below AO.out hb9); clear hb9))
             have er := ER.out
             subst er
             have EM := max_nat nxt (at_ + (pp 0).length)
             refine ⟨⟨1, max nxt (at_ + (pp 0).length), qa, P1, qc, Q1, r, xs1, out ++ [(⟨⟨y, 1⟩, (at_ : Int), pp 0⟩ : Sg)], rfl, by first | exact congrArg (Value.int .i64) EM | rfl, by omega, ⟨Nat.max_le.2 ⟨HNX.out, FIT.out⟩⟩, ⟨rest_0 HR.out (armS_0 FIT.out)⟩, ⟨by have h_ := CA.out; simp at h_ ⊢; omega⟩, ⟨by have h_ := CB.out; simpa using h_⟩, ⟨by rw [List.length_append]; have h_ := HOL.out; simp; omega⟩, ⟨fun _ => Nat.le_trans (Nat.add_le_add_left PP0.out at_) (Nat.le_max_right _ _)⟩, ⟨Nat.le_trans HLE.out (Nat.le_max_left _ _)⟩, HLn, HQn, HL1, HQ1, UL, UX, HO, UW⟩, ?_⟩
             decide
         ·
          cases fb with
          | false =>
           go_wp2
           refine ⟨⟨2, nxt, P0, P1, Q0, Q1, xs0, xs1, out, rfl, rfl, by omega, HNX, ⟨rest_1 HR.out rfl⟩, ⟨by have h_ := CA.out; simpa using h_⟩, ⟨by have h_ := CB.out; simpa using h_⟩, ⟨by have h_ := HOL.out; omega⟩, ⟨fun _ => HPG.out (Or.inl ⟨rfl, by have h_ := OKX.out; simpa using h_⟩)⟩, HLE, HL0, HQ0, HL1, HQ1, UL, UX, HO, UW⟩, ?_⟩
           decide
          | true =>
           have HCT1 := Aside0.mk (show 1 ≤ xs1.length from by have h_ := CB.out; simp at h_; omega)
           obtain ⟨y, r, eY⟩ : ∃ y r, xs1 = y :: r := by
            cases h_ : xs1 with
            | nil => have h1_ := HCT1.out; rw [h_] at h1_; simp at h1_
            | cons y r => exact ⟨y, r, rfl⟩
           subst eY
           have HLR := HL1
           obtain ⟨ln, eln⟩ : ∃ ln, (y :: r).length = ln := ⟨_, rfl⟩
           have h1n : 1 ≤ ln := by rw [← eln]; simp
           rw [eln] at UL HL1
           have h1i : (0 : Int) < (ln : Int) := by omega
           have h1a : 0 < ln := h1n
           have h1b : decide (0 < ln) = true := decide_eq_true h1n
           have h1c : decide ((0 : Int) < (ln : Int)) = true := decide_eq_true h1i
           obtain ⟨am, eA1, m0, m1, m2⟩ := at_T63 HL1.out 0 (by omega) (by omega)
           subst eA1
           have M0 : Aside0 (w.cell? am = some (.int .i64 y.f0)) := ⟨by have h_ : w.cell? (am.add 0) = some (.int .i64 y.f0) := m0; rwa [Addr.add_zero'] at h_⟩
           have M1 : Aside0 (w.cell? ⟨am.block, am.off + 1, none⟩ = some (.int .i64 y.f1)) := ⟨by have h_ : w.cell? ⟨(am.add 0).block, (am.add 0).off + 1, none⟩ = some (.int .i64 y.f1) := m1; rwa [Addr.add_zero'] at h_⟩
           have M2 : Aside0 (w.cell? ⟨am.block, am.off + 2, none⟩ = some (.int .i64 y.f2)) := ⟨by have h_ : w.cell? ⟨(am.add 0).block, (am.add 0).off + 2, none⟩ = some (.int .i64 y.f2) := m2; rwa [Addr.add_zero'] at h_⟩
           clear m0 m1 m2
           obtain ⟨g0, g1, g2, g3, g4, J, okb, hsl, hgood, hbad⟩ := HSL1.out y at_ HAT.out
           have SL := Aside0.mk hsl
           have GD := Aside0.mk hgood
           have BD := Aside0.mk hbad
           clear hsl hgood hbad
           go_upto_region 29 with (fail)
           go_cut [23, 24] (fun v23 v24 wq => ∃ (Bs co : Nat) (Ao : Option Addr), v23 = .pointer (some ⟨Bs, 0, none⟩) ∧ v24 = .bool okb ∧ Aside0 (wd.heap.size < Bs) ∧ Aside0 (wq.heap[Bs]? = some (.cells #[.int .i64 g0, .int .i64 g1, .int .i64 g2, .int .i64 g3, .int .i64 g4, .slice Ao J.length co] 67 (0, 0))) ∧ Aside0 (Kd.R (Kd.int .i64) 3 wq w.heap.size (fun k => k ≠ Bs) (.slice Ao J.length co : Value) J) ∧ Aside0 (Kd.S k67 67 wq w.heap.size (fun k => some k ≠ (.slice Ao J.length co : Value).ownBlock ∧ k ≠ Bs) u16 out) ∧ Aside0 (wq.heap[wd.heap.size]? = some (.cells #[.slice P0 xs0.length Q0, .slice (some am) ln Q1] 123 (0, 0))) ∧ Aside0 (wq.heap[w.heap.size]? = some (lmo a0 a1 a2 b0 b1 b2)) ∧ Aside0 (Below w.heap.size w wq))
           case first =>
            have y0 : wr.cell? ⟨w.heap.size, 3, none⟩ = some (.int .i64 b0) := (blk_cell UX.out 3).trans rfl
            have y1 : wr.cell? ⟨w.heap.size, 4, none⟩ = some (.int .i64 b1) := (blk_cell UX.out 4).trans rfl
            have y2 : wr.cell? ⟨w.heap.size, 5, none⟩ = some (.int .i64 b2) := (blk_cell UX.out 5).trans rfl
            have y3 : wr.cell? ⟨wd.heap.size, 1, none⟩ = some (.slice (some am) ln Q1) := (blk_cell UL.out 1).trans rfl
            have y4 : wr.cell? am = some (.int .i64 y.f0) := (UW.out.cell (World.block_lt_of_cell? w _ M0.out)).trans M0.out
            have y5 : wr.cell? ⟨am.block, am.off + 1, none⟩ = some (.int .i64 y.f1) := (UW.out.cell (World.block_lt_of_cell? w _ M1.out)).trans M1.out
            have y6 : wr.cell? ⟨am.block, am.off + 2, none⟩ = some (.int .i64 y.f2) := (UW.out.cell (World.block_lt_of_cell? w _ M2.out)).trans M2.out
            have yd0 := cell_dr y0; have ya0 := cell_ald y0 sg0; have ns0 := cell_ns y0
            have yd1 := cell_dr y1; have ya1 := cell_ald y1 sg0; have ns1 := cell_ns y1
            have yd2 := cell_dr y2; have ya2 := cell_ald y2 sg0; have ns2 := cell_ns y2
            have yd3 := cell_dr y3; have ya3 := cell_ald y3 sg0; have ns3 := cell_ns y3
            have yd4 := cell_dr y4; have ya4 := cell_ald y4 sg0; have ns4 := cell_ns y4
            have yd5 := cell_dr y5; have ya5 := cell_ald y5 sg0; have ns5 := cell_ns y5
            have yd6 := cell_dr y6; have ya6 := cell_ald y6 sg0; have ns6 := cell_ns y6
            (first | (go_region_held3 (fun w' => w'.cell? ⟨w.heap.size, 3, none⟩ = some (.int .i64 b0) ∧ w'.cell? ⟨w.heap.size, 4, none⟩ = some (.int .i64 b1) ∧ w'.cell? ⟨w.heap.size, 5, none⟩ = some (.int .i64 b2) ∧ w'.cell? ⟨wd.heap.size, 1, none⟩ = some (.slice (some am) ln Q1) ∧ w'.cell? am = some (.int .i64 y.f0) ∧ w'.cell? ⟨am.block, am.off + 1, none⟩ = some (.int .i64 y.f1) ∧ w'.cell? ⟨am.block, am.off + 2, none⟩ = some (.int .i64 y.f2)) (first | with_reducible exact ⟨yd0, yd1, yd2, yd3, yd4, yd5, yd6⟩ | with_reducible exact ⟨ya0, ya1, ya2, ya3, ya4, ya5, ya6⟩ | with_reducible exact ⟨v0, v1, v2, v3, v4, v5, v6⟩ | with_reducible exact ⟨Coord.cell_al v0 _, Coord.cell_al v1 _, Coord.cell_al v2 _, Coord.cell_al v3 _, Coord.cell_al v4 _, Coord.cell_al v5 _, Coord.cell_al v6 _⟩ | with_reducible exact ⟨Coord.cell_al y0 _, Coord.cell_al y1 _, Coord.cell_al y2 _, Coord.cell_al y3 _, Coord.cell_al y4 _, Coord.cell_al y5 _, Coord.cell_al y6 _⟩ | exact ⟨Coord.far6 v0 ns0 _ _ _ _ _ _, Coord.far6 v1 ns1 _ _ _ _ _ _, Coord.far6 v2 ns2 _ _ _ _ _ _, Coord.far6 v3 ns3 _ _ _ _ _ _, Coord.far6 v4 ns4 _ _ _ _ _ _, Coord.far6 v5 ns5 _ _ _ _ _ _, Coord.far6 v6 ns6 _ _ _ _ _ _⟩) (first
             | (go_at_call 61; (with_reducible refine (timetable_slot.calls K b0 b1 b2 y.f0 y.f1 y.f2 1 (at_ : Int) g0 g1 g2 g3 g4 J okb wr.drew SL.out).mono ?_); rintro e w7 ⟨v5_, rfl, hR5, hb7⟩; obtain ⟨Ao, co, eo⟩ := Kd.R_slice hR5; subst eo; have v0 := Coord.cell_in yd0 hb7; have v1 := Coord.cell_in yd1 hb7; have v2 := Coord.cell_in yd2 hb7; have v3 := Coord.cell_in yd3 hb7; have v4 := Coord.cell_in yd4 hb7; have v5 := Coord.cell_in yd5 hb7; have v6 := Coord.cell_in yd6 hb7; have HO7 := Aside0.mk (Kd.S_elder' (Kd.S_drew HO.out) (Kd.R_base hR5) hb7); have HR7 := Aside0.mk hR5; have HB7 := Aside0.mk hb7; clear hR5 hb7)
             | (go_at_call 61; (with_reducible refine (timetable_slot.calls K b0 b1 b2 y.f0 y.f1 y.f2 1 (at_ : Int) g0 g1 g2 g3 g4 J okb (wr.alloc sg0).drew SL.out).mono ?_); rintro e w7 ⟨v5_, rfl, hR5, hb7⟩; obtain ⟨Ao, co, eo⟩ := Kd.R_slice hR5; subst eo; have v0 := Coord.cell_in ya0 hb7; have v1 := Coord.cell_in ya1 hb7; have v2 := Coord.cell_in ya2 hb7; have v3 := Coord.cell_in ya3 hb7; have v4 := Coord.cell_in ya4 hb7; have v5 := Coord.cell_in ya5 hb7; have v6 := Coord.cell_in ya6 hb7; have HO7 := Aside0.mk (Kd.S_elder' (Kd.S_drew (Kd.S_alloc (Kd.S_elderB HO.out wr.heap.size (Nat.le_refl _)) sg0)) (Kd.R_base hR5) hb7); have hn7 := blk_in (show ((wr.alloc sg0).drew).heap[wr.heap.size]? = some sg0 from heap_alloc_new wr sg0) hb7; have HN7 := Aside0.mk hn7; obtain ⟨n0, n1, n2, n3, n4, n5⟩ := heldS hn7; have f0 := blk_frozen hn7 0; have f1 := blk_frozen hn7 1; have f2 := blk_frozen hn7 2; have f3 := blk_frozen hn7 3; have f4 := blk_frozen hn7 4; have f5 := blk_frozen hn7 5; clear hn7; have HR7 := Aside0.mk hR5; have HB7 := Aside0.mk hb7; clear hR5 hb7))) | (fail "no"))
            all_goals
             first
              | (obtain ⟨W9, e9, b9, g9⟩ := Coord.setS HN7.out (.int .i64 g0) (.int .i64 g1) (.int .i64 g2) (.int .i64 g3) (.int .i64 g4) (.slice Ao J.length co); rw [e9]; go_wp2; go_meet; case rel => exact ⟨wr.heap.size, co, Ao, rfl, rfl, SU, ⟨b9⟩, ⟨Kd.R_mono (Kd.R_grown (Kd.R_types (Kd.R_lower HR7.out (show w.heap.size ≤ ((wr.alloc sg0).drew).heap.size from (UW.out.alloc UW.out.size sg0).drew.size)) HN7.out (by decide)) g9 (fun k h_ e_ => h_.2 (Option.some.inj e_))) (fun _ h_ => h_.2)⟩, ⟨Kd.S_mono (Kd.S_grown HO7.out g9 (fun k h_ e_ => h_.1.2 (Option.some.inj e_))) (fun _ h_ => ⟨h_.2, h_.1.2⟩)⟩, ⟨Coord.blk_gr (blk_in (W := (wr.alloc sg0).drew) (blk_al UL.out _) HB7.out) g9 (by have := SU.out; omega)⟩, ⟨Coord.blk_gr (blk_in (W := (wr.alloc sg0).drew) (blk_al UX.out _) HB7.out) g9 (by have := SU.out; have := S4.out; omega)⟩, ⟨Ticks.below_grown (below_tr (W := (wr.alloc sg0).drew) (UW.out.alloc UW.out.size sg0).drew HB7.out) g9 UW.out.size⟩⟩)
              | (go_wp2; go_meet; case rel => exact ⟨w7.heap.size, co, Ao, rfl, rfl, ⟨Nat.lt_of_lt_of_le SU.out HB7.out.size⟩, ⟨heap_alloc_new w7 _⟩, ⟨Kd.R_alloc (Kd.R_mono (Kd.R_elderB (Kd.R_lower HR7.out UW.out.size) w7.heap.size (Nat.le_refl _)) (fun _ h_ => h_.2)) _⟩, ⟨Kd.S_alloc (Kd.S_mono (Kd.S_elderB HO7.out w7.heap.size (Nat.le_refl _)) (fun _ h_ => ⟨h_.1.2, h_.2⟩)) _⟩, ⟨blk_al (blk_in (W := wr.drew) UL.out HB7.out) _⟩, ⟨blk_al (blk_in (W := wr.drew) UX.out HB7.out) _⟩, ⟨(below_tr (W := wr.drew) UW.out.drew HB7.out).alloc (below_tr (W := wr.drew) UW.out.drew HB7.out).size _⟩⟩)
           case rest =>
            obtain ⟨Bs, co, Ao, rfl, rfl, hLT, hSB, hRJ, hHO, hUL, hUX, hUW⟩ := hcut
            clear UL UX UW SU HO M0 M1 M2
            cases okb with
            | false =>
             have hR := rest_1no HR.out (armS_no1 (BD.out rfl))
             have hF := HF.out
             rw [hR] at hF
             go_wp2
             refine bodyPost_ret (v := .tuple #[.slice none 0 0, .int .i64 2]) (by simp [results, Try.results33, go_sem]) rfl ?_
             try rw [hF]
             exact ⟨⟨_, rfl, Kd.S_nil _ _ _ _ _⟩, hUW.out⟩
            | true =>
             obtain ⟨hfit, e0_, e1_, e2_, e3_, e4_, e5_⟩ := GD.out rfl
             subst e0_ e1_ e2_ e3_ e4_ e5_
             have FIT := Aside0.mk hfit
             obtain ⟨i0_, hi0_, _, hsz_, _⟩ := info_parts info63
             obtain ⟨qa, qn, qc, hq, eqa, eqn, eqc⟩ : ∃ (qa : Option Addr) (qn qc : Nat), (∀ W : World, (Instr.slice 50 (.slice (some am) ln Q1) (some (.int .i64 1)) none none).run Try.prog W = .ok (.slice qa qn qc) W) ∧ qa = (if Q1 = 1 then some am else (some am).map (·.add (1 * 3))) ∧ qn = ln - 1 ∧ qc = Q1 - 1 := ⟨_, _, _, cut_from (P := Try.prog) 50 63 .i64 Try.underlying50 hi0_ 3 hsz_ (some am) ln Q1 1 (by omega) (by omega), rfl, rfl, rfl⟩
             have HLn : Aside0 (Kd.C k63 w qa r.length r) := ⟨by rw [eqa]; exact Kd.C_drop (m := 1) HLR.out (by simp) HQ1.out⟩
             have HQn : Aside0 (r.length ≤ qc) := ⟨by have h_ := HQ1.out; simp at h_; omega⟩
             have ER := Aside0.mk (show qn = r.length from by simp at eln; omega)
             clear eqa eqn eqc
             have gT := Ticks.grown_set wc wd.heap.size 1 (.slice qa qn qc)
             have szT : (wc.setCell ⟨wd.heap.size, 1, none⟩ (.slice qa qn qc)).heap.size = wc.heap.size := by simp
             have neB : Bs ≠ wd.heap.size := by have := hLT.out; omega
             have TR := Aside0.mk (Kd.R_mono (ok' := fun k => k ≠ Bs) (Kd.R_grown (Kd.R_types hRJ.out hUL.out (by decide)) gT (fun k h_ e_ => h_.2 (Option.some.inj e_))) (fun _ h_ => h_.1))
             have TS := Aside0.mk (Kd.S_mono (ok' := fun k => some k ≠ (.slice Ao (pp 1).length co : Value).ownBlock ∧ k ≠ Bs) (Kd.S_grown (Kd.S_types hHO.out hUL.out (by decide)) gT (fun k h_ e_ => h_.2 (Option.some.inj e_))) (fun _ h_ => h_.1))
             have TB := Aside0.mk (Coord.blk_gr hSB.out gT neB)
             have TL : Aside0 ((wc.setCell ⟨wd.heap.size, 1, none⟩ (.slice qa qn qc)).heap[wd.heap.size]? = some (.cells #[.slice P0 xs0.length Q0, .slice qa qn qc] 123 (0, 0))) := ⟨by have h_ := blk_set hUL.out 1 (.slice qa qn qc); simpa using h_⟩
             have TX := Aside0.mk (Coord.blk_gr hUX.out gT (by have := S4.out; omega))
             have TW := Aside0.mk (Ticks.below_grown hUW.out gT (by have := S4.out; omega))
             have TA := Aside0.mk (Kd.R_apart' TR.out (Kd.S_typed TS.out) (by decide))
             have y0 : wc.cell? ⟨wd.heap.size, 1, none⟩ = some (.slice (some am) ln Q1) := (blk_cell hUL.out 1).trans rfl
             have yf := blk_frozen hUL.out 1
             have s0 : (wc.setCell ⟨wd.heap.size, 1, none⟩ (.slice qa qn qc)).cell? ⟨Bs, 0, none⟩ = some (.int .i64 y.f0) := (blk_cell TB.out 0).trans rfl
             have s1 : (wc.setCell ⟨wd.heap.size, 1, none⟩ (.slice qa qn qc)).cell? ⟨Bs, 1, none⟩ = some (.int .i64 y.f1) := (blk_cell TB.out 1).trans rfl
             have s2 : (wc.setCell ⟨wd.heap.size, 1, none⟩ (.slice qa qn qc)).cell? ⟨Bs, 2, none⟩ = some (.int .i64 y.f2) := (blk_cell TB.out 2).trans rfl
             have s3 : (wc.setCell ⟨wd.heap.size, 1, none⟩ (.slice qa qn qc)).cell? ⟨Bs, 3, none⟩ = some (.int .i64 1) := (blk_cell TB.out 3).trans rfl
             have s4 : (wc.setCell ⟨wd.heap.size, 1, none⟩ (.slice qa qn qc)).cell? ⟨Bs, 4, none⟩ = some (.int .i64 (at_ : Int)) := (blk_cell TB.out 4).trans rfl
             have s5 : (wc.setCell ⟨wd.heap.size, 1, none⟩ (.slice qa qn qc)).cell? ⟨Bs, 5, none⟩ = some (.slice Ao (pp 1).length co) := (blk_cell TB.out 5).trans rfl
             have NE := Aside0.mk (Kd.S_away TS.out (fun _ h_ => h_.2))
             have NL := Aside0.mk (Kd.S_ne TS.out TL.out (by decide))
             have NX := Aside0.mk (Kd.S_ne TS.out TX.out (by decide))
             have HBs := Aside0.mk ((Array.getElem?_eq_some_iff.1 TB.out).1)
             clear gT hSB hRJ hHO hUL hUX hUW
             go_step
             go_wp2_with (first
              | ((with_reducible refine gate_builtin (b := .append) (xs := #[.tmp 127, .tmp 129]) rfl ?_); at_builtin; refine Kd.S_append k67 (w0 := w) w.heap.size rfl (.tmp 127) (.tmp 129) 53 67 (.agg #[(.int .i64 0), (.int .i64 0), (.int .i64 0), (.int .i64 0), (.int .i64 0), (.slice none 0 0)]) 64 rfl Try.underlying53 info67 rfl (by decide) (by omega) u16 out (⟨⟨y, 1⟩, (at_ : Int), pp 1⟩ : Sg) [.int .i64 y.f0, .int .i64 y.f1, .int .i64 y.f2, .int .i64 1, .int .i64 (at_ : Int), .slice Ao (pp 1).length co] (fun _ => True) (fun k_ => some k_ = (.slice Ao (pp 1).length co : Value).ownBlock) rfl (by rw [szT]; rfl) (k67_mkM _ _ _ (⟨⟨y, 1⟩, (at_ : Int), pp 1⟩ : Sg) (Kd.R_tight rfl TR.out)) (fun k_ hk_ => ⟨trivial, (TA.out.1 k_ hk_.symm).2⟩) (fun _ _ => trivial) (Kd.S_mono TS.out (fun _ h_ => ⟨trivial, h_.1⟩)) TW.out TW.out.size (by have h1_ := HOL.out; have h2_ := HAT.out; omega) ?_; intro ov0 w8 ho hb hg hat; have AB := Aside0.mk ((hg.block Bs HBs.out NE.out).trans TB.out); have AL := Aside0.mk ((hg.block wd.heap.size (Array.getElem?_eq_some_iff.1 TL.out).1 NL.out).trans TL.out); have AX := Aside0.mk ((hg.block w.heap.size (Array.getElem?_eq_some_iff.1 TX.out).1 NX.out).trans TX.out); have AJ := Aside0.mk (Kd.R_grown TA.out hg (fun k h_ => h_.2)); have AO := Aside0.mk ho; have AW := Aside0.mk hb; have u0 : w8.cell? ⟨Bs, 0, none⟩ = some (.int .i64 y.f0) := (blk_cell AB.out 0).trans rfl; have u1 : w8.cell? ⟨Bs, 1, none⟩ = some (.int .i64 y.f1) := (blk_cell AB.out 1).trans rfl; have u2 : w8.cell? ⟨Bs, 2, none⟩ = some (.int .i64 y.f2) := (blk_cell AB.out 2).trans rfl; have u3 : w8.cell? ⟨Bs, 3, none⟩ = some (.int .i64 1) := (blk_cell AB.out 3).trans rfl; have u4 : w8.cell? ⟨Bs, 4, none⟩ = some (.int .i64 (at_ : Int)) := (blk_cell AB.out 4).trans rfl; have u5 : w8.cell? ⟨Bs, 5, none⟩ = some (.slice Ao (pp 1).length co) := (blk_cell AB.out 5).trans rfl; clear ho hb hg hat)
              | (go_at_call 62; refine (timetable_ends.calls y.f0 y.f1 y.f2 1 (at_ : Int) Ao co (pp 1) ((at_ + (pp 1).length : Nat) : Int) _ (Kd.R_reads' AJ.out).2.2 (Kd.R_reads' AJ.out).2.1 (ends_g FIT.out y.f0 y.f1 y.f2)).mono ?_; rintro e w9 ⟨rfl, hb9⟩; have UL := Aside0.mk (blk_in AL.out hb9); have UX := Aside0.mk (blk_in AX.out hb9); have UW := Aside0.mk (below_tr AW.out hb9); have HO := Aside0.mk (Kd.S_below AO.out hb9); clear hb9))
             have er := ER.out
             subst er
             have EM := max_nat nxt (at_ + (pp 1).length)
             refine ⟨⟨2, max nxt (at_ + (pp 1).length), P0, qa, Q0, qc, xs0, r, out ++ [(⟨⟨y, 1⟩, (at_ : Int), pp 1⟩ : Sg)], rfl, by first | exact congrArg (Value.int .i64) EM | rfl, by omega, ⟨Nat.max_le.2 ⟨HNX.out, FIT.out⟩⟩, ⟨rest_1 HR.out (armS_1 FIT.out)⟩, ⟨by have h_ := CA.out; simpa using h_⟩, ⟨by have h_ := CB.out; simp at h_ ⊢; omega⟩, ⟨by rw [List.length_append]; have h_ := HOL.out; simp; omega⟩, ⟨fun _ => Nat.le_trans (Nat.add_le_add_left PP1.out at_) (Nat.le_max_right _ _)⟩, ⟨Nat.le_trans HLE.out (Nat.le_max_left _ _)⟩, HL0, HQ0, HLn, HQn, UL, UX, HO, UW⟩, ?_⟩
             decide
         ·
          go_wp2
          refine ⟨⟨n + 1, nxt, P0, P1, Q0, Q1, xs0, xs1, out, rfl, rfl, by have h_ := H3.out; omega, HNX, ⟨by rw [ERS.out]; exact HR.out⟩, ⟨by rw [ERS.out]; have h_ := CA.out; simp at h_; exact h_.symm⟩, ⟨by rw [ERS.out]; have h_ := CB.out; simp at h_; exact h_.symm⟩, ⟨by have h_ := HOL.out; have h2_ := HPG.out (Or.inr rfl); omega⟩, HL0, HQ0, HL1, HQ1, UL, UX, HO, UW⟩, ?_⟩
          show l3.length - ((n : Int) + 1).toNat < l3.length - (n : Int).toNat
          have h_ := H3.out
          omega
       ·
        have en : n = l3.length := by omega
        subst en
        have d3 : decide ((l3.length : Int) < (l3.length : Int)) = false := decide_eq_false (by omega)
        rw [List.drop_length] at HR
        have hF := HF.out
        rw [← HR.out] at hF
        obtain ⟨Ao, co, eo⟩ := Kd.S_slice HO.out
        subst eo
        go_wp2
        refine bodyPost_ret (v := .tuple #[.slice Ao out.length co, .int .i64 0]) (by simp [results, Try.results33, go_sem]) rfl ?_
        rw [hF]
        exact ⟨⟨_, rfl, HO.out⟩, UW.out⟩
 ·
  refine bodyPost_ret (v := .tuple #[.slice none 0 0, .int .i64 1]) (by simp [results, Try.results33, go_sem]) rfl ?_
  rename_i h1
  exact ⟨⟨_, rfl_err (coF_no (Or.inl (by cases o1 <;> simp_all)))⟩, HBc.out⟩
end Go.Proofs.Ytmmaodlngnjmlaa.Reach
namespace Go.Proofs.Ytmmaodlngnjmlaa.Coord
set_option linter.unusedVariables false
set_option linter.unusedSimpArgs false
open Go Go.RowKit Go.Proofs.Ytmmaodlngnjmlaa Go.Proofs.YtmmaodlngnjmlaaW.PrintWords Go.Proofs.YtmmaodlngnjmlaaW.PrintMore Go.Proofs.YtmmaodlngnjmlaaW.PrintLast Go.Proofs.Ytmmaodlngnjmlaa.P
theorem slot_g {J : List Int} {K : Nat} (hJ : mintime_Profile.f K 8 4 2 12 = some (J, true)) (hl : J.length ≤ 1000) (hp : 0 < J.length) : Reach.SlotOk K 8 4 2 J := by
  refine ⟨hp, fun y at_ hat => ⟨y.f0, y.f1, y.f2, 1, at_, J, decide (at_ + J.length ≤ 2000), ?_, fun h => ⟨of_decide_eq_true h, rfl, rfl, rfl, rfl, rfl, rfl⟩, fun h => of_decide_eq_false h⟩⟩
  unfold timetable_slot.f
  have e : wrap64 (1 * 12) = 12 := by unfold wrap64; omega
  have e1 : wrap64 ((at_ : Int) + (J.length : Int)) = ((at_ + J.length : Nat) : Int) := by unfold wrap64; omega
  have e2 : decide (((at_ + J.length : Nat) : Int) ≤ 2000) = decide (at_ + J.length ≤ 2000) := by
    by_cases c : at_ + J.length ≤ 2000
    · rw [decide_eq_true c, decide_eq_true (by omega)]
    · rw [decide_eq_false c, decide_eq_false (by omega)]
  rw [if_neg (by decide), e, hJ, Option.bind_some, if_pos rfl, e1, e2]
theorem of_g (K : Nat) (x : Int) (hx : x = 0 ∨ x = 1) : timetable_of.f (K + 3) x [(⟨x, 0, 1⟩ : S63)] = some true := by
  rcases hx with rfl | rfl <;> kernel_rfl
theorem bad_run (A1 : Option Addr) (c1 : Nat) (A2 : Option Addr) (c2 : Nat) (A3 : Option Addr) (c3 : Nat) (w : World) (hr1 : Kd.C k63 w A1 1 [(⟨0, 0, 1⟩ : S63)]) (hc1 : 1 ≤ c1) (hr2 : Kd.C k63 w A2 0 []) (hc2 : 0 ≤ c2) (hr3 : Kd.C k91 w A3 2 [(⟨false, false⟩ : S91), (⟨true, false⟩ : S91)]) :
    Calls Try.prog 33 #[.agg #[.int .i64 8, .int .i64 4, .int .i64 2, .int .i64 8, .int .i64 4, .int .i64 2], .slice A1 1 c1, .slice A2 0 c2, .slice A3 2 c3] w fun e w' => ∃ v0_ : Value, e = .returned (.tuple #[v0_, .int .i64 1]) ∧ Kd.S k67 67 w' w.heap.size (fun _ => True) v0_ [] ∧ Below w.heap.size w w' := by
  have h := Reach.coord_run 8 4 2 8 4 2 valid valid A1 c1 [(⟨0, 0, 1⟩ : S63)] A2 c2 [] A3 c3 [(⟨false, false⟩ : S91), (⟨true, false⟩ : S91)] w hr1 hc1 hr2 hc2 hr3 3 true true of3 of1 (by decide) (fun _ => []) (fun h => absurd (h ⟨false, false⟩ List.mem_cons_self) (by decide))
  refine h.mono ?_
  rintro e w' ⟨⟨v, he, hS⟩, hB⟩
  rw [Reach.coF_no (Or.inr (Or.inr (Or.inl ⟨⟨false, false⟩, List.mem_cons_self, rfl⟩)))] at he hS
  exact ⟨v, he, hS, hB⟩
theorem good_run (J : List Int) (K : Nat) (hJ : mintime_Profile.f K 8 4 2 12 = some (J, true)) (hl : J.length ≤ 1000) (hp : 0 < J.length) (A1 : Option Addr) (c1 : Nat) (A2 : Option Addr) (c2 : Nat) (A3 : Option Addr) (c3 : Nat) (w : World) (hr1 : Kd.C k63 w A1 1 [(⟨0, 0, 1⟩ : S63)]) (hc1 : 1 ≤ c1) (hr2 : Kd.C k63 w A2 1 [(⟨1, 0, 1⟩ : S63)]) (hc2 : 1 ≤ c2) (hr3 : Kd.C k91 w A3 1 [(⟨true, true⟩ : S91)]) :
    Calls Try.prog 33 #[.agg #[.int .i64 8, .int .i64 4, .int .i64 2, .int .i64 8, .int .i64 4, .int .i64 2], .slice A1 1 c1, .slice A2 1 c2, .slice A3 1 c3] w fun e w' => ∃ v0_ : Value, e = .returned (.tuple #[v0_, .int .i64 0]) ∧ Kd.S k67 67 w' w.heap.size (fun _ => True) v0_ [(⟨⟨⟨0, 0, 1⟩, 1⟩, 0, J⟩ : S67), (⟨⟨⟨1, 0, 1⟩, 1⟩, 0, J⟩ : S67)] ∧ Below w.heap.size w w' := by
  have h1 := mintime_Profile.mono 8 4 2 12 K _ hJ
  have h2 := mintime_Profile.mono 8 4 2 12 (K + 1) _ h1
  have h3 := mintime_Profile.mono 8 4 2 12 (K + 2) _ h2
  have sl := slot_g h3 hl hp
  have h := Reach.coord_run 8 4 2 8 4 2 valid valid A1 c1 [(⟨0, 0, 1⟩ : S63)] A2 c2 [(⟨1, 0, 1⟩ : S63)] A3 c3 [(⟨true, true⟩ : S91)] w hr1 hc1 hr2 hc2 hr3 (K + 3) true true (of_g K 0 (Or.inl rfl)) (of_g K 1 (Or.inr rfl)) (by decide) (fun _ => J) (fun _ => ⟨sl, sl⟩)
  refine h.mono ?_
  rintro e w' ⟨⟨v, he, hS⟩, hB⟩
  have e1 : Reach.coR (fun _ => J) [(⟨true, true⟩ : S91)] 0 (Reach.two [(⟨0, 0, 1⟩ : S63)] [(⟨1, 0, 1⟩ : S63)]) [] = some [(⟨⟨⟨0, 0, 1⟩, 1⟩, 0, J⟩ : S67), (⟨⟨⟨1, 0, 1⟩, 1⟩, 0, J⟩ : S67)] := by
    show ((Reach.armS (fun _ => J) true 0 0 (0, Reach.two [(⟨0, 0, 1⟩ : S63)] [(⟨1, 0, 1⟩ : S63)], [])).bind (Reach.armS (fun _ => J) true 1 0)).bind (fun s => Reach.coR (fun _ => J) [] s.1 s.2.1 s.2.2) = _
    rw [Reach.armS_0 (pp := fun _ => J) (by show 0 + J.length ≤ 2000; omega), Option.bind_some, Reach.armS_1 (pp := fun _ => J) (by show 0 + J.length ≤ 2000; omega)]
    rfl
  have e0 : Reach.coF (fun _ => J) true true [(⟨0, 0, 1⟩ : S63)] [(⟨1, 0, 1⟩ : S63)] [(⟨true, true⟩ : S91)] = (0, [(⟨⟨⟨0, 0, 1⟩, 1⟩, 0, J⟩ : S67), (⟨⟨⟨1, 0, 1⟩, 1⟩, 0, J⟩ : S67)]) := by
    unfold Reach.coF
    rw [if_pos ⟨⟨rfl, rfl⟩, fun x hx => by rw [List.mem_singleton.1 hx]; rfl, rfl, rfl⟩, e1]
  rw [e0] at he hS
  exact ⟨v, he, hS, hB⟩
end Go.Proofs.Ytmmaodlngnjmlaa.Coord
