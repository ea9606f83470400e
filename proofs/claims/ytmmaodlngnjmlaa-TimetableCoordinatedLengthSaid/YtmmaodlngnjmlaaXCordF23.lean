/- The law of coordinated lengths in plain Lean. The law of coordinated lengths, with its head. -/
import Derived.Test.YtmmaodlngnjmlaaXCordW23
import Derived.Test.YtmmaodlngnjmlaaXWays23
import Derived.Test.YtmmaodlngnjmlaaP4
import Derived.Test.YtmmaodlngnjmlaaP7
import Derived.Test.YtmmaodlngnjmlaaXHead23
namespace Go.Proofs.Ytmmaodlngnjmlaa.Pure
set_option linter.unusedSimpArgs false
set_option linter.unusedVariables false
open Go Go.RowKit Go.Proofs.Ytmmaodlngnjmlaa.P Go.Proofs.YtmmaodlngnjmlaaW.PrintWords Go.Proofs.YtmmaodlngnjmlaaW.PrintLast Go.Proofs.YtmmaodlngnjmlaaW.PrintMore Go.Proofs.Ytmmaodlngnjmlaa.Motion
open Go.Proofs.Ytmmaodlngnjmlaa.Reach (cA cB Av tookN)
theorem lim_b {a0 a1 a2 : Int} (h : ((0 ≤ a0 ∧ a0 ≤ 255) ∧ (0 ≤ a1 ∧ a1 ≤ 255)) ∧ (0 ≤ a2 ∧ a2 ≤ 255)) : ∃ L : Lm, ok L ∧ ambidexterlaw23_lim.f a0 a1 a2 = some (L.v, L.a, L.j) := by
 obtain ⟨⟨h0, h1⟩, h2⟩ := h
 refine ⟨⟨1 + a0 % 8, 1 + a1 % 4, 1 + a2 % 2⟩, by unfold ok; dsimp only; omega, ?_⟩
 unfold ambidexterlaw23_lim.f
 rw [k64 (x := a0) (by omega) (by omega), k64 (x := a1) (by omega) (by omega), k64 (x := a2) (by omega) (by omega), Int.tmod_eq_emod_of_nonneg (by omega), Int.tmod_eq_emod_of_nonneg (by omega), Int.tmod_eq_emod_of_nonneg (by omega), k64 (by omega) (by omega), k64 (by omega) (by omega), k64 (by omega) (by omega)]
theorem may23 {m : Mv} (h : mayB m = true) : ambidexterref23_May.f m.f0 m.f1 m.f2 = some true := by
 obtain ⟨h0, h1, h2⟩ := may_iff h
 unfold ambidexterref23_May.f
 have e : (if m.f2 = 1 then some true else some (m.f2 == -1)) = some true := by
  rcases h2 with e | e <;> rw [e] <;> rfl
 rcases h0 with e0 | e0
 ·
  rw [if_pos e0, if_pos h1.1, if_pos (by omega), e]
 ·
  rw [if_neg (by omega), if_pos e0, if_pos h1.1, if_pos (by omega), e]
theorem small_l0 {t : List Sg} (ht : t.length ≤ 240) (hs : ∀ s ∈ t, 0 ≤ s.f1 ∧ s.f1 + (s.f2.length : Int) ≤ 2000 ∧ mayB s.f0.f0 = true) (k : Nat) : ∀ (m i : Nat), i + m = t.length → ambidexterlaw23_small.l0 (k + m + 1) t (i : Int) = some true
 | 0, i, h => by rw [ambidexterlaw23_small.l0, if_neg (by omega), decide_eq_true (by omega)]
 | m + 1, i, h => by
  have hi : i < t.length := by omega
  obtain ⟨h1, h2, h3⟩ := hs t[i] (List.getElem_mem hi)
  have ew := kn1 (i := i) (n := t.length) (by omega) hi
  show ambidexterlaw23_small.l0 (k + m + 1 + 1) t (i : Int) = _
  rw [ambidexterlaw23_small.l0, if_pos (by omega), if_pos (by omega), rds_at hi, if_neg (by omega), if_neg (by omega), if_neg (by omega), may23 h3, Option.bind_some, if_pos rfl, ew]
  exact small_l0 ht hs k m (i + 1) (by omega)
/-- Where the joints stand at a tick. -/
def posR (q : Nat → Int) (t : List Sg) (T : Nat) (k : Nat) : Int := timetable_PositionsAt.o (q 0) (q 1) (q 2) (q 3) (q 4) (q 5) t (T : Int) k
/-- Joints that may be. -/
def qOk (q : Nat → Int) : Prop := ∀ i, i < 6 → -17 ≤ q i ∧ q i ≤ 18
theorem q_at (q : Nat → Int) {k : Nat} (h : k < 6) : timetable_PositionsAt.q (q 0) (q 1) (q 2) (q 3) (q 4) (q 5) k = q k := by
 match k, h with
 | 0, _ => rfl
 | 1, _ => rfl
 | 2, _ => rfl
 | 3, _ => rfl
 | 4, _ => rfl
 | 5, _ => rfl
 | k + 6, h => omega
theorem gP_none {s : Sg} {T : Int} (h : T ≤ s.f1) : Gone.gP T s = 0 := by
 have hg : Gone.gN T s = 0 := by
  unfold Gone.gN
  rw [if_neg (by omega)]
 unfold Gone.gP
 rw [hg]
 rfl
theorem sum_none {T : Int} (k : Nat) : ∀ t : List Sg, (∀ s ∈ t, T ≤ s.f1) → sumW T k t = 0
 | [], _ => rfl
 | s :: t, h => by
  rw [sumW, gP_none (h s List.mem_cons_self), sum_none k t (fun x hx => h x (List.mem_cons_of_mem _ hx))]
  split <;> omega
theorem sum_app {T : Int} (k : Nat) : ∀ a b : List Sg, sumW T k (a ++ b) = sumW T k a + sumW T k b
 | [], b => by rw [List.nil_append, sumW]; omega
 | s :: a, b => by
  rw [List.cons_append, sumW, sumW, sum_app k a b]
  omega
theorem cs_lt {m : Mv} (h : mayB m = true) : ∃ a j : Nat, a < 2 ∧ j < 3 ∧ m.f0 = a ∧ m.f1 = j ∧ cs m = a * 3 + j := by
 obtain ⟨h0, h1, _⟩ := may_iff h
 refine ⟨m.f0.toNat, m.f1.toNat, by omega, by omega, by omega, by omega, rfl⟩
theorem net_le (k : Nat) : ∀ l : List Mv, l.all mayB = true → -(l.length : Int) ≤ net k l ∧ net k l ≤ (l.length : Int)
 | [], _ => by
  show -(0 : Int) ≤ 0 ∧ (0 : Int) ≤ 0
  omega
 | m :: l, h => by
  rw [List.all_cons, Bool.and_eq_true] at h
  have ih := net_le k l h.2
  obtain ⟨_, _, m3⟩ := may_iff h.1
  rw [net, List.length_cons]
  split
  ·
   rcases m3 with e | e <;> rw [e] <;> omega
  ·
   omega
theorem mv_net (l : List Mv) : ∀ (q : Nat → Int), l.all mayB = true → (∀ i, i < 6 → -(1000000 - (l.length : Int)) ≤ q i ∧ q i ≤ 1000000 - (l.length : Int)) → ∀ i, i < 6 → Reach.mv q l i = q i + net i l := by
 induction l with
 | nil =>
  intro q _ _ i _
  show q i = q i + 0
  omega
 | cons m l ih =>
  intro q h hb i h6
  rw [List.all_cons, Bool.and_eq_true] at h
  obtain ⟨a, j, ha, hj, ea, ej, ec⟩ := cs_lt h.1
  obtain ⟨_, _, m3⟩ := may_iff h.1
  have hb0 := hb (cs m) (by omega)
  rw [List.length_cons] at hb hb0
  have hm : -1 ≤ m.f2 ∧ m.f2 ≤ 1 := by omega
  have hw : wrap64 (q (cs m) + m.f2) = q (cs m) + m.f2 := k64 (by omega) (by omega)
  have e : Reach.mv q (m :: l) = Reach.mv (Reach.upd q (cs m) (wrap64 (q (cs m) + m.f2))) l := rfl
  have hn : ∀ i, i < 6 → -(1000000 - (l.length : Int)) ≤ Reach.upd q (cs m) (q (cs m) + m.f2) i ∧ Reach.upd q (cs m) (q (cs m) + m.f2) i ≤ 1000000 - (l.length : Int) := fun i h6 => by
   have hb1 := hb i h6
   unfold Reach.upd
   split <;> omega
  rw [e, hw, ih _ h.2 hn i h6, net]
  unfold Reach.upd
  by_cases c : i = cs m
  ·
   rw [if_pos c, if_pos c, c]
   omega
  ·
   rw [if_neg c, if_neg c]
   omega
/-- The rows of a coordinated timetable. -/
def rows (pp : Nat → List Int) : List Av → Nat → List Mv → List Mv → List Sg
 | [], _, _, _ => []
 | x :: l, at_, a, b => ((if x.f0 = true then (a.take 1).map (fun y => (⟨⟨y, 1⟩, (at_ : Int), pp 0⟩ : Sg)) else []) ++ (if x.f1 = true then (b.take 1).map (fun y => (⟨⟨y, 1⟩, (at_ : Int), pp 1⟩ : Sg)) else [])) ++ rows pp l (at_ + tookN (pp 0).length (pp 1).length x) (if x.f0 = true then a.drop 1 else a) (if x.f1 = true then b.drop 1 else b)
/-- How long advances take. -/
def tookL (one two : Nat) : List Av → Nat
 | [] => 0
 | x :: l => tookN one two x + tookL one two l
theorem arm0 {pp : Nat → List Int} {has : Bool} {at_ nx : Nat} {a b : List Mv} {out : List Sg} {s : Nat × (Nat → List Mv) × List Sg} (h : Reach.armS pp has 0 at_ (nx, Reach.two a b, out) = some s) (hh : has = true → 1 ≤ a.length) :
  s = (max nx (at_ + (if has = true then (pp 0).length else 0)), Reach.two (if has = true then a.drop 1 else a) b, out ++ (if has = true then (a.take 1).map (fun y => (⟨⟨y, 1⟩, (at_ : Int), pp 0⟩ : Sg)) else [])) ∧ (has = true → at_ + (pp 0).length ≤ 2000) ∨ nx < at_ := by
 cases has with
 | false =>
  have e : (nx, Reach.two a b, out) = s := by
   unfold Reach.armS at h
   simpa using h
  by_cases c : nx < at_
  ·
   exact Or.inr c
  ·
   refine Or.inl ⟨?_, fun h => by cases h⟩
   rw [← e]
   simp
   omega
 | true =>
  cases a with
  | nil => exact absurd (hh rfl) (by simp)
  | cons y r =>
   by_cases c : at_ + (pp 0).length ≤ 2000
   ·
    rw [Reach.armS_0 c] at h
    refine Or.inl ⟨?_, fun _ => c⟩
    rw [← Option.some.inj h]
    simp
   ·
    rw [Reach.armS_no0 c] at h
    cases h
theorem arm1 {pp : Nat → List Int} {has : Bool} {at_ nx : Nat} {a b : List Mv} {out : List Sg} {s : Nat × (Nat → List Mv) × List Sg} (h : Reach.armS pp has 1 at_ (nx, Reach.two a b, out) = some s) (hh : has = true → 1 ≤ b.length) :
  s = (max nx (at_ + (if has = true then (pp 1).length else 0)), Reach.two a (if has = true then b.drop 1 else b), out ++ (if has = true then (b.take 1).map (fun y => (⟨⟨y, 1⟩, (at_ : Int), pp 1⟩ : Sg)) else [])) ∧ (has = true → at_ + (pp 1).length ≤ 2000) ∨ nx < at_ := by
 cases has with
 | false =>
  have e : (nx, Reach.two a b, out) = s := by
   unfold Reach.armS at h
   simpa using h
  by_cases c : nx < at_
  ·
   exact Or.inr c
  ·
   refine Or.inl ⟨?_, fun h => by cases h⟩
   rw [← e]
   simp
   omega
 | true =>
  cases b with
  | nil => exact absurd (hh rfl) (by simp)
  | cons y r =>
   by_cases c : at_ + (pp 1).length ≤ 2000
   ·
    rw [Reach.armS_1 c] at h
    refine Or.inl ⟨?_, fun _ => c⟩
    rw [← Option.some.inj h]
    simp
   ·
    rw [Reach.armS_no1 c] at h
    cases h
theorem coR_rows {pp : Nat → List Int} : ∀ (l : List Av) (at_ : Nat) (a b : List Mv) (out t : List Sg), Reach.coR pp l at_ (Reach.two a b) out = some t → cA l = a.length → cB l = b.length → at_ ≤ 2000 →
  t = out ++ rows pp l at_ a b ∧ at_ + tookL (pp 0).length (pp 1).length l ≤ 2000
 | [], at_, a, b, out, t, h, _, _, hat => by
  have e : out = t := Option.some.inj h
  rw [← e]
  simp [rows, tookL, hat]
 | x :: l, at_, a, b, out, t, h, hA, hB, hat => by
  have hA' : a.length = cA l + (if x.f0 = true then 1 else 0) := by rw [← hA]; unfold cA; rw [List.countP_cons]
  have hB' : b.length = cB l + (if x.f1 = true then 1 else 0) := by rw [← hB]; unfold cB; rw [List.countP_cons]
  have h1 : ((Reach.armS pp x.f0 0 at_ (at_, Reach.two a b, out)).bind (Reach.armS pp x.f1 1 at_)).bind (fun s => Reach.coR pp l s.1 s.2.1 s.2.2) = some t := h
  obtain ⟨s2, h2, h3⟩ := Option.bind_eq_some_iff.1 h1
  obtain ⟨s1, h4, h5⟩ := Option.bind_eq_some_iff.1 h2
  rcases arm0 h4 (fun c => by rw [hA', if_pos c]; omega) with ⟨e1, g1⟩ | c
  ·
   rw [e1] at h5
   rcases arm1 h5 (fun c => by rw [hB', if_pos c]; omega) with ⟨e2, g2⟩ | c
   ·
    rw [e2] at h3
    have eT : max (max at_ (at_ + (if x.f0 = true then (pp 0).length else 0))) (at_ + (if x.f1 = true then (pp 1).length else 0)) = at_ + tookN (pp 0).length (pp 1).length x := by
     unfold tookN
     split <;> split <;> omega
    have hT : at_ + tookN (pp 0).length (pp 1).length x ≤ 2000 := by
     unfold tookN
     by_cases c0 : x.f0 = true
     ·
      have k0 := g1 c0
      by_cases c1 : x.f1 = true
      ·
       have k1 := g2 c1
       rw [if_pos c0, if_pos c1]
       omega
      ·
       rw [if_pos c0, if_neg c1]
       omega
     ·
      by_cases c1 : x.f1 = true
      ·
       have k1 := g2 c1
       rw [if_neg c0, if_pos c1]
       omega
      ·
       rw [if_neg c0, if_neg c1]
       omega
    dsimp only at h3
    rw [eT] at h3
    obtain ⟨i1, i2⟩ := coR_rows l _ _ _ _ t h3 (by split <;> simp_all) (by split <;> simp_all) hT
    refine ⟨?_, by rw [tookL]; omega⟩
    rw [i1, rows]
    simp only [List.append_assoc]
   ·
    have : at_ ≤ max at_ (at_ + (if x.f0 = true then (pp 0).length else 0)) := Nat.le_max_left _ _
    omega
  ·
   omega
/-- A segment of one of two arms. -/
def SegM (s : Sg) : Prop := ∃ L, ok L ∧ SegW L s
structure Arms (pp : Nat → List Int) : Prop where
 p0 : ∃ L, ok L ∧ Way L 1 (pp 0)
 p1 : ∃ L, ok L ∧ Way L 1 (pp 1)
theorem took_ge {one two : Nat} {x : Av} : (x.f0 = true → one ≤ tookN one two x) ∧ (x.f1 = true → two ≤ tookN one two x) := by
 unfold tookN
 exact ⟨fun h => by rw [if_pos h]; exact Nat.le_max_left _ _, fun h => by rw [if_pos h]; exact Nat.le_max_right _ _⟩
theorem all_drop {l : List Mv} (h : l.all mayB = true) (n : Nat) : (l.drop n).all mayB = true := List.all_eq_true.2 fun x hx => List.all_eq_true.1 h x (List.mem_of_mem_drop hx)
theorem all_take {l : List Mv} (h : l.all mayB = true) (n : Nat) : (l.take n).all mayB = true := List.all_eq_true.2 fun x hx => List.all_eq_true.1 h x (List.mem_of_mem_take hx)
theorem rows_ok {pp : Nat → List Int} (hP : Arms pp) : ∀ (l : List Av) (at_ : Nat) (a b : List Mv), a.all mayB = true → b.all mayB = true → at_ + tookL (pp 0).length (pp 1).length l ≤ 2000 → ∀ s ∈ rows pp l at_ a b, SegM s ∧ (at_ : Int) ≤ s.f1
 | [], _, _, _, _, _, _, s, hs => by cases hs
 | x :: l, at_, a, b, ha, hb, hT, s, hs => by
  rw [tookL] at hT
  obtain ⟨t0, t1⟩ := took_ge (one := (pp 0).length) (two := (pp 1).length) (x := x)
  rw [rows, List.mem_append, List.mem_append] at hs
  rcases hs with (hs | hs) | hs
  ·
   by_cases c : x.f0 = true
   ·
    rw [if_pos c] at hs
    obtain ⟨y, hy, rfl⟩ := List.mem_map.1 hs
    obtain ⟨L, hL, hw⟩ := hP.p0
    have k0 := t0 c
    exact ⟨⟨L, hL, ⟨hw, List.all_eq_true.1 ha y (List.mem_of_mem_take hy), by show (0 : Int) ≤ (at_ : Int); omega, by show (at_ : Int) + ((pp 0).length : Int) ≤ 2000; omega⟩⟩, Int.le_refl _⟩
   ·
    rw [if_neg c] at hs
    cases hs
  ·
   by_cases c : x.f1 = true
   ·
    rw [if_pos c] at hs
    obtain ⟨y, hy, rfl⟩ := List.mem_map.1 hs
    obtain ⟨L, hL, hw⟩ := hP.p1
    have k1 := t1 c
    exact ⟨⟨L, hL, ⟨hw, List.all_eq_true.1 hb y (List.mem_of_mem_take hy), by show (0 : Int) ≤ (at_ : Int); omega, by show (at_ : Int) + ((pp 1).length : Int) ≤ 2000; omega⟩⟩, Int.le_refl _⟩
   ·
    rw [if_neg c] at hs
    cases hs
  ·
   obtain ⟨i1, i2⟩ := rows_ok hP l _ _ _ (by split; exact all_drop ha 1; exact ha) (by split; exact all_drop hb 1; exact hb) (by omega) s hs
   exact ⟨i1, by omega⟩
theorem gP_end {s : Sg} (h : SegM s) (e : s.f0.f1 = 1) {T : Int} (h1 : s.f1 + (s.f2.length : Int) ≤ T) (h2 : T ≤ 1000000) : Gone.gP T s = 12 := by
 obtain ⟨L, hL, hw⟩ := h
 have h3 := hw.lo
 have h4 := hw.hi
 have hb := hw.way.best
 rw [e] at hb
 exact gone_endT hL (by omega) (by omega) hb s rfl h3 (by omega) h1 h2 (by omega)
theorem rows_sum {pp : Nat → List Int} (hP : Arms pp) (k : Nat) (l : List Av) : ∀ (n at_ : Nat) (a b : List Mv), n ≤ l.length → a.all mayB = true → b.all mayB = true → cA l = a.length → cB l = b.length → at_ + tookL (pp 0).length (pp 1).length l ≤ 2000 →
  sumW ((at_ + tookL (pp 0).length (pp 1).length (l.take n) : Nat) : Int) k (rows pp l at_ a b) = 12 * (net k (a.take (cA (l.take n))) + net k (b.take (cB (l.take n)))) := by
 induction l with
 | nil =>
  intro n at_ a b hn _ _ _ _ _
  rw [List.take_nil]
  show (0 : Int) = 12 * (net k (a.take 0) + net k (b.take 0))
  rw [List.take_zero, List.take_zero]
  rfl
 | cons x l ih =>
  intro n at_ a b hn ha hb hA hB hT
  cases n with
  | zero =>
   rw [List.take_zero]
   show sumW ((at_ + 0 : Nat) : Int) k _ = 12 * (net k (a.take 0) + net k (b.take 0))
   rw [List.take_zero, List.take_zero, Nat.add_zero, sum_none k _ (fun s hs => (rows_ok hP _ _ _ _ ha hb hT s hs).2)]
   rfl
  | succ n =>
   have hA' : a.length = cA l + (if x.f0 = true then 1 else 0) := by rw [← hA]; unfold cA; rw [List.countP_cons]
   have hB' : b.length = cB l + (if x.f1 = true then 1 else 0) := by rw [← hB]; unfold cB; rw [List.countP_cons]
   have hok := rows_ok hP (x :: l) at_ a b ha hb hT
   rw [tookL] at hT
   obtain ⟨t0, t1⟩ := took_ge (one := (pp 0).length) (two := (pp 1).length) (x := x)
   have eA : cA ((x :: l).take (n + 1)) = cA (l.take n) + (if x.f0 = true then 1 else 0) := by rw [List.take_succ_cons]; unfold cA; rw [List.countP_cons]
   have eB : cB ((x :: l).take (n + 1)) = cB (l.take n) + (if x.f1 = true then 1 else 0) := by rw [List.take_succ_cons]; unfold cB; rw [List.countP_cons]
   have hle : tookL (pp 0).length (pp 1).length (l.take n) ≤ 100000 := by
    have : ∀ (l : List Av) (n : Nat), tookL (pp 0).length (pp 1).length (l.take n) ≤ tookL (pp 0).length (pp 1).length l := fun l => by
     induction l with
     | nil => intro n; rw [List.take_nil]; exact Nat.le_refl _
     | cons y l ih => intro n; cases n with
      | zero => rw [List.take_zero]; exact Nat.zero_le _
      | succ n => rw [List.take_succ_cons, tookL, tookL]; have := ih n; omega
    have h_ := this l n
    omega
   have ih' := ih n (at_ + tookN (pp 0).length (pp 1).length x) (if x.f0 = true then a.drop 1 else a) (if x.f1 = true then b.drop 1 else b) (by rw [List.length_cons] at hn; omega) (by split; exact all_drop ha 1; exact ha) (by split; exact all_drop hb 1; exact hb) (by split <;> simp_all) (by split <;> simp_all) (by omega)
   rw [List.take_succ_cons, tookL, ← List.take_succ_cons, eA, eB]
   rw [show at_ + (tookN (pp 0).length (pp 1).length x + tookL (pp 0).length (pp 1).length (l.take n)) = at_ + tookN (pp 0).length (pp 1).length x + tookL (pp 0).length (pp 1).length (l.take n) by omega]
   rw [rows, sum_app, sum_app, ih']
   generalize hTT : at_ + tookN (pp 0).length (pp 1).length x + tookL (pp 0).length (pp 1).length (l.take n) = T
   have e0 : sumW (T : Int) k (if x.f0 = true then (a.take 1).map (fun y => (⟨⟨y, 1⟩, (at_ : Int), pp 0⟩ : Sg)) else []) + 12 * net k ((if x.f0 = true then a.drop 1 else a).take (cA (l.take n))) = 12 * net k (a.take (cA (l.take n) + (if x.f0 = true then 1 else 0))) := by
    by_cases c : x.f0 = true
    ·
     rw [if_pos c] at hA'
     rw [if_pos c, if_pos c, if_pos c]
     cases a with
     | nil => simp at hA'
     | cons y r =>
      have k0 := t0 c
      have hm : (⟨⟨y, 1⟩, (at_ : Int), pp 0⟩ : Sg) ∈ rows pp (x :: l) at_ (y :: r) b := by
       rw [rows, if_pos c]
       simp
      have g := gP_end (hok _ hm).1 rfl (T := (T : Int)) (by show (at_ : Int) + ((pp 0).length : Int) ≤ T; omega) (by omega)
      show sumW (T : Int) k [(⟨⟨y, 1⟩, (at_ : Int), pp 0⟩ : Sg)] + 12 * net k (r.take (cA (l.take n))) = 12 * net k (y :: r.take (cA (l.take n)))
      rw [sumW, sumW, g, net]
      show (if k = cs y then y.f2 * 12 else 0) + 0 + 12 * net k (r.take (cA (l.take n))) = 12 * ((if k = cs y then y.f2 else 0) + net k (r.take (cA (l.take n))))
      split <;> omega
    ·
     rw [if_neg c, if_neg c, if_neg c]
     show (0 : Int) + _ = _
     rw [Nat.add_zero]
     omega
   have e1 : sumW (T : Int) k (if x.f1 = true then (b.take 1).map (fun y => (⟨⟨y, 1⟩, (at_ : Int), pp 1⟩ : Sg)) else []) + 12 * net k ((if x.f1 = true then b.drop 1 else b).take (cB (l.take n))) = 12 * net k (b.take (cB (l.take n) + (if x.f1 = true then 1 else 0))) := by
    by_cases c : x.f1 = true
    ·
     rw [if_pos c] at hB'
     rw [if_pos c, if_pos c, if_pos c]
     cases b with
     | nil => simp at hB'
     | cons y r =>
      have k1 := t1 c
      have hm : (⟨⟨y, 1⟩, (at_ : Int), pp 1⟩ : Sg) ∈ rows pp (x :: l) at_ a (y :: r) := by
       rw [rows, if_pos c]
       simp
      have g := gP_end (hok _ hm).1 rfl (T := (T : Int)) (by show (at_ : Int) + ((pp 1).length : Int) ≤ T; omega) (by omega)
      show sumW (T : Int) k [(⟨⟨y, 1⟩, (at_ : Int), pp 1⟩ : Sg)] + 12 * net k (r.take (cB (l.take n))) = 12 * net k (y :: r.take (cB (l.take n)))
      rw [sumW, sumW, g, net]
      show (if k = cs y then y.f2 * 12 else 0) + 0 + 12 * net k (r.take (cB (l.take n))) = 12 * ((if k = cs y then y.f2 else 0) + net k (r.take (cB (l.take n))))
      split <;> omega
    ·
     rw [if_neg c, if_neg c, if_neg c]
     show (0 : Int) + _ = _
     rw [Nat.add_zero]
     omega
   omega
theorem fold_sumM (T : Int) (k : Nat) (t : List Sg) : ∀ (o : Nat → Int), (∀ s ∈ t, SegM s) → t.length ≤ 1000 → (-(1000000 - 420 * (t.length : Int)) ≤ o k ∧ o k ≤ 1000000 - 420 * (t.length : Int)) → ((t.map (Gone.gOf T)).foldl Gone.add6 o) k = o k + sumW T k t := by
 induction t with
 | nil => intro o _ _ _; simp [sumW]
 | cons s t ih =>
  intro o h hl hb
  obtain ⟨L, hL, hs⟩ := h s List.mem_cons_self
  have hg := gP_bound hL hs.way T
  obtain ⟨_, _, m3⟩ := may_iff hs.may
  rw [List.length_cons] at hl hb
  have e : Gone.add6 o (Gone.gOf T s) k = o k + (if k = cs s.f0.f0 then s.f0.f0.f2 * Gone.gP T s else 0) := by
   unfold Gone.add6 Gone.upd
   show (if k = cs s.f0.f0 then wrap64 (o (cs s.f0.f0) + wrap64 (s.f0.f0.f2 * Gone.gP T s)) else o k) = _
   by_cases c : k = cs s.f0.f0
   ·
    rw [if_pos c, if_pos c, ← c]
    rcases m3 with e | e <;> rw [e] <;> rw [k64 (x := _ * Gone.gP T s) (by omega) (by omega), k64 (by omega) (by omega)]
   ·
    rw [if_neg c, if_neg c]
    omega
  have ih' := ih (Gone.add6 o (Gone.gOf T s)) (fun x hx => h x (List.mem_cons_of_mem _ hx)) (by omega) (by
   rw [e]
   by_cases c : k = cs s.f0.f0
   ·
    rw [if_pos c]
    rcases m3 with e | e <;> rw [e] <;> omega
   ·
    rw [if_neg c]
    omega)
  rw [List.map_cons, List.foldl_cons, ih', e, sumW]
  omega
theorem posM_sum {q : Nat → Int} (hq : qOk q) {t : List Sg} (hW : ∀ s ∈ t, SegM s) (hl : t.length ≤ 240) (T : Nat) {k : Nat} (hk : k < 6) : posR q t T k = 12 * q k + sumW (T : Int) k t := by
 have hb := hq k hk
 have hz : wrap64 (timetable_PositionsAt.q (q 0) (q 1) (q 2) (q 3) (q 4) (q 5) k * 12) = 12 * q k := by
  rw [q_at q hk, k64 (by omega) (by omega)]
  omega
 refine (fold_sumM (T : Int) k t (fun k => wrap64 (timetable_PositionsAt.q (q 0) (q 1) (q 2) (q 3) (q 4) (q 5) k * 12)) hW (by omega) ?_).trans ?_
 ·
  show _ ∧ _
  rw [hz]
  omega
 ·
  rw [hz]
theorem posM_ok {t : List Sg} (hW : ∀ s ∈ t, SegM s) (hl : t.length ≤ 1000) {T : Int} (T0 : 0 ≤ T) (T1 : T ≤ 1000000) : timetable_PositionsAt.ok t T = true := by
 unfold timetable_PositionsAt.ok
 rw [Bool.and_eq_true, List.all_eq_true]
 refine ⟨decide_eq_true (by omega), fun s hs => ?_⟩
 obtain ⟨L, hL, hw⟩ := hW s hs
 have h5 := hw.lo
 have h6 := hw.hi
 obtain ⟨m1, m2, m3⟩ := may_iff hw.may
 rw [Bool.and_eq_true]
 refine ⟨decide_eq_true ⟨fun hlt => ?_, by omega⟩, decide_eq_true ?_⟩
 ·
  rw [k64 (by omega) (by omega)]
  omega
 ·
  omega
theorem rows_len (pp : Nat → List Int) : ∀ (l : List Av) (at_ : Nat) (a b : List Mv), cA l = a.length → cB l = b.length → (rows pp l at_ a b).length = a.length + b.length
 | [], _, a, b, hA, hB => by
  have h1 : 0 = a.length := hA
  have h2 : 0 = b.length := hB
  show 0 = _
  omega
 | x :: l, at_, a, b, hA, hB => by
  have hA' : a.length = cA l + (if x.f0 = true then 1 else 0) := by rw [← hA]; unfold cA; rw [List.countP_cons]
  have hB' : b.length = cB l + (if x.f1 = true then 1 else 0) := by rw [← hB]; unfold cB; rw [List.countP_cons]
  have ih := rows_len pp l (at_ + tookN (pp 0).length (pp 1).length x) (if x.f0 = true then a.drop 1 else a) (if x.f1 = true then b.drop 1 else b) (by split <;> simp_all) (by split <;> simp_all)
  rw [rows, List.length_append, List.length_append, ih]
  by_cases c : x.f0 = true <;> by_cases d : x.f1 = true <;> simp only [c, d, if_true, if_false, List.length_map, List.length_take, List.length_drop, List.length_nil, Bool.false_eq_true] at hA' hB' ⊢ <;> omega
theorem rows_dur {pp : Nat → List Int} : ∀ (l : List Av) (at_ : Nat) (a b : List Mv), cA l = a.length → cB l = b.length → (rows pp l at_ a b).foldl upd23 (at_ : Int) = ((at_ + tookL (pp 0).length (pp 1).length l : Nat) : Int)
 | [], at_, _, _, _, _ => rfl
 | x :: l, at_, a, b, hA, hB => by
  have hA' : a.length = cA l + (if x.f0 = true then 1 else 0) := by rw [← hA]; unfold cA; rw [List.countP_cons]
  have hB' : b.length = cB l + (if x.f1 = true then 1 else 0) := by rw [← hB]; unfold cB; rw [List.countP_cons]
  have ih := rows_dur (pp := pp) l (at_ + tookN (pp 0).length (pp 1).length x) (if x.f0 = true then a.drop 1 else a) (if x.f1 = true then b.drop 1 else b) (by split <;> simp_all) (by split <;> simp_all)
  have e : ((if x.f0 = true then (a.take 1).map (fun y => (⟨⟨y, 1⟩, (at_ : Int), pp 0⟩ : Sg)) else []) ++ (if x.f1 = true then (b.take 1).map (fun y => (⟨⟨y, 1⟩, (at_ : Int), pp 1⟩ : Sg)) else [])).foldl upd23 (at_ : Int) = ((at_ + tookN (pp 0).length (pp 1).length x : Nat) : Int) := by
   unfold tookN
   by_cases c : x.f0 = true
   ·
    rw [if_pos c] at hA'
    cases a with
    | nil => simp at hA'
    | cons y r =>
     by_cases d : x.f1 = true
     ·
      rw [if_pos d] at hB'
      cases b with
      | nil => simp at hB'
      | cons z u =>
       rw [if_pos c, if_pos d, if_pos c, if_pos d]
       show mx (mx (at_ : Int) ((at_ : Int) + ((pp 0).length : Int))) ((at_ : Int) + ((pp 1).length : Int)) = _
       unfold mx
       (repeat' split) <;> omega
     ·
      rw [if_pos c, if_neg d, if_pos c, if_neg d]
      show mx (at_ : Int) ((at_ : Int) + ((pp 0).length : Int)) = _
      unfold mx
      (repeat' split) <;> omega
   ·
    by_cases d : x.f1 = true
    ·
     rw [if_pos d] at hB'
     cases b with
     | nil => simp at hB'
     | cons z u =>
      rw [if_neg c, if_pos d, if_neg c, if_pos d]
      show mx (at_ : Int) ((at_ : Int) + ((pp 1).length : Int)) = _
      unfold mx
      (repeat' split) <;> omega
    ·
     rw [if_neg c, if_neg d, if_neg c, if_neg d]
     show (at_ : Int) = _
     omega
  rw [rows, List.foldl_append, e, ih, tookL]
  congr 1
  omega
theorem of_l0 {x : Int} {l : List Mv} (hl : l.length ≤ 10000000000000) (k : Nat) : ∀ (m i : Nat), i + m = l.length → timetable_of.l0 (k + m + 1) x l (l.length : Int) (i : Int) = some ((l.drop i).all fun m => mayB m && (m.f0 == x))
 | 0, i, h => by
  rw [timetable_of.l0, if_neg (by omega), List.drop_of_length_le (by omega)]
  rfl
 | m + 1, i, h => by
  have hi : i < l.length := by omega
  have ew := kn1 (i := i) (n := l.length) hl hi
  show timetable_of.l0 (k + m + 1 + 1) x l (l.length : Int) (i : Int) = _
  rw [timetable_of.l0, if_pos (by omega), if_pos (by omega), if_pos (by omega), rdm_at hi, may_ok, Option.bind_some, ew, List.drop_eq_getElem_cons hi, List.all_cons]
  by_cases c : mayB l[i] = true
  ·
   rw [if_pos c, c]
   by_cases d : l[i].f0 = x
   ·
    rw [if_pos d, of_l0 hl k m (i + 1) (by omega), d, beq_self_eq_true]
    rfl
   ·
    rw [if_neg d, beq_eq_false_iff_ne.mpr d]
    rfl
  ·
   rw [if_neg c, Bool.eq_false_iff.mpr c]
   rfl
theorem of_ok (x : Int) {l : List Mv} (hl : l.length ≤ 10000000000000) {k : Nat} (hk : l.length + 1 ≤ k) : timetable_of.f k x l = some (l.all fun m => mayB m && (m.f0 == x)) := by
 obtain ⟨j, rfl⟩ : ∃ j, k = j + l.length + 1 := ⟨k - l.length - 1, by omega⟩
 exact of_l0 hl j l.length 0 (by omega)
theorem slotC {L : Lm} {K : Nat} (hK : ∀ n : Int, 1 ≤ n → n ≤ 35 → Fuel L K n) {k : Nat} (hk : K ≤ k) : Reach.SlotOk k L.v L.a L.j (pr L 1) := by
 refine ⟨pr_pos (by omega) (hK 1 (by omega) (by omega)), fun y at_ hat => ?_⟩
 obtain ⟨h1, h2⟩ := slot_ok hK (⟨y, 1⟩ : Rn) (by show (1 : Int) ≤ 1; omega) (by show (1 : Int) ≤ 10000000000000; omega) (a := (at_ : Int)) (by omega) (by omega) hk
 by_cases c : at_ + (pr L 1).length ≤ 2000
 ·
  exact ⟨y.f0, y.f1, y.f2, 1, at_, pr L 1, true, h1 ⟨by show (1 : Int) ≤ 35; omega, by show (at_ : Int) + ((pr L 1).length : Int) ≤ 2000; omega⟩, fun _ => ⟨c, rfl, rfl, rfl, rfl, rfl, rfl⟩, fun h => by cases h⟩
 ·
  obtain ⟨g0, g1, g2, g3, g4, g5, h⟩ := h2 (fun h => c (by have h3 : (at_ : Int) + ((pr L 1).length : Int) ≤ 2000 := h.2; omega))
  exact ⟨g0, g1, g2, g3, g4, g5, false, h, ⟨fun h => (by cases h), fun _ => c⟩⟩
theorem durC {L : Lm} {K : Nat} (hK : ∀ n : Int, 1 ≤ n → n ≤ 35 → Fuel L K n) {k : Nat} (hk : K ≤ k) : mintime_Duration.f k L.v L.a L.j 12 = some (((pr L 1).length : Int), true) := by
 have h := (hK 1 (by omega) (by omega)).1 k hk
 unfold mintime_Duration.f
 rw [show (12 : Int) = 12 * 1 from rfl, h]
 rfl
theorem joints_b (a b c : Int) : ∃ r, ambidexterref23_Joints.f a b c = some r ∧ (r = true → (-17 ≤ a ∧ a ≤ 18) ∧ (-17 ≤ b ∧ b ≤ 18) ∧ (-17 ≤ c ∧ c ≤ 18)) := by
 unfold ambidexterref23_Joints.f
 by_cases h : mn (mn a b) c ≥ -17
 ·
  rw [if_pos h]
  refine ⟨_, rfl, fun h2 => ?_⟩
  have h3 := of_decide_eq_true h2
  unfold mn at h
  unfold mx at h3
  (repeat' split at h) <;> (repeat' split at h3) <;> omega
 ·
  rw [if_neg h]
  exact ⟨_, rfl, fun h2 => by cases h2⟩
theorem took_app (one two : Nat) : ∀ a b : List Av, tookL one two (a ++ b) = tookL one two a + tookL one two b
 | [], b => by rw [List.nil_append, tookL]; omega
 | x :: a, b => by rw [List.cons_append, tookL, tookL, took_app one two a b]; omega
theorem took_take (one two : Nat) (l : List Av) (n : Nat) : tookL one two (l.take n) ≤ tookL one two l := by
 have h := took_app one two (l.take n) (l.drop n)
 rw [List.take_append_drop] at h
 omega
noncomputable def ppC (L0 L1 : Lm) (m : Nat) : List Int := if m = 0 then pr L0 1 else pr L1 1
theorem hv_may {l : List Mv} (h : l.all mayB = true) : ∀ i, i < l.length → ∃ a k : Nat, a < 2 ∧ k < 3 ∧ (rd_T63 l i).f0 = a ∧ (rd_T63 l i).f1 = k := fun i hi => by
 obtain ⟨a, j, ha, hj, ea, ej, _⟩ := cs_lt (List.all_eq_true.1 h l[i] (List.getElem_mem hi))
 exact ⟨a, j, ha, hj, by rw [rdm_at hi]; exact ea, by rw [rdm_at hi]; exact ej⟩
theorem cord_run0 (x0 x1 x2 x3 x4 x5 : Int) (hb0 : ((0 ≤ x0 ∧ x0 ≤ 255) ∧ (0 ≤ x1 ∧ x1 ≤ 255)) ∧ (0 ≤ x2 ∧ x2 ≤ 255)) (hb1 : ((0 ≤ x3 ∧ x3 ≤ 255) ∧ (0 ≤ x4 ∧ x4 ≤ 255)) ∧ (0 ≤ x5 ∧ x5 ≤ 255)) (A1 : Option Addr) (c1 : Nat) (l1 : List Mv) (A2 : Option Addr) (c2 : Nat) (l2 : List Mv) (A3 : Option Addr) (c3 : Nat) (l3 : List Av) (q : Nat → Int) (w : World) (hl1 : l1.length ≤ 10000000000000) (hl2 : l2.length ≤ 10000000000000) (hl3 : l3.length ≤ 100000000000000)
  (hr1 : Kd.C k63 w A1 l1.length l1) (hc1 : l1.length ≤ c1) (hr2 : Kd.C k63 w A2 l2.length l2) (hc2 : l2.length ≤ c2) (hr3 : Kd.C k91 w A3 l3.length l3) (hc3 : l3.length ≤ c3)
  (hhead : ∀ w : World, Calls Try.prog 31 #[] w fun e w' => e = .returned (.bool true) ∧ Below w.heap.size w w') :
  Calls Try.prog 10 #[.agg #[.int .u8 x0, .int .u8 x1, .int .u8 x2, .int .u8 x3, .int .u8 x4, .int .u8 x5], .slice A1 l1.length c1, .slice A2 l2.length c2, .slice A3 l3.length c3, .agg (Reach.six q)] w fun e w' => e = .returned (.bool true) ∧ Below w.heap.size w w' := by
 obtain ⟨L0, hL0, hf0⟩ := lim_b hb0
 obtain ⟨L1, hL1, hf1⟩ := lim_b hb1
 obtain ⟨K0, hK0⟩ := pr_all hL0
 obtain ⟨K1, hK1⟩ := pr_all hL1
 obtain ⟨j0, hj0, hq0⟩ := joints_b (q 0) (q 1) (q 2)
 obtain ⟨j1, hj1, hq1⟩ := joints_b (q 3) (q 4) (q 5)
 obtain ⟨k, ek⟩ : ∃ k, k = K0 + K1 + l1.length + l2.length + 400 := ⟨_, rfl⟩
 obtain ⟨o1, eo1⟩ : ∃ o1, o1 = l1.all fun m => mayB m && (m.f0 == 0) := ⟨_, rfl⟩
 obtain ⟨o2, eo2⟩ : ∃ o2, o2 = l2.all fun m => mayB m && (m.f0 == 1) := ⟨_, rfl⟩
 have h1 := of_ok 0 hl1 (k := k) (by omega)
 have h2 := of_ok 1 hl2 (k := k) (by omega)
 rw [← eo1] at h1
 rw [← eo2] at h2
 refine Reach.cl_run x0 x1 x2 x3 x4 x5 L0.v L0.a L0.j L1.v L1.a L1.j A1 c1 l1 A2 c2 l2 A3 c3 l3 q w hr1 hc1 hr2 hc2 hr3 hc3 hhead hf0 hf1 (Reach.coF (ppC L0 L1) o1 o2 l1 l2 l3).2 (Reach.coF (ppC L0 L1) o1 o2 l1 l2 l3).1
  (fun W g1 g2 g3 => Reach.coord_run L0.v L0.a L0.j L1.v L1.a L1.j (valid_ok hL0) (valid_ok hL1) A1 c1 l1 A2 c2 l2 A3 c3 l3 W g1 hc1 g2 hc2 g3 k o1 o2 h1 h2 hl3 (ppC L0 L1) (fun _ => ⟨slotC hK0 (by omega), slotC hK1 (by omega)⟩)) j0 j1 hj0 hj1 (fun n1 n2 n3 he e0 e1 => ?_)
 have z0 := hq0 e0
 have z1 := hq1 e1
 have hq : qOk q := fun i h6 => by
  match i, h6 with
  | 0, _ => omega
  | 1, _ => omega
  | 2, _ => omega
  | 3, _ => omega
  | 4, _ => omega
  | 5, _ => omega
  | i + 6, h => omega
 by_cases hc : (o1 = true ∧ o2 = true) ∧ (∀ x ∈ l3, (x.f0 || x.f1) = true) ∧ cA l3 = l1.length ∧ cB l3 = l2.length
 ·
  have eF : Reach.coF (ppC L0 L1) o1 o2 l1 l2 l3 = match Reach.coR (ppC L0 L1) l3 0 (Reach.two l1 l2) [] with | some t => ((0 : Int), t) | none => (2, []) := if_pos hc
  obtain ⟨⟨ho1, ho2⟩, hall, hcA, hcB⟩ := hc
  cases hR : Reach.coR (ppC L0 L1) l3 0 (Reach.two l1 l2) [] with
  | none =>
   rw [eF, hR] at he
   cases he
  | some t =>
   rw [hR] at eF
   obtain ⟨et, hT⟩ := coR_rows l3 0 l1 l2 [] t hR hcA hcB (by omega)
   rw [List.nil_append] at et
   rw [eF]
   dsimp only
   have m1 : l1.all mayB = true := List.all_eq_true.2 fun x hx => by
    have h_ := List.all_eq_true.1 (eo1.symm.trans ho1) x hx
    rw [Bool.and_eq_true] at h_
    exact h_.1
   have m2 : l2.all mayB = true := List.all_eq_true.2 fun x hx => by
    have h_ := List.all_eq_true.1 (eo2.symm.trans ho2) x hx
    rw [Bool.and_eq_true] at h_
    exact h_.1
   have hP : Arms (ppC L0 L1) := ⟨⟨L0, hL0, by omega, by omega, (hK0 1 (by omega) (by omega)).2.1⟩, ⟨L1, hL1, by omega, by omega, (hK1 1 (by omega) (by omega)).2.1⟩⟩
   have hok := rows_ok hP l3 0 l1 l2 m1 m2 hT
   rw [← et] at hok
   have hlen := rows_len (ppC L0 L1) l3 0 l1 l2 hcA hcB
   rw [← et] at hlen
   have hW : ∀ s ∈ t, SegM s := fun s hs => (hok s hs).1
   have hS : ∀ s ∈ t, 0 ≤ s.f1 ∧ s.f1 + (s.f2.length : Int) ≤ 2000 := fun s hs => by
    obtain ⟨L, hL, hw⟩ := hW s hs
    exact ⟨hw.lo, hw.hi⟩
   have hT' : tookL (pr L0 1).length (pr L1 1).length l3 ≤ 2000 := by
    have h_ : 0 + tookL (pr L0 1).length (pr L1 1).length l3 ≤ 2000 := hT
    omega
   refine ⟨k, (pr L0 1).length, (pr L1 1).length, fun n => tookL (pr L0 1).length (pr L1 1).length (l3.take n), durC hK0 (by omega), durC hK1 (by omega), ⟨(hK0 1 (by omega) (by omega)).2.2, (hK1 1 (by omega) (by omega)).2.2⟩, ?_, hv_may m1, hv_may m2, hall, hcA, hcB, hlen, rfl, fun n hn => ?_, fun n hn => ?_, ?_, fun n hn => ?_⟩
   ·
    obtain ⟨j, ej⟩ : ∃ j, k = j + t.length + 1 := ⟨k - t.length - 1, by omega⟩
    rw [ej]
    exact small_l0 (by omega) (fun s hs => by
     obtain ⟨L, hL, hw⟩ := hW s hs
     exact ⟨hw.lo, hw.hi, hw.may⟩) j t.length 0 (by omega)
   ·
    show tookL _ _ (l3.take (n + 1)) = tookL _ _ (l3.take n) + _
    rw [Reach.take_rd l3 hn, took_app]
    rfl
   ·
    have h_ := took_take (pr L0 1).length (pr L1 1).length l3 n
    show tookL _ _ (l3.take n) ≤ _
    omega
   ·
    have h_ := rows_dur (pp := ppC L0 L1) l3 0 l1 l2 hcA hcB
    rw [← et] at h_
    obtain ⟨j, ej⟩ : ∃ j, k = j + t.length + 1 := ⟨k - t.length - 1, by omega⟩
    have h3 := dur_l0 (by omega) hS j t.length 0 0 (by omega)
    rw [List.drop_zero] at h3
    unfold timetable_Duration.f
    rw [ej]
    refine h3.trans ?_
    show some (t.foldl upd23 ((0 : Nat) : Int)) = _
    rw [h_]
    show some (((0 + tookL (pr L0 1).length (pr L1 1).length l3 : Nat) : Int)) = some ((tookL (pr L0 1).length (pr L1 1).length (l3.take l3.length) : Nat) : Int)
    rw [List.take_length, Nat.zero_add]
   ·
    have hTn := took_take (pr L0 1).length (pr L1 1).length l3 n
    have hv : ∀ i, i < 6 → timetable_PositionsAt.o (q 0) (q 1) (q 2) (q 3) (q 4) (q 5) t ((tookL (pr L0 1).length (pr L1 1).length (l3.take n) : Nat) : Int) i = Reach.nowC q l1 l2 l3 n i := fun i h6 => by
     have e1 := posM_sum hq hW (by omega) (tookL (pr L0 1).length (pr L1 1).length (l3.take n)) h6
     have e2 := rows_sum hP i l3 n 0 l1 l2 hn m1 m2 hcA hcB hT
     rw [← et, Nat.zero_add] at e2
     have hb := hq i h6
     have b1 := net_le i _ (all_take m1 (cA (l3.take n)))
     have b2 := net_le i _ (all_take m2 (cB (l3.take n)))
     have g1 : (l1.take (cA (l3.take n))).length ≤ l1.length := by rw [List.length_take]; omega
     have g2 : (l2.take (cB (l3.take n))).length ≤ l2.length := by rw [List.length_take]; omega
     have f1 := mv_net (l1.take (cA (l3.take n))) q (all_take m1 _) (fun j hj => by have := hq j hj; omega)
     have f2 := mv_net (l2.take (cB (l3.take n))) (Reach.mv q (l1.take (cA (l3.take n)))) (all_take m2 _) (fun j hj => by rw [f1 j hj]; have h3_ := hq j hj; have h4_ := net_le j _ (all_take m1 (cA (l3.take n))); omega) i h6
     unfold Reach.nowC
     rw [f2, f1 i h6]
     refine e1.trans ?_
     have e3 : sumW ((tookL (pr L0 1).length (pr L1 1).length (l3.take n) : Nat) : Int) i t = 12 * (net i (l1.take (cA (l3.take n))) + net i (l2.take (cB (l3.take n)))) := e2
     rw [e3, k64 (by omega) (by omega)]
     omega
    unfold timetable_PositionsAt.f
    rw [if_pos (posM_ok hW (by omega) (by omega) (by show ((tookL (pr L0 1).length (pr L1 1).length (l3.take n) : Nat) : Int) ≤ 1000000; omega))]
    rw [hv 0 (by omega), hv 1 (by omega), hv 2 (by omega), hv 3 (by omega), hv 4 (by omega), hv 5 (by omega)]
 ·
  have eF : Reach.coF (ppC L0 L1) o1 o2 l1 l2 l3 = (1, []) := if_neg hc
  rw [eF] at he
  cases he
end Go.Proofs.Ytmmaodlngnjmlaa.Pure
namespace Go.Proofs.Ytmmaodlngnjmlaa.Pure
open Go Go.RowKit Go.Proofs.Ytmmaodlngnjmlaa.P Go.Proofs.YtmmaodlngnjmlaaW.PrintWords
/-- Six numbers by their places. -/
def q6 (a b c d e f : Int) : Nat → Int
  | 0 => a
  | 1 => b
  | 2 => c
  | 3 => d
  | 4 => e
  | _ => f
theorem cord_run (x0 x1 x2 x3 x4 x5 : Int) (hb0 : ((0 ≤ x0 ∧ x0 ≤ 255) ∧ (0 ≤ x1 ∧ x1 ≤ 255)) ∧ (0 ≤ x2 ∧ x2 ≤ 255)) (hb1 : ((0 ≤ x3 ∧ x3 ≤ 255) ∧ (0 ≤ x4 ∧ x4 ≤ 255)) ∧ (0 ≤ x5 ∧ x5 ≤ 255)) (A1 : Option Addr) (c1 : Nat) (l1 : List S63) (A2 : Option Addr) (c2 : Nat) (l2 : List S63) (A3 : Option Addr) (c3 : Nat) (l3 : List S91) (q : Nat → Int) (w : World) (hl1 : l1.length ≤ 10000000000000) (hl2 : l2.length ≤ 10000000000000) (hl3 : l3.length ≤ 100000000000000)
    (hr1 : Kd.C k63 w A1 l1.length l1) (hc1 : l1.length ≤ c1) (hr2 : Kd.C k63 w A2 l2.length l2) (hc2 : l2.length ≤ c2) (hr3 : Kd.C k91 w A3 l3.length l3) (hc3 : l3.length ≤ c3) :
    Calls Try.prog 10 #[.agg #[.int .u8 x0, .int .u8 x1, .int .u8 x2, .int .u8 x3, .int .u8 x4, .int .u8 x5], .slice A1 l1.length c1, .slice A2 l2.length c2, .slice A3 l3.length c3, .agg (Reach.six q)] w fun e w' => e = .returned (.bool true) ∧ Below w.heap.size w w' := by
  obtain ⟨k, hk⟩ := Pure.head23
  exact Pure.cord_run0 x0 x1 x2 x3 x4 x5 hb0 hb1 A1 c1 l1 A2 c2 l2 A3 c3 l3 q w hl1 hl2 hl3 hr1 hc1 hr2 hc2 hr3 hc3 (fun w => ambidexterlaw23_head.calls k true w hk)
end Go.Proofs.Ytmmaodlngnjmlaa.Pure
