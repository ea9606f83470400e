/- The law of the targets in plain Lean: where the joints stand before, within and behind each segment. The law of the targets, with its head. -/
import Derived.Test.YtmmaodlngnjmlaaXReachW23
import Derived.Test.YtmmaodlngnjmlaaXWays23
import Derived.Test.YtmmaodlngnjmlaaP4
import Derived.Test.YtmmaodlngnjmlaaP7
import Derived.Test.YtmmaodlngnjmlaaXHead23
namespace Go.Proofs.Ytmmaodlngnjmlaa.Pure
set_option linter.unusedSimpArgs false
set_option linter.unusedVariables false
open Go Go.RowKit Go.Proofs.Ytmmaodlngnjmlaa.P Go.Proofs.YtmmaodlngnjmlaaW.PrintWords Go.Proofs.YtmmaodlngnjmlaaW.PrintLast Go.Proofs.YtmmaodlngnjmlaaW.PrintMore Go.Proofs.Ytmmaodlngnjmlaa.Motion
theorem lim_b {a0 a1 a2 : Int} (h : ((0 ≤ a0 ∧ a0 ≤ 255) ∧ (0 ≤ a1 ∧ a1 ≤ 255)) ∧ (0 ≤ a2 ∧ a2 ≤ 255)) : ∃ L : Lm, ok L ∧ ambidexterlaw23_lim.f a0 a1 a2 = some (L.v, L.a, L.j) := by
  obtain ⟨⟨h0, h1⟩, h2⟩ := h
  refine ⟨⟨1 + a0 % 8, 1 + a1 % 4, 1 + a2 % 2⟩, by unfold ok; dsimp only; omega, ?_⟩
  unfold ambidexterlaw23_lim.f
  rw [k64 (x := a0) (by omega) (by omega), k64 (x := a1) (by omega) (by omega), k64 (x := a2) (by omega) (by omega), Int.tmod_eq_emod_of_nonneg (by omega), Int.tmod_eq_emod_of_nonneg (by omega), Int.tmod_eq_emod_of_nonneg (by omega), k64 (by omega) (by omega), k64 (by omega) (by omega), k64 (by omega) (by omega)]
theorem may23 {m : Mv} (h : mayB m = true) : ambidexterref23_May.f m.f0 m.f1 m.f2 = some true := by
  obtain ⟨h0, h1, h2⟩ := may_iff h
  unfold ambidexterref23_May.f
  have e : (if m.f2 = 1 then some true else some (m.f2 == -1)) = some true := by
    rcases h2 with e | e <;> rw [e] <;> rfl
  rcases h0 with e0 | e0
  · rw [if_pos e0, if_pos h1.1, if_pos (by omega), e]
  · rw [if_neg (by omega), if_pos e0, if_pos h1.1, if_pos (by omega), e]
theorem small_l0 {t : List Sg} (ht : t.length ≤ 240) (hs : ∀ s ∈ t, 0 ≤ s.f1 ∧ s.f1 + (s.f2.length : Int) ≤ 2000 ∧ mayB s.f0.f0 = true) (k : Nat) : ∀ (m i : Nat), i + m = t.length → ambidexterlaw23_small.l0 (k + m + 1) t (i : Int) = some true
  | 0, i, h => by rw [ambidexterlaw23_small.l0, if_neg (by omega), decide_eq_true (by omega)]
  | m + 1, i, h => by
    have hi : i < t.length := by omega
    obtain ⟨h1, h2, h3⟩ := hs t[i] (List.getElem_mem hi)
    have ew := kn1 (i := i) (n := t.length) (by omega) hi
    show ambidexterlaw23_small.l0 (k + m + 1 + 1) t (i : Int) = _
    rw [ambidexterlaw23_small.l0, if_pos (by omega), if_pos (by omega), rds_at hi, if_neg (by omega), if_neg (by omega), if_neg (by omega), may23 h3, Option.bind_some, if_pos rfl, ew]
    exact small_l0 ht hs k m (i + 1) (by omega)
theorem small_ok {L : Lm} {l : List Mv} {t : List Sg} (h : TabOk L l t) (hl : l.length ≤ 240) {K : Nat} (hK : l.length + 1 ≤ K) : ambidexterlaw23_small.f K t = some true := by
  have hlen := h.len
  obtain ⟨j, rfl⟩ : ∃ j, K = j + t.length + 1 := ⟨K - t.length - 1, by omega⟩
  exact small_l0 (by omega) (fun s hs => ⟨(h.seg s hs).lo, (h.seg s hs).hi, h.may s hs⟩) j t.length 0 (by omega)
theorem tab_segW {L : Lm} {K : Nat} (hK : ∀ n : Int, 1 ≤ n → n ≤ 35 → Fuel L K n) {l : List Mv} {t : List Sg} (h : TabOk L l t) : ∀ s ∈ t, SegW L s := fun s hs => by
  have hg := h.seg s hs
  have hb := (hK _ hg.n1 hg.n2).2.1
  rw [← hg.js] at hb
  exact ⟨⟨hg.n1, hg.n2, hb⟩, h.may s hs, hg.lo, hg.hi⟩
/-- Where the joints stand at a tick. -/
def posR (q : Nat → Int) (t : List Sg) (T : Nat) (k : Nat) : Int := timetable_PositionsAt.o (q 0) (q 1) (q 2) (q 3) (q 4) (q 5) t (T : Int) k
/-- Joints that may be. -/
def qOk (q : Nat → Int) : Prop := ∀ i, i < 6 → -17 ≤ q i ∧ q i ≤ 18
theorem q_at (q : Nat → Int) {k : Nat} (h : k < 6) : timetable_PositionsAt.q (q 0) (q 1) (q 2) (q 3) (q 4) (q 5) k = q k := by
  match k, h with
  | 0, _ => rfl
  | 1, _ => rfl
  | 2, _ => rfl
  | 3, _ => rfl
  | 4, _ => rfl
  | 5, _ => rfl
  | k + 6, h => omega
theorem posR_sum {L : Lm} (hL : ok L) {q : Nat → Int} (hq : qOk q) {t : List Sg} (hW : ∀ s ∈ t, SegW L s) (hl : t.length ≤ 240) (T : Nat) {k : Nat} (hk : k < 6) : posR q t T k = 12 * q k + sumW (T : Int) k t := by
  have hb := hq k hk
  have hz : wrap64 (timetable_PositionsAt.q (q 0) (q 1) (q 2) (q 3) (q 4) (q 5) k * 12) = 12 * q k := by
    rw [q_at q hk, k64 (by omega) (by omega)]
    omega
  refine (fold_sum hL (T : Int) k t (fun k => wrap64 (timetable_PositionsAt.q (q 0) (q 1) (q 2) (q 3) (q 4) (q 5) k * 12)) hW (by omega) ?_).trans ?_
  · show _ ∧ _
    rw [hz]
    omega
  · rw [hz]
theorem gP_none {s : Sg} {T : Int} (h : T ≤ s.f1) : Gone.gP T s = 0 := by
  have hg : Gone.gN T s = 0 := by
    unfold Gone.gN
    rw [if_neg (by omega)]
  unfold Gone.gP
  rw [hg]
  rfl
theorem sum_none {T : Int} (k : Nat) : ∀ t : List Sg, (∀ s ∈ t, T ≤ s.f1) → sumW T k t = 0
  | [], _ => rfl
  | s :: t, h => by
    rw [sumW, gP_none (h s List.mem_cons_self), sum_none k t (fun x hx => h x (List.mem_cons_of_mem _ hx))]
    split <;> omega
theorem sum_app {T : Int} (k : Nat) : ∀ a b : List Sg, sumW T k (a ++ b) = sumW T k a + sumW T k b
  | [], b => by rw [List.nil_append, sumW]; omega
  | s :: a, b => by
    rw [List.cons_append, sumW, sumW, sum_app k a b]
    omega
theorem net_bound {L : Lm} (k : Nat) : ∀ t : List Sg, (∀ s ∈ t, SegW L s) → -(35 * (t.length : Int)) ≤ netR k (t.map (fun s => s.f0)) ∧ netR k (t.map (fun s => s.f0)) ≤ 35 * (t.length : Int)
  | [], _ => by
    show -(35 * (0 : Int)) ≤ 0 ∧ (0 : Int) ≤ 35 * 0
    omega
  | s :: t, h => by
    have ih := net_bound k t (fun x hx => h x (List.mem_cons_of_mem _ hx))
    have hs := h s List.mem_cons_self
    have n1 := hs.way.n1
    have n2 := hs.way.n2
    obtain ⟨_, _, m3⟩ := may_iff hs.may
    rw [List.map_cons, netR, List.length_cons]
    by_cases c : k = cs s.f0.f0
    · rw [if_pos c]
      rcases m3 with e | e <;> rw [e] <;> omega
    · rw [if_neg c]
      omega
/-- Where the joints are behind the first n segments. -/
def atR (q : Nat → Int) (t : List Sg) (n : Nat) (i : Nat) : Int := q i + netR i ((t.take n).map (fun s => s.f0))
theorem gP_way {L : Lm} (hL : ok L) {s : Sg} (h : Way L s.f0.f1 s.f2) (T : Int) : 0 ≤ Gone.gP T s ∧ Gone.gP T s ≤ 12 * s.f0.f1 := by
  have hm := h.pos hL (Gone.gN T s)
  rw [gP_pg hL h T]
  unfold may at hm
  unfold pg
  omega
theorem take_split (t : List Sg) {k : Nat} (h : k < t.length) : t = t.take k ++ t[k] :: t.drop (k + 1) := by
  rw [← List.drop_eq_getElem_cons h, List.take_append_drop]
theorem cs_lt {m : Mv} (h : mayB m = true) : ∃ a j : Nat, a < 2 ∧ j < 3 ∧ m.f0 = a ∧ m.f1 = j ∧ cs m = a * 3 + j := by
  obtain ⟨h0, h1, _⟩ := may_iff h
  refine ⟨m.f0.toNat, m.f1.toNat, by omega, by omega, by omega, by omega, rfl⟩
theorem segs_ok {L : Lm} (hL : ok L) {q : Nat → Int} (hq : qOk q) {t : List Sg} (hW : ∀ s ∈ t, SegW L s) (hap : t.Pairwise (fun x y => x.f1 + (x.f2.length : Int) ≤ y.f1)) (hl : t.length ≤ 240) {tot : Nat} (htot : tot ≤ 2000) {k : Nat} (hk : k < t.length) :
    Reach.SegOk (posR q t) (atR q t) tot t k := by
  have hs := hW t[k] (List.getElem_mem hk)
  obtain ⟨a, j, ha, hj, ea, ej, ec⟩ := cs_lt hs.may
  have n1 := hs.way.n1
  have n2 := hs.way.n2
  have lo := hs.lo
  have hi := hs.hi
  obtain ⟨_, _, m3⟩ := may_iff hs.may
  have hWt : ∀ s ∈ t.take k, SegW L s := fun s h => hW s (List.mem_of_mem_take h)
  have lt : (t.take k).length = k := by rw [List.length_take]; omega
  have hnet : ∀ i, atR q t (k + 1) i = atR q t k i + (if i = a * 3 + j then t[k].f0.f0.f2 * t[k].f0.f1 else 0) := fun i => by
    unfold atR
    rw [List.take_succ_eq_append_getElem hk, List.map_append, netR_app, List.map_cons, List.map_nil, netR, netR, ec]
    omega
  have hbd : ∀ i, i < 6 → -10000 ≤ atR q t k i ∧ atR q t k i ≤ 10000 := fun i h6 => by
    have hb := hq i h6
    have h := net_bound i (t.take k) hWt
    rw [lt] at h
    unfold atR
    omega
  have hby : -35 ≤ t[k].f0.f0.f2 * t[k].f0.f1 ∧ t[k].f0.f0.f2 * t[k].f0.f1 ≤ 35 := by
    rcases m3 with e | e <;> rw [e] <;> omega
  refine ⟨a, j, t[k].f1.toNat, t[k].f2.length, ha, hj, by omega, ?_, ?_, ?_, ?_, ?_, ?_⟩
  · rw [rds_at hk]
    exact ea
  · rw [rds_at hk]
    exact ej
  · rw [rds_at hk]
    omega
  · rw [rds_at hk]
  · intro i h6
    rw [rds_at hk, hnet i]
    unfold Reach.upd
    have hb := hbd (a * 3 + j) (by omega)
    by_cases c : i = a * 3 + j
    · rw [if_pos c, if_pos c, c, k64 (x := t[k].f0.f0.f2 * t[k].f0.f1) (by omega) (by omega), k64 (by omega) (by omega)]
    · rw [if_neg c, if_neg c]
      omega
  · intro T hT h1 h2
    have hsum : ∀ i, i < 6 → posR q t T i = 12 * atR q t k i + (if i = a * 3 + j then t[k].f0.f0.f2 * Gone.gP (T : Int) t[k] else 0) := fun i h6 => by
      rw [posR_sum hL hq hW hl T h6]
      have hp := hap
      rw [take_split t hk] at hp
      obtain ⟨_, p2, p3⟩ := List.pairwise_append.1 hp
      have p4 := (List.pairwise_cons.1 p2).1
      have e1 : sumW (T : Int) i t = sumW (T : Int) i (t.take k ++ t[k] :: t.drop (k + 1)) := by rw [← take_split t hk]
      rw [e1, sum_app, sumW, sum_end hL (by omega) i (t.take k) hWt (fun s h => by have := p3 s h t[k] List.mem_cons_self; omega), sum_none i (t.drop (k + 1)) (fun s h => by have := p4 s h; omega), ec]
      unfold atR
      omega
    obtain ⟨g0, g1⟩ := gP_way hL hs.way (T : Int)
    have hb := hbd (a * 3 + j) (by omega)
    have e1 := hnet (a * 3 + j)
    have e2 := hsum (a * 3 + j) (by omega)
    rw [if_pos rfl] at e1 e2
    rw [k64 (x := 12 * atR q t k (a * 3 + j)) (by omega) (by omega), k64 (x := 12 * atR q t (k + 1) (a * 3 + j)) (by omega) (by omega)]
    refine ⟨?_, ?_, fun i h6 hne => ?_⟩
    · rw [e1, e2]
      unfold mn
      rcases m3 with e | e <;> rw [e] <;> split <;> omega
    · rw [e1, e2]
      unfold mx
      rcases m3 with e | e <;> rw [e] <;> split <;> omega
    · have hb2 := hbd i h6
      rw [hsum i h6, if_neg hne, k64 (by omega) (by omega)]
      omega
theorem net_le (k : Nat) : ∀ l : List Mv, l.all mayB = true → -(l.length : Int) ≤ net k l ∧ net k l ≤ (l.length : Int)
  | [], _ => by
    show -(0 : Int) ≤ 0 ∧ (0 : Int) ≤ 0
    omega
  | m :: l, h => by
    rw [List.all_cons, Bool.and_eq_true] at h
    have ih := net_le k l h.2
    obtain ⟨_, _, m3⟩ := may_iff h.1
    rw [net, List.length_cons]
    split
    · rcases m3 with e | e <;> rw [e] <;> omega
    · omega
theorem mv_net (l : List Mv) : ∀ (q : Nat → Int), l.all mayB = true → (∀ i, i < 6 → -(1000000 - (l.length : Int)) ≤ q i ∧ q i ≤ 1000000 - (l.length : Int)) → ∀ i, i < 6 → Reach.mv q l i = q i + net i l := by
  induction l with
  | nil =>
    intro q _ _ i _
    show q i = q i + 0
    omega
  | cons m l ih =>
    intro q h hb i h6
    rw [List.all_cons, Bool.and_eq_true] at h
    obtain ⟨a, j, ha, hj, ea, ej, ec⟩ := cs_lt h.1
    obtain ⟨_, _, m3⟩ := may_iff h.1
    have hb0 := hb (cs m) (by omega)
    rw [List.length_cons] at hb hb0
    have hm : -1 ≤ m.f2 ∧ m.f2 ≤ 1 := by omega
    have hw : wrap64 (q (cs m) + m.f2) = q (cs m) + m.f2 := k64 (by omega) (by omega)
    have e : Reach.mv q (m :: l) = Reach.mv (Reach.upd q (cs m) (wrap64 (q (cs m) + m.f2))) l := rfl
    have hn : ∀ i, i < 6 → -(1000000 - (l.length : Int)) ≤ Reach.upd q (cs m) (q (cs m) + m.f2) i ∧ Reach.upd q (cs m) (q (cs m) + m.f2) i ≤ 1000000 - (l.length : Int) := fun i h6 => by
      have hb1 := hb i h6
      unfold Reach.upd
      split <;> omega
    rw [e, hw, ih _ h.2 hn i h6, net]
    unfold Reach.upd
    by_cases c : i = cs m
    · rw [if_pos c, if_pos c, c]
      omega
    · rw [if_neg c, if_neg c]
      omega
theorem joints_b (a b c : Int) : ∃ r, ambidexterref23_Joints.f a b c = some r ∧ (r = true → (-17 ≤ a ∧ a ≤ 18) ∧ (-17 ≤ b ∧ b ≤ 18) ∧ (-17 ≤ c ∧ c ≤ 18)) := by
  unfold ambidexterref23_Joints.f
  by_cases h : mn (mn a b) c ≥ -17
  · rw [if_pos h]
    refine ⟨_, rfl, fun h2 => ?_⟩
    have h3 := of_decide_eq_true h2
    unfold mn at h
    unfold mx at h3
    (repeat' split at h) <;> (repeat' split at h3) <;> omega
  · rw [if_neg h]
    exact ⟨_, rfl, fun h2 => by cases h2⟩
theorem tab_le {L : Lm} {R : List Rn} {t : List Sg} (h : tab L 0 R = some t) : ∀ s ∈ t, s.f1 + (s.f2.length : Int) ≤ endOf L 0 R := fun s hs => by
  obtain ⟨i, hi, rfl⟩ := List.getElem_of_mem hs
  have hlen := tab_len L R 0 t h
  have hiR : i < R.length := by omega
  rw [tab_at L R 0 t h i hiR hi]
  have e2 : endOf L 0 R = endOf L (endOf L 0 (R.take i)) (R.drop i) := by rw [← end_app, List.take_append_drop]
  rw [e2, List.drop_eq_getElem_cons hiR]
  exact end_ge L (R.drop (i + 1)) _
theorem tick_in {x : Int} (h : 0 ≤ x ∧ x ≤ 65535) {tot : Nat} (ht : tot ≤ 2000) : ∃ T : Nat, T ≤ tot ∧ Int.tmod (wrap64 x) ((tot : Int) + 1) = T := by
  rw [k64 (by omega) (by omega), Int.tmod_eq_emod_of_nonneg h.1]
  have h0 := Int.emod_nonneg x (show (tot : Int) + 1 ≠ 0 by omega)
  have h1 := Int.emod_lt_of_pos x (show (0 : Int) < (tot : Int) + 1 by omega)
  exact ⟨(x % ((tot : Int) + 1)).toNat, by omega, by omega⟩
theorem reach_run0 (a0 a1 a2 : Int) (hb : ((0 ≤ a0 ∧ a0 ≤ 255) ∧ (0 ≤ a1 ∧ a1 ≤ 255)) ∧ (0 ≤ a2 ∧ a2 ≤ 255)) (A1 : Option Addr) (c1 : Nat) (l1 : List S63) (hl : l1.length ≤ 5864062014800) (q : Nat → Int) (A3 : Option Addr) (c3 : Nat) (l3 : List Int) (h3 : ∀ x ∈ l3, 0 ≤ x ∧ x ≤ 65535) (w : World) (hr1 : Kd.C k63 w A1 l1.length l1) (hc1 : l1.length ≤ c1) (hr3 : Kd.C (Kd.int .u16) w A3 l3.length l3) (hc3 : l3.length ≤ c3)
    (hhead : ∀ w : World, Calls Try.prog 31 #[] w fun e w' => e = .returned (.bool true) ∧ Below w.heap.size w w') :
    Calls Try.prog 8 #[.agg #[.int .u8 a0, .int .u8 a1, .int .u8 a2], .slice A1 l1.length c1, .agg (Reach.six q), .slice A3 l3.length c3] w fun e w' => e = .returned (.bool true) ∧ Below w.heap.size w w' := by
  obtain ⟨L, hL, hf⟩ := lim_b hb
  obtain ⟨K, hK⟩ := pr_all hL
  obtain ⟨b0, hj0, hq0⟩ := joints_b (q 0) (q 1) (q 2)
  obtain ⟨b1, hj1, hq1⟩ := joints_b (q 3) (q 4) (q 5)
  have hs := seq_ok hL hK hl (k := K + 2 * l1.length + 400) (by omega)
  by_cases cm : l1.all mayB = true
  · rw [if_pos cm] at hs
    cases ht : tab L 0 (runsL l1) with
    | none =>
      rw [ht] at hs
      exact Reach.reach_early a0 a1 a2 L.v L.a L.j A1 c1 l1 q A3 c3 l3 w hr1 hc1 hhead hf _ _ 2 hs b0 b1 hj0 hj1 (Or.inr (Or.inr (Or.inr (Or.inr (by decide)))))
    | some t =>
      rw [ht] at hs
      by_cases c : 60 < l1.length ∨ 60 < l3.length ∨ b0 = false ∨ b1 = false ∨ (0 : Int) ≠ 0
      · exact Reach.reach_early a0 a1 a2 L.v L.a L.j A1 c1 l1 q A3 c3 l3 w hr1 hc1 hhead hf _ _ 0 hs b0 b1 hj0 hj1 c
      · have d1 : ¬ 60 < l1.length := fun h => c (Or.inl h)
        have d2 : ¬ 60 < l3.length := fun h => c (Or.inr (Or.inl h))
        have d3 : b0 = true := by
          cases b0
          · exact absurd (Or.inr (Or.inr (Or.inl rfl))) c
          · rfl
        have d4 : b1 = true := by
          cases b1
          · exact absurd (Or.inr (Or.inr (Or.inr (Or.inl rfl)))) c
          · rfl
        have z0 := hq0 d3
        have z1 := hq1 d4
        subst d3
        subst d4
        have hq : qOk q := fun i h6 => by
          match i, h6 with
          | 0, _ => omega
          | 1, _ => omega
          | 2, _ => omega
          | 3, _ => omega
          | 4, _ => omega
          | 5, _ => omega
          | i + 6, h => omega
        have hT := tab_ok ht cm
        have hW := tab_segW hK hT
        have hlen := hT.len
        have hr := runs_length l1 []
        have hr2 : (runsL l1).length ≤ l1.length := by simpa [runsL] using hr
        have hd := dur_ok ht (by omega) (k := K + 2 * l1.length + 400) (by omega)
        have e0 := end_ge L (runsL l1) 0
        have e1 : endOf L 0 (runsL l1) ≤ 2000 := by
          rcases ((tab_iff L (runsL l1) 0).1 (by rw [ht]; rfl)).2 with e | e
          · rw [e]
            show (0 : Int) ≤ 2000
            decide
          · exact e
        have hle := tab_le ht
        have hall : ∀ m ∈ l1, mayB m = true := List.all_eq_true.1 cm
        generalize endOf L 0 (runsL l1) = E at hd e0 e1 hle
        obtain ⟨tot, rfl⟩ : ∃ tot : Nat, E = (tot : Int) := ⟨E.toNat, by omega⟩
        have hend : ∀ (T : Nat) (i : Nat), i < 6 → tot ≤ T → T ≤ 3000 → posR q t T i = 12 * q i + 12 * net i l1 := fun T i h6 h1 h2 => by
          rw [posR_sum hL hq hW (by omega) T h6, sum_end hL (by omega) i t hW (fun s hs => by have := hle s hs; omega), tab_runs L _ 0 t ht, netR_runs]
        have hmv : ∀ i, i < 6 → Reach.mv q l1 i = q i + net i l1 := mv_net l1 q cm (fun i h6 => by have := hq i h6; omega)
        refine Reach.reach_main a0 a1 a2 L.v L.a L.j A1 c1 l1 q A3 c3 l3 w hr1 hc1 hr3 hc3 hhead hf (K + 2 * l1.length + 400) t hs (by omega) d1 d2 hj0 hj1 (small_ok hT (by omega) (by omega)) tot (by omega) hd (posR q t) (fun T hT' => ?_) (fun i h6 => ?_) (fun i h6 => ?_) (fun i h6 => ?_) (fun i hi => ?_) (fun n hn => ?_) (atR q t) (fun i h6 => ?_) (fun k hk => segs_ok hL hq hW hT.apart (by omega) (by omega) hk)
        · unfold timetable_PositionsAt.f
          rw [if_pos (pos_ok hT (by omega) (by omega) (by omega))]
          rfl
        · have hb2 := hq i h6
          rw [posR_sum hL hq hW (by omega) 0 h6, sum_none (T := ((0 : Nat) : Int)) i t (fun s hs => (hW s hs).lo), k64 (by omega) (by omega)]
          omega
        · have hb2 := hq i h6
          have hb3 := net_le i l1 cm
          rw [hend tot i h6 (by omega) (by omega), hmv i h6, k64 (by omega) (by omega)]
          omega
        · rw [hend tot i h6 (by omega) (by omega), hend (tot + 5) i h6 (by omega) (by omega)]
        · obtain ⟨a, j, ha, hj, ea, ej, _⟩ := cs_lt (hall l1[i] (List.getElem_mem hi))
          exact ⟨a, j, ha, hj, by rw [rdm_at hi]; exact ea, by rw [rdm_at hi]; exact ej⟩
        · have e : rd l3 (n : Int) = l3[n] := by
            unfold rd
            rw [Int.toNat_natCast, List.getD_eq_getElem?_getD, List.getElem?_eq_getElem hn]
            rfl
          rw [e]
          exact tick_in (h3 _ (List.getElem_mem hn)) (by omega)
        · unfold atR
          rw [List.take_zero]
          show q i + 0 = q i
          omega
  · rw [if_neg cm] at hs
    exact Reach.reach_early a0 a1 a2 L.v L.a L.j A1 c1 l1 q A3 c3 l3 w hr1 hc1 hhead hf _ _ 1 hs b0 b1 hj0 hj1 (Or.inr (Or.inr (Or.inr (Or.inr (by decide)))))
end Go.Proofs.Ytmmaodlngnjmlaa.Pure
namespace Go.Proofs.Ytmmaodlngnjmlaa.Pure
open Go Go.RowKit Go.Proofs.Ytmmaodlngnjmlaa.P Go.Proofs.YtmmaodlngnjmlaaW.PrintWords
/-- Six numbers by their places. -/
def q6 (a b c d e f : Int) : Nat → Int
  | 0 => a
  | 1 => b
  | 2 => c
  | 3 => d
  | 4 => e
  | _ => f
theorem reach_run (a0 a1 a2 : Int) (hb : ((0 ≤ a0 ∧ a0 ≤ 255) ∧ (0 ≤ a1 ∧ a1 ≤ 255)) ∧ (0 ≤ a2 ∧ a2 ≤ 255)) (A1 : Option Addr) (c1 : Nat) (l1 : List S63) (hl : l1.length ≤ 5864062014800) (q : Nat → Int) (A3 : Option Addr) (c3 : Nat) (l3 : List Int) (h3 : ∀ x ∈ l3, 0 ≤ x ∧ x ≤ 65535) (w : World) (hr1 : Kd.C k63 w A1 l1.length l1) (hc1 : l1.length ≤ c1) (hr3 : Kd.C (Kd.int .u16) w A3 l3.length l3) (hc3 : l3.length ≤ c3) :
    Calls Try.prog 8 #[.agg #[.int .u8 a0, .int .u8 a1, .int .u8 a2], .slice A1 l1.length c1, .agg (Reach.six q), .slice A3 l3.length c3] w fun e w' => e = .returned (.bool true) ∧ Below w.heap.size w w' := by
  obtain ⟨k, hk⟩ := Pure.head23
  exact Pure.reach_run0 a0 a1 a2 hb A1 c1 l1 hl q A3 c3 l3 h3 w hr1 hc1 hr3 hc3 (fun w => ambidexterlaw23_head.calls k true w hk)
end Go.Proofs.Ytmmaodlngnjmlaa.Pure
