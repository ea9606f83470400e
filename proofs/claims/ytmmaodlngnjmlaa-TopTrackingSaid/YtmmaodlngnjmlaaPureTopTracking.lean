/- A joint that executes the orders of its servo loop while the target follows a shortest profile is in the target's count after every tick. -/
import Derived.Test.YtmmaodlngnjmlaaXTop25
import Derived.Test.YtmmaodlngnjmlaaXServoStep
import Derived.Test.YtmmaodlngnjmlaaP7
namespace Go.Proofs.Ytmmaodlngnjmlaa.Pure
set_option linter.unusedSimpArgs false
set_option linter.unusedVariables false
open Go.RowKit Go.Proofs.Ytmmaodlngnjmlaa.P Go.Proofs.YtmmaodlngnjmlaaW.PrintWords Go.Proofs.YtmmaodlngnjmlaaW.PrintLast Go.Proofs.YtmmaodlngnjmlaaW.PrintMore Go.Proofs.Ytmmaodlngnjmlaa.Motion
abbrev st (x : Mo) : S33 := ⟨x.p, x.v, x.a⟩
theorem st_at {T : List Mo} {i : Nat} (hi : i < T.length) : rd_T33 (T.map st) (i : Int) = st T[i] := by
  unfold rd_T33
  rw [Int.toNat_natCast, List.getD_eq_getElem?_getD, List.getElem?_map, List.getElem?_eq_getElem hi]
  rfl
theorem wi23 {i n : Nat} (hn : n ≤ 1000000000000) (h : i < n) : wrap64 ((i : Int) + 1) = ((i + 1 : Nat) : Int) := by rw [w64 (by omega) (by omega)]; rfl
/-! ### The reference's play of the same jerks -/
theorem tick21 {L : Lm} (hL : ok L) {d : Int} (d1 : d ≤ 420) {m : Mo} (hm : may L d m) {j : Int} (hj : -L.j ≤ j ∧ j ≤ L.j) : ambidexterref21_Tick.f m.p m.v m.a j = some ((tick m j).p, (tick m j).v, (tick m j).a) := by
  unfold ok at hL
  unfold may at hm
  unfold ambidexterref21_Tick.f
  rw [w64 (x := m.a + j) (by omega) (by omega), w64 (x := m.v + (m.a + j)) (by omega) (by omega), w64 (x := m.p + (m.v + (m.a + j))) (by omega) (by omega)]
  rfl
theorem rd23 {l : List Int} {i : Nat} (h : i < l.length) : rd l (i : Int) = l[i] := by simp [rd, List.getD_eq_getElem?_getD, List.getElem?_eq_getElem h]
theorem plays_l0 {L : Lm} (hL : ok L) {d : Int} (d1 : d ≤ 420) {l : List Int} (hl : l.length ≤ 1000000) {g : Mo} : ∀ (n i : Nat) (m : Mo) (acc : List S33), i + n = l.length → may L d m → Path L d m (l.drop i) g → acc.length ≤ 1000000 + i →
    ambidexterref21_Plays.l0 (n + 1) l acc (i : Int) m.p m.v m.a = some (acc ++ (trace m (l.drop i)).map st)
  | 0, i, m, acc, h, hm, hp, ha => by
    rw [List.drop_of_length_le (by omega), ambidexterref21_Plays.l0, if_neg (by omega)]
    simp [trace]
  | n + 1, i, m, acc, h, hm, hp, ha => by
    have hi : i < l.length := by omega
    rw [List.drop_eq_getElem_cons hi] at hp ⊢
    obtain ⟨j0, j1, hm', hp'⟩ := hp
    have ih := plays_l0 hL d1 hl n (i + 1) (tick m l[i]) (acc ++ [st (tick m l[i])]) (by omega) hm' hp' (by simp; omega)
    have ht := tick21 hL d1 hm ⟨j0, j1⟩
    have c0 : (i : Int) < (l.length : Int) := by omega
    have c1 : acc.length < 5864062014805 := by omega
    rw [ambidexterref21_Plays.l0, if_pos c0, if_pos (Int.natCast_nonneg i), rd23 hi, ht, Option.bind_some, if_pos c1, wi23 (by omega) hi]
    refine ih.trans ?_
    simp [trace, st]
theorem same21_l0 {T : List S33} (hl : T.length ≤ 1000000) : ∀ (n i : Nat), i + n = T.length → ambidexterref21_Same.l0 (n + 1) T T (i : Int) = some true
  | 0, i, h => by rw [ambidexterref21_Same.l0, if_neg (by omega)]
  | n + 1, i, h => by
    have c0 : (i : Int) < (T.length : Int) := by omega
    rw [ambidexterref21_Same.l0, if_pos c0, if_pos (Int.natCast_nonneg i), if_pos c0, if_neg (by simp), wi23 (by omega) (show i < T.length by omega)]
    exact same21_l0 hl n (i + 1) (by omega)

/-! ### One tick -/
/-- The estimate is the begin of the joint's count. -/
structure On (i : Nat) (p x : Int) (s : Sv) : Prop where
  bd : Bd i s
  at_ : x / 16 = p
  est : 16 * s.c + s.m = 16 * p
  l : s.l = false
  g0 : 0 ≤ s.g
  g6 : s.g ≤ 6
theorem on_next {i : Nat} {p x t k n V : Int} {s : Sv} (h : On i p x s) (hV : V ≤ 8) (h0 : -V ≤ t - p) (h1 : t - p ≤ V) (hn : -1048576 ≤ n ∧ n ≤ 1048576) (hk : k = 1 → n = p) (hk2 : k ≠ 1 → s.g < 6) :
    On (i + 1) t (x + (period s k n t).o) (period s k n t) ∧ (period s k n t).o = 16 * (t - p) ∧ (period s k n t).g = if k = 1 then 0 else s.g + 1 := by
  obtain ⟨hb, ha, he, hl, g0, g6⟩ := h
  have hb2 := hb.next (k := k) (n := n) (t := t) hn
  have e1 : 16 * (hear s k n).c + (hear s k n).m = 16 * p := by
    unfold hear
    by_cases c : k = 1
    · rw [if_pos c, hk c]; dsimp only; omega
    · rw [if_neg c]; exact he
  have e2 : (hear s k n).l = false := by
    unfold hear
    by_cases c : k = 1
    · rw [if_pos c]; exact hl
    · have := hk2 c
      rw [if_neg c]
      simp [hl]
      omega
  have e3 : (period s k n t).o = 16 * (t - p) := by
    show say (hear s k n) t = _
    unfold say
    rw [if_neg (by rw [e2]; decide)]
    have : far (hear s k n) t = 16 * (t - p) := by unfold far; omega
    rw [this]
    unfold clamp
    rw [if_neg (by omega), if_neg (by omega)]
  have e4 : (period s k n t).g = if k = 1 then 0 else s.g + 1 := by
    show (hear s k n).g = _
    unfold hear
    split <;> rfl
  refine ⟨⟨hb2, by rw [e3]; omega, ?_, e2, ?_, ?_⟩, e3, e4⟩
  · show 16 * (hear s k n).c + ((hear s k n).m + (period s k n t).o) = 16 * t
    rw [e3]
    omega
  · rw [e4]; split <;> omega
  · rw [e4]
    by_cases c : k = 1
    · rw [if_pos c]; omega
    · have := hk2 c
      rw [if_neg c]; omega
theorem take_tick (l : List Int) (i : Nat) (h : i < l.length) : run zero (l.take (i + 1)) = tick (run zero (l.take i)) l[i] := by
  rw [List.take_succ_eq_append_getElem h, run_snoc]
set_option maxHeartbeats 1000000 in
theorem track_l0 {L : Lm} (hL : ok L) {d : Int} (d0 : 0 ≤ d) (d1 : d ≤ 420) {l : List Int} (hl : l.length ≤ 100000) (hp : Path L d zero l (goal d)) {kinds : List Int} (hkn : kinds.length ≤ maxLen) (hks : ∀ y ∈ kinds, (Lit.int .u8 y).wf = true) :
    ∀ (n i : Nat) (x last : Int) (s : Sv), i + n = l.length → On i (run zero (l.take i)).p x s → 0 ≤ last → last ≤ 420 →
      ambidextertop_TopTracking.l0 (5 * n + 1) kinds true d ((trace zero l).map st) x last s.g (i : Int) L.v L.a L.j s.c s.m s.g s.o s.l = some true
  | 0, i, x, last, s, h, ho, _, _ => by
    have htl := trace_length l zero
    have e : l.take i = l := List.take_of_length_le (by omega)
    have hx := ho.at_
    rw [e, hp.run] at hx
    have hx' : x / 16 = d := hx
    rw [ambidextertop_TopTracking.l0, if_neg (by rw [List.length_map]; omega), if_pos rfl, quant (by omega) (by omega), hx']
    simp
  | n + 1, i, x, last, s, h, ho, l0, l1 => by
    have hb := hL
    unfold ok at hb
    have htl := trace_length l zero
    have hi : i < l.length := by omega
    have hiT : i < (trace zero l).length := by omega
    have ht := trace_at l zero i hiT
    have hpath : ∀ q, may L d (run zero (l.take q)) := by
      intro q
      have h1 := hp
      rw [← List.take_append_drop q l] at h1
      exact Path.may_end (may_zero hL d0) h1.split.1
    have hm0 := hpath i
    have hm1 := hpath (i + 1)
    have et := take_tick l i hi
    obtain ⟨p, hpe⟩ : ∃ p, p = (run zero (l.take i)).p := ⟨_, rfl⟩
    obtain ⟨t, hte⟩ : ∃ t, t = (run zero (l.take (i + 1))).p := ⟨_, rfl⟩
    have hv : t - p = (run zero (l.take (i + 1))).v := by
      rw [hpe, hte, et]
      simp only [tick]
      omega
    unfold may at hm0 hm1
    have tp0 : -L.v ≤ t - p := by omega
    have tp1 : t - p ≤ L.v := by omega
    have p0 : 0 ≤ p ∧ p ≤ 420 := by omega
    have t0 : 0 ≤ t ∧ t ≤ 420 := by omega
    have hT : (rd_T33 ((trace zero l).map st) (i : Int)).f0 = t := by rw [st_at hiT, ht, hte]
    rw [← hpe] at ho
    have hx := ho.at_
    have xr : 0 ≤ x ∧ x ≤ 10000 := by omega
    have hg0 := ho.g0
    have hg6 := ho.g6
    -- the step, whatever the sample
    have step : ∀ (k m last' : Int), (k = 1 → m = p) → (k ≠ 1 → s.g < 6) → 0 ≤ m → m ≤ 420 → 0 ≤ last' → last' ≤ 420 →
        ambidextertop_TopTracking.j4 (5 * n + 3) kinds true d ((trace zero l).map st) x last' (if k = 1 then 0 else s.g + 1) (i : Int) k m L.v L.a L.j s.c s.m s.g s.o s.l = some true := by
      intro k m last' h1 h2 m0 m1 q0 q1
      obtain ⟨hn, eo, eg⟩ := on_next ho (t := t) (k := k) (n := m) (V := L.v) (by omega) tp0 tp1 ⟨by omega, by omega⟩ h1 h2
      have ih := track_l0 hL d0 d1 hl hp hkn hks n (i + 1) (x + (period s k m t).o) last' (period s k m t) (by omega) (by rw [← hte]; exact hn) q0 q1
      have hst := step_eq (i := i) (by omega) ho.bd (k := k) (n := m) (t := t) ⟨by omega, by omega⟩ ⟨by omega, by omega⟩
      have hq := quant (x := x + (period s k m t).o) (by omega) (by omega)
      have hat := hn.at_
      have hpl := hn.l
      have c0 : (i : Int) < (((trace zero l).map st).length : Int) := by rw [List.length_map]; omega
      have c1 : ¬ (period s k m t).o > 16 * L.v := by omega
      have c2 : ¬ (period s k m t).o < -16 * L.v := by omega
      have e1 : wrap64 (16 * L.v) = 16 * L.v := w64 (by omega) (by omega)
      have e2 : wrap64 (-16 * L.v) = -16 * L.v := by clear e1; exact w64 (by omega) (by omega)
      have e3 : wrap64 (x + (period s k m t).o) = x + (period s k m t).o := by clear e1 e2; exact w64 (by omega) (by omega)
      rw [eg] at ih
      rw [ambidextertop_TopTracking.j4, if_pos (Int.natCast_nonneg i), if_pos c0, hT, hst, Option.bind_some]
      simp only [hpl]
      rw [if_neg Bool.false_ne_true, e1, if_neg c1, e2, decide_eq_false c2, ambidextertop_TopTracking.j5, if_neg Bool.false_ne_true, e3, hq, Option.bind_some, if_pos (Int.natCast_nonneg i), if_pos c0, hT, if_pos hat, wi23 (by clear e1 e2 e3; omega) hi]
      rw [hpl] at ih
      rw [eg]
      exact ih
    have j3 : ∀ (k m : Int), (k = 1 → m = p) → (k ≠ 1 → s.g < 6) → 0 ≤ m → m ≤ 420 → ambidextertop_TopTracking.j3 (5 * n + 4) kinds true d ((trace zero l).map st) x last s.g (i : Int) k m L.v L.a L.j s.c s.m s.g s.o s.l = some true := by
      intro k m h1 h2 m0 m1
      rw [ambidextertop_TopTracking.j3]
      by_cases c : k = 1
      · have := step k m m h1 h2 m0 m1 m0 m1
        rw [if_pos c] at this
        rw [if_pos c]
        exact this
      · have := step k m last h1 h2 m0 m1 l0 l1
        rw [if_neg c] at this
        have e1 : wrap64 (s.g + 1) = s.g + 1 := w64 (by omega) (by omega)
        rw [if_neg c, e1]
        exact this
    have hq := quant (x := x) (by omega) (by omega)
    have good : ∀ b, b = false → ambidextertop_TopTracking.j2 (5 * n + 5) kinds true d ((trace zero l).map st) x last s.g (i : Int) 1 (x / 16) b L.v L.a L.j s.c s.m s.g s.o s.l = some true := by
      intro b hb
      rw [ambidextertop_TopTracking.j2, hb, if_neg Bool.false_ne_true]
      exact j3 1 (x / 16) (fun _ => hx) (fun e => absurd rfl e) (by omega) (by omega)
    have c0 : (i : Int) < (((trace zero l).map st).length : Int) := by rw [List.length_map]; omega
    rw [show 5 * (n + 1) + 1 = (5 * n + 5) + 1 by omega, ambidextertop_TopTracking.l0, if_pos c0, hq, Option.bind_some]
    by_cases ck : (i : Int) < (kinds.length : Int)
    · have hki : i < kinds.length := by omega
      have hw := bounds_u8 (hks _ (List.getElem_mem hki))
      rw [if_pos ck, if_pos (Int.natCast_nonneg i), rd23 hki]
      by_cases c3 : Int.tmod kinds[i] 3 > 0
      · rw [if_pos c3]
        by_cases c6 : s.g < 6
        · have e0 : wrap64 kinds[i] = kinds[i] := w64 (by omega) (by omega)
          have h3 : Int.tmod kinds[i] 3 = kinds[i] % 3 := Int.tmod_eq_emod_of_nonneg (by omega)
          have e1 : wrap64 (1 + Int.tmod kinds[i] 3) = 1 + Int.tmod kinds[i] 3 := by clear e0; rw [h3]; exact w64 (by omega) (by omega)
          have ne : 1 + Int.tmod kinds[i] 3 ≠ 1 := by clear e0 e1; omega
          rw [decide_eq_true c6, ambidextertop_TopTracking.j2, if_pos rfl, if_pos (Int.natCast_nonneg i), if_pos ck, rd23 hki, e0, e1]
          exact j3 _ last (fun e => absurd e ne) (fun _ => c6) l0 l1
        · rw [decide_eq_false c6]
          exact good false rfl
      · rw [if_neg c3]
        exact good false rfl
    · rw [if_neg ck]
      exact good false rfl
theorem TopTracking : ∀ (a0 : Int) (a1 : Int) (a2 : Int) (a3 : Int) (a4 : Int) (l5 : List Int), (Lit.int .u8 a0).wf = true → (Lit.int .u8 a1).wf = true → (Lit.int .u8 a2).wf = true → (Lit.int .u16 a3).wf = true → (Lit.int .u8 a4).wf = true → (l5.length ≤ maxLen ∧ ∀ y0_ ∈ l5, (Lit.int .u8 y0_).wf = true) → ∃ k, ambidextertop_TopTracking.f k a0 a1 a2 a3 a4 l5 = some true := by
  intro a0 a1 a2 a3 a4 kinds h0 h1 h2 h3 h4 h5
  obtain ⟨L, eL, hL⟩ := lim14 h0 h1 h2
  obtain ⟨d, ed, d0, d1⟩ := tmod16 h3 421 (by omega)
  obtain ⟨x, ex, x0, x1⟩ := tmod8 h4 16 (by omega)
  have hz := may_zero hL d0
  rcases profile_ok hL d0 (by omega) with ⟨l, K, hK, hB⟩ | ⟨⟨K, hK⟩, hno⟩
  · have hlen := best_len hL d0 (by omega) hB
    have htl := trace_length l zero
    have hs : profile_Simulate.f 0 0 0 l = some ((trace zero l).map st) := simulate_path hL (d := d) (by omega) (by omega) hz hB.1
    have hpl : ambidexterref21_Plays.l0 (l.length + 1) l [] 0 0 0 0 = some ((trace zero l).map st) := plays_l0 hL (d := d) (by omega) (l := l) (by omega) (g := goal d) l.length 0 zero [] (by omega) hz hB.1 (by simp)
    have hsm := same21_l0 (T := (trace zero l).map st) (by simp; omega) (trace zero l).length 0 (by simp)
    have htr := track_l0 hL d0 (by omega) hlen hB.1 h5.1 h5.2 l.length 0 x (x / 16) ⟨x / 16, 0, 0, 0, false⟩ (by omega) ⟨new_bd (by omega) (by omega), by show x / 16 = 0; omega, by show 16 * (x / 16) + 0 = 16 * 0; omega, rfl, Int.le_refl _, by dsimp only; omega⟩ (by omega) (by omega)
    obtain ⟨q, hq⟩ : ∃ q, q = max (max K25 K) (5 * l.length + 1) := ⟨_, rfl⟩
    refine ⟨q + 1, ?_⟩
    have e1 := at_rounds (fun k' => ambidexterref21_Plays.mono_l k' _ _ _ _ _ _) (show l.length + 1 ≤ q + 1 by omega) hpl
    have e2 := at_rounds (fun k' => ambidexterref21_Same.mono_l k' _ _ _) (show (trace zero l).length + 1 ≤ q + 1 by omega) hsm
    have e3 := at_rounds (fun k' => (ambidextertop_TopTracking.mono_l k').2.1 _ _ _ _ _ _ _ _ _ _ _ _ _ _ _ _) (show 5 * l.length + 1 ≤ q by omega) htr
    unfold ambidextertop_TopTracking.f
    rw [head25 (by omega), eL, ed]
    simp only [Option.bind_some]
    rw [hK _ (by omega)]
    simp only [Option.bind_some]
    rw [if_pos trivial, hs]
    simp only [Option.bind_some]
    rw [if_pos (by rw [List.length_map]; omega), ambidexterref21_Plays.f, e1]
    simp only [Option.bind_some]
    rw [ambidexterref21_Same.f, if_pos rfl]
    rw [show ambidexterref21_Same.l0 (q + 1) ((trace zero l).map st) ((trace zero l).map st) 0 = some true from e2]
    simp only [Option.bind_some]
    rw [ambidextertop_TopTracking.j0, if_neg (by decide), ex, quant (by omega) (by omega)]
    simp only [Option.bind_some]
    rw [snew (by omega) (by omega)]
    exact e3
  · refine ⟨max K25 K, ?_⟩
    unfold ambidextertop_TopTracking.f
    rw [head25 (by omega), eL, ed]
    simp only [Option.bind_some]
    rw [hK _ (by omega)]
    rfl
end Go.Proofs.Ytmmaodlngnjmlaa.Pure
