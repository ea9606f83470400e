/- A timetable's duration, its end, one joint a tick, within the speed limit. -/
import Derived.Test.YtmmaodlngnjmlaaXWay23
import Derived.Test.YtmmaodlngnjmlaaXRunsR23
import Derived.Test.YtmmaodlngnjmlaaXSegs23
import Derived.Test.YtmmaodlngnjmlaaXSix23
import Derived.Test.YtmmaodlngnjmlaaP22
import Derived.IntWalk
import Derived.OpenShut
namespace Go.Proofs.Ytmmaodlngnjmlaa.Pure
set_option linter.unusedSimpArgs false
set_option linter.unusedVariables false
open Go Go.RowKit Go.Proofs.Ytmmaodlngnjmlaa.P Go.Proofs.YtmmaodlngnjmlaaW.PrintWords Go.Proofs.YtmmaodlngnjmlaaW.PrintLast Go.Proofs.YtmmaodlngnjmlaaW.PrintMore Go.Proofs.Ytmmaodlngnjmlaa.Motion
def up6 (o : Nat → Int) (n u : Int) : Nat → Int := fun p => dset n (p : Int) u (o p)
theorem up6_at (o : Nat → Int) (n : Nat) (u : Int) (p : Nat) : up6 o (n : Int) u p = if n = p then u else o p := by
  unfold up6 dset
  by_cases c : n = p
  · rw [if_pos c, if_pos (by omega)]
  · rw [if_neg c, if_neg (by omega)]
def fq (x : Int) : Int := wrap64 ((Int.tmod (wrap64 x) 36) - 17)
theorem fq_bound {x : Int} (h0 : 0 ≤ x) (h1 : x ≤ 255) : -17 ≤ fq x ∧ fq x ≤ 18 := by
  unfold fq
  rw [k64 (x := x) (by omega) (by omega), Int.tmod_eq_emod_of_nonneg (by omega), k64 (by omega) (by omega)]
  omega
theorem tt_l0 (l : List Mv) (t : List Sg) (v a j : Int) (q : Nat → Int) (hq : ∀ p, p < 6 → 0 ≤ q p ∧ q p ≤ 255) (k : Nat) : ∀ (m i : Nat) (o : Nat → Int), i + m = 6 → (∀ p, p < i → -17 ≤ o p ∧ o p ≤ 18) →
    ∃ o' : Nat → Int, (∀ p, p < 6 → -17 ≤ o' p ∧ o' p ≤ 18) ∧ ambidextertop_TopTimetable.l0 (k + m) l true t (i : Int) (q 0) (q 1) (q 2) (q 3) (q 4) (q 5) v a j (o 0) (o 1) (o 2) (o 3) (o 4) (o 5) = ambidextertop_TopTimetable.l0 k l true t 6 (q 0) (q 1) (q 2) (q 3) (q 4) (q 5) v a j (o' 0) (o' 1) (o' 2) (o' 3) (o' 4) (o' 5)
  | 0, i, o, h, hb => by
    have e : i = 6 := by omega
    subst e
    exact ⟨o, hb, rfl⟩
  | m + 1, i, o, h, hb => by
    have hi : i < 6 := by omega
    obtain ⟨i1, i2, i3, i4, i5⟩ := ix6 hi
    have hf := fq_bound (hq i hi).1 (hq i hi).2
    obtain ⟨o', h1, h2⟩ := tt_l0 l t v a j q hq k m (i + 1) (up6 o (i : Int) (fq (q i))) (by omega) (fun p hp => by
      rw [up6_at]
      by_cases c : i = p
      · rw [if_pos c]
        exact hf
      · rw [if_neg c]
        exact hb p (by omega))
    refine ⟨o', h1, Eq.trans ?_ h2⟩
    have e6 : (i : Int) < 6 := by omega
    show ambidextertop_TopTimetable.l0 (k + m + 1) l true t (i : Int) _ _ _ _ _ _ v a j _ _ _ _ _ _ = _
    rw [ambidextertop_TopTimetable.l0, if_pos e6, if_pos i1, if_pos i2, if_pos i3, if_pos i4, i5, dget_of q hi, kn1 (i := i) (n := 6) (by omega) hi]
    rfl
theorem tt_l1 {L : Lm} {K : Nat} (hK : ∀ n : Int, 1 ≤ n → n ≤ 35 → Fuel L K n) {l : List Mv} {R : List Rn} {t : List Sg} (hR : R.length ≤ 1000) (ht : tab L 0 R = some t) (hr : ∀ r ∈ R, 1 ≤ r.f1) (B : Nat) (hB : K ≤ B) (o0 o1 o2 o3 o4 o5 : Int) : ∀ (m i : Nat), i + m = R.length →
    ambidextertop_TopTimetable.l1 (B + m + 1) l true t R (endOf L 0 (R.take i)) (i : Int) L.v L.a L.j o0 o1 o2 o3 o4 o5 = ambidextertop_TopTimetable.l2 B l true t R (endOf L 0 R) 0 L.v L.a L.j o0 o1 o2 o3 o4 o5 o0 o1 o2 o3 o4 o5
  | 0, i, h => by
    rw [ambidextertop_TopTimetable.l1, if_neg (by omega), List.take_of_length_le (by omega)]
  | m + 1, i, h => by
    have hi : i < R.length := by omega
    have hlen := tab_len L R 0 t ht
    have hit : i < t.length := by omega
    have hseg := (tab_all L R 0 t ht hr).1 t[i] (List.getElem_mem hit)
    have hat := tab_at L R 0 t ht i hi hit
    have hn1 := hseg.n1
    have hn2 := hseg.n2
    have hhi := hseg.hi
    have hlo := hseg.lo
    rw [hat] at hn1 hn2 hhi hlo
    dsimp only at hn1 hn2 hhi hlo
    obtain ⟨p1, p2, p3⟩ := hK R[i].f1 hn1 hn2
    have e : wrap64 (R[i].f1 * 12) = 12 * R[i].f1 := by rw [k64 (by omega) (by omega)]; omega
    have ed : mintime_Duration.f (B + m + 1) L.v L.a L.j (12 * R[i].f1) = some (((pr L R[i].f1).length : Int), true) := duration (p1 _ (by omega))
    have ee : endOf L 0 (R.take (i + 1)) = endOf L 0 (R.take i) + ((pr L R[i].f1).length : Int) := by
      rw [List.take_add_one, List.getElem?_eq_getElem hi, Option.toList_some, end_app]
      rfl
    have ih := tt_l1 (l := l) hK hR ht hr B hB o0 o1 o2 o3 o4 o5 m (i + 1) (by omega)
    show ambidextertop_TopTimetable.l1 (B + m + 1 + 1) l true t R (endOf L 0 (R.take i)) (i : Int) L.v L.a L.j o0 o1 o2 o3 o4 o5 = _
    rw [ambidextertop_TopTimetable.l1, if_pos (by omega), if_pos (by omega), rdr_at hi, e, ed, Option.bind_some, if_pos rfl, if_neg (by omega), if_pos (by omega), rds_at hit, hat]
    rw [if_pos rfl, if_pos rfl, k64 (by omega) (by omega), kn1 (i := i) (n := R.length) (by omega) hi, ← ee]
    exact ih
theorem cs_lt {m : Mv} (h : mayB m = true) : cs m < 6 ∧ m.f0 * 3 + m.f1 = (cs m : Int) := by
  obtain ⟨m1, m2, _⟩ := may_iff h
  unfold cs
  omega
theorem tt_l2 (t : List Sg) (R : List Rn) (x v a j o0 o1 o2 o3 o4 o5 : Int) {l : List Mv} (hl : l.length ≤ 1000) (hm : ∀ y ∈ l, mayB y = true) (B : Nat) : ∀ (m i : Nat) (e : Nat → Int), i + m = l.length → (∀ p, p < 6 → -(100 + (i : Int)) ≤ e p ∧ e p ≤ 100 + (i : Int)) →
    ∃ e' : Nat → Int, (∀ p, p < 6 → e' p = e p + net p (l.drop i)) ∧ ambidextertop_TopTimetable.l2 (B + m + 1) l true t R x (i : Int) v a j o0 o1 o2 o3 o4 o5 (e 0) (e 1) (e 2) (e 3) (e 4) (e 5) = ambidextertop_TopTimetable.l2 (B + 1) l true t R x (l.length : Int) v a j o0 o1 o2 o3 o4 o5 (e' 0) (e' 1) (e' 2) (e' 3) (e' 4) (e' 5)
  | 0, i, e, h, _ => by
    have e1 : i = l.length := by omega
    subst e1
    exact ⟨e, fun p _ => by rw [List.drop_length]; simp [net], rfl⟩
  | m + 1, i, e, h, hb => by
    have hi : i < l.length := by omega
    have hy := hm l[i] (List.getElem_mem hi)
    obtain ⟨m1, m2, m3⟩ := may_iff hy
    obtain ⟨c1, c2⟩ := cs_lt hy
    have hbc := hb (cs l[i]) c1
    have eu : wrap64 (e (cs l[i]) + l[i].f2) = e (cs l[i]) + l[i].f2 := by
      rcases m3 with e3 | e3 <;> rw [e3] <;> rw [k64 (by omega) (by omega)]
    obtain ⟨e', h1, h2⟩ := tt_l2 t R x v a j o0 o1 o2 o3 o4 o5 hl hm B m (i + 1) (up6 e (cs l[i] : Int) (e (cs l[i]) + l[i].f2)) (by omega) (fun p hp => by
      have hbp := hb p hp
      rw [up6_at]
      by_cases c : cs l[i] = p
      · rw [if_pos c]
        rcases m3 with e3 | e3 <;> rw [e3] <;> omega
      · rw [if_neg c]
        omega)
    refine ⟨e', fun p hp => ?_, Eq.trans ?_ h2⟩
    · rw [h1 p hp, up6_at, List.drop_eq_getElem_cons hi, net]
      by_cases c : cs l[i] = p
      · rw [if_pos c, if_pos c.symm, c]
        omega
      · rw [if_neg c, if_neg (fun h => c h.symm)]
        omega
    · show ambidextertop_TopTimetable.l2 (B + m + 1 + 1) l true t R x (i : Int) v a j o0 o1 o2 o3 o4 o5 _ _ _ _ _ _ = _
      rw [ambidextertop_TopTimetable.l2, if_pos (by omega), if_pos (by omega), rdm_at hi, if_pos (by omega), if_pos (by omega), if_pos (by omega), if_pos (by omega), c2, dget_of e c1, eu, kn1 (i := i) (n := l.length) (by omega) hi]
      rfl
theorem tt_l4 (t : List Sg) (x y : Int) {L : Lm} (hL : ok L) (o0 o1 o2 o3 o4 o5 e0 e1 e2 e3 e4 e5 : Int) (w z : Nat → Int) (c : Nat) (dv : Int) (d0 : -L.v ≤ dv) (d1 : dv ≤ L.v) (hd : ∀ p, p < 6 → z p - w p = if p = c then dv else 0) (hw : ∀ p, p < 6 → -1000000 ≤ w p ∧ w p ≤ 1000000) (k : Nat) : ∀ (m i : Nat) (g : Int), i + m = 6 → 0 ≤ g → (g ≤ if c < i then 1 else 0) →
    ∃ g' : Int, 0 ≤ g' ∧ g' ≤ 1 ∧ ambidextertop_TopTimetable.l4 (k + 2 * m + 1) true t x y g (i : Int) L.v L.a L.j o0 o1 o2 o3 o4 o5 e0 e1 e2 e3 e4 e5 (w 0) (w 1) (w 2) (w 3) (w 4) (w 5) (z 0) (z 1) (z 2) (z 3) (z 4) (z 5) = ambidextertop_TopTimetable.l4 (k + 1) true t x y g' 6 L.v L.a L.j o0 o1 o2 o3 o4 o5 e0 e1 e2 e3 e4 e5 (w 0) (w 1) (w 2) (w 3) (w 4) (w 5) (z 0) (z 1) (z 2) (z 3) (z 4) (z 5)
  | 0, i, g, h, g0, g1 => by
    have e : i = 6 := by omega
    subst e
    exact ⟨g, g0, by split at g1 <;> omega, rfl⟩
  | m + 1, i, g, h, g0, g1 => by
    have hb := hL
    unfold ok at hb
    have hi : i < 6 := by omega
    obtain ⟨i1, i2, i3, i4, i5⟩ := ix6 hi
    have hdi := hd i hi
    have hwi := hw i hi
    have ed : wrap64 (z i - w i) = z i - w i := by
      by_cases ci : i = c
      · rw [if_pos ci] at hdi
        exact k64 (by omega) (by omega)
      · rw [if_neg ci] at hdi
        exact k64 (by omega) (by omega)
    have ev : wrap64 (-L.v) = -L.v := k64 (by omega) (by omega)
    have hgt : ¬ z i - w i > L.v := by
      rw [hdi]
      split <;> omega
    have hlt : decide (z i - w i < -L.v) = false := decide_eq_false (by
      rw [hdi]
      split <;> omega)
    have e6 : (i : Int) < 6 := by omega
    have hstep : ambidextertop_TopTimetable.l4 (k + 2 * (m + 1) + 1) true t x y g (i : Int) L.v L.a L.j o0 o1 o2 o3 o4 o5 e0 e1 e2 e3 e4 e5 (w 0) (w 1) (w 2) (w 3) (w 4) (w 5) (z 0) (z 1) (z 2) (z 3) (z 4) (z 5) = if z i - w i = 0 then ambidextertop_TopTimetable.l4 (k + 2 * m + 1) true t x y g ((i + 1 : Nat) : Int) L.v L.a L.j o0 o1 o2 o3 o4 o5 e0 e1 e2 e3 e4 e5 (w 0) (w 1) (w 2) (w 3) (w 4) (w 5) (z 0) (z 1) (z 2) (z 3) (z 4) (z 5) else ambidextertop_TopTimetable.l4 (k + 2 * m + 1) true t x y (wrap64 (g + 1)) ((i + 1 : Nat) : Int) L.v L.a L.j o0 o1 o2 o3 o4 o5 e0 e1 e2 e3 e4 e5 (w 0) (w 1) (w 2) (w 3) (w 4) (w 5) (z 0) (z 1) (z 2) (z 3) (z 4) (z 5) := by
      show ambidextertop_TopTimetable.l4 (k + 2 * m + 1 + 1 + 1) true t x y g (i : Int) L.v L.a L.j o0 o1 o2 o3 o4 o5 e0 e1 e2 e3 e4 e5 (w 0) (w 1) (w 2) (w 3) (w 4) (w 5) (z 0) (z 1) (z 2) (z 3) (z 4) (z 5) = _
      rw [ambidextertop_TopTimetable.l4, if_pos e6, if_pos i1, if_pos i2, if_pos i3, if_pos i4, i5, dget_of z hi, dget_of w hi, ed, if_neg hgt, ev, hlt, ambidextertop_TopTimetable.j6, if_neg (by decide), kn1 (i := i) (n := 6) (by omega) hi]
    rw [hstep]
    by_cases cz : z i - w i = 0
    · rw [if_pos cz]
      exact tt_l4 t x y hL o0 o1 o2 o3 o4 o5 e0 e1 e2 e3 e4 e5 w z c dv d0 d1 hd hw k m (i + 1) g (by omega) g0 (by
        by_cases c1 : c < i
        · rw [if_pos c1] at g1
          rw [if_pos (by omega)]
          exact g1
        · rw [if_neg c1] at g1
          split <;> omega)
    · have ci : i = c := Classical.byContradiction fun h' => cz (by rw [hdi, if_neg h'])
      have c1 : ¬ c < i := by omega
      rw [if_neg c1] at g1
      have eg : wrap64 (g + 1) = 1 := by
        have e0 : g = 0 := by omega
        rw [e0, k64 (by omega) (by omega)]
        rfl
      rw [if_neg cz, eg]
      exact tt_l4 t x y hL o0 o1 o2 o3 o4 o5 e0 e1 e2 e3 e4 e5 w z c dv d0 d1 hd hw k m (i + 1) 1 (by omega) (by omega) (by rw [if_pos (by omega)]; omega)
theorem tt_l5 (e w : Nat → Int) (he : ∀ p, p < 6 → -1000000 ≤ e p ∧ e p ≤ 1000000) (hw : ∀ p, p < 6 → w p = 12 * e p) (k : Nat) : ∀ (m i : Nat), i + m = 6 → ambidextertop_TopTimetable.l5 (k + m + 1) true (i : Int) (e 0) (e 1) (e 2) (e 3) (e 4) (e 5) (w 0) (w 1) (w 2) (w 3) (w 4) (w 5) = some true
  | 0, i, h => by
    have e1 : i = 6 := by omega
    subst e1
    rw [ambidextertop_TopTimetable.l5, if_neg (by decide)]
  | m + 1, i, h => by
    have hi : i < 6 := by omega
    obtain ⟨i1, i2, i3, i4, i5⟩ := ix6 hi
    have hei := he i hi
    have e6 : (i : Int) < 6 := by omega
    show ambidextertop_TopTimetable.l5 (k + m + 1 + 1) true (i : Int) (e 0) (e 1) (e 2) (e 3) (e 4) (e 5) (w 0) (w 1) (w 2) (w 3) (w 4) (w 5) = _
    rw [ambidextertop_TopTimetable.l5, if_pos e6, if_pos i1, if_pos i2, if_pos i3, if_pos i4, i5, dget_of w hi, dget_of e hi, k64 (by omega) (by omega), if_pos (hw i hi), kn1 (i := i) (n := 6) (by omega) hi]
    exact tt_l5 e w he hw k m (i + 1) (by omega)
/-- The positions at a tick. -/
def pos6 (o : Nat → Int) (t : List Sg) (T : Int) : Nat → Int := timetable_PositionsAt.o (o 0) (o 1) (o 2) (o 3) (o 4) (o 5) t T
theorem pos6_sum {L : Lm} (hL : ok L) {t : List Sg} (hs : ∀ s ∈ t, SegW L s) (hl : t.length ≤ 1000) (o : Nat → Int) (ho : ∀ p, p < 6 → -17 ≤ o p ∧ o p ≤ 18) (T : Int) {p : Nat} (hp : p < 6) : pos6 o t T p = 12 * o p + sumW T p t := by
  have eq : timetable_PositionsAt.q (o 0) (o 1) (o 2) (o 3) (o 4) (o 5) p = o p := by
    match p, hp with
    | 0, _ => rfl
    | 1, _ => rfl
    | 2, _ => rfl
    | 3, _ => rfl
    | 4, _ => rfl
    | 5, _ => rfl
    | k + 6, h => omega
  have hb := ho p hp
  have ew : wrap64 (timetable_PositionsAt.q (o 0) (o 1) (o 2) (o 3) (o 4) (o 5) p * 12) = 12 * o p := by
    rw [eq, k64 (by omega) (by omega)]
    omega
  unfold pos6 timetable_PositionsAt.o
  rw [fold_sum hL T p t _ hs hl (by rw [ew]; omega), ew]
theorem pos6_f {L : Lm} {l : List Mv} {t : List Sg} (h : TabOk L l t) (hl : l.length ≤ 1000) (o : Nat → Int) {T : Int} (T0 : 0 ≤ T) (T1 : T ≤ 1000000) : timetable_PositionsAt.f (o 0) (o 1) (o 2) (o 3) (o 4) (o 5) t T = some (pos6 o t T 0, pos6 o t T 1, pos6 o t T 2, pos6 o t T 3, pos6 o t T 4, pos6 o t T 5) := by
  unfold timetable_PositionsAt.f
  rw [if_pos (pos_ok h hl T0 T1)]
  rfl
theorem tt_l3 {L : Lm} (hL : ok L) {l : List Mv} {t : List Sg} (h : TabOk L l t) (hs : ∀ s ∈ t, SegW L s) (hl : l.length ≤ 100) (o : Nat → Int) (ho : ∀ p, p < 6 → -17 ≤ o p ∧ o p ≤ 18) (tot : Nat) (htot : tot ≤ 2000) (e0 e1 e2 e3 e4 e5 : Int) (B : Nat) : ∀ (m T : Nat), T + m = tot + 2 → 1 ≤ T →
    ambidextertop_TopTimetable.l3 (B + 14 * m + 1) true t (tot : Int) (T : Int) L.v L.a L.j (o 0) (o 1) (o 2) (o 3) (o 4) (o 5) e0 e1 e2 e3 e4 e5 (pos6 o t ((T : Int) - 1) 0) (pos6 o t ((T : Int) - 1) 1) (pos6 o t ((T : Int) - 1) 2) (pos6 o t ((T : Int) - 1) 3) (pos6 o t ((T : Int) - 1) 4) (pos6 o t ((T : Int) - 1) 5) = ambidextertop_TopTimetable.l5 B true 0 e0 e1 e2 e3 e4 e5 (pos6 o t ((tot : Int) + 1) 0) (pos6 o t ((tot : Int) + 1) 1) (pos6 o t ((tot : Int) + 1) 2) (pos6 o t ((tot : Int) + 1) 3) (pos6 o t ((tot : Int) + 1) 4) (pos6 o t ((tot : Int) + 1) 5)
  | 0, T, hT, h1 => by
    have w : wrap64 ((tot : Int) + 1) = (tot : Int) + 1 := k64 (by omega) (by omega)
    have e : (T : Int) - 1 = (tot : Int) + 1 := by omega
    rw [ambidextertop_TopTimetable.l3, w, if_neg (by omega), e]
  | m + 1, T, hT, h1 => by
    have hlen := h.len
    have w : wrap64 ((tot : Int) + 1) = (tot : Int) + 1 := k64 (by omega) (by omega)
    have hp := pos6_f h (by omega) o (T := (T : Int)) (by omega) (by omega)
    obtain ⟨c, dv, d0, d1, hd⟩ := sum_step hL (T := (T : Int)) (by omega) (by omega) t hs h.apart
    obtain ⟨g', g0, g1, hg⟩ := tt_l4 t (tot : Int) (T : Int) hL (o 0) (o 1) (o 2) (o 3) (o 4) (o 5) e0 e1 e2 e3 e4 e5 (pos6 o t ((T : Int) - 1)) (pos6 o t (T : Int)) c dv d0 d1 (fun p hp' => by
      rw [pos6_sum hL hs (by omega) o ho _ hp', pos6_sum hL hs (by omega) o ho _ hp', ← hd p]
      omega) (fun p hp' => by
      have hb := sum_bound hL ((T : Int) - 1) p t hs
      have hop := ho p hp'
      rw [pos6_sum hL hs (by omega) o ho _ hp']
      omega) (B + 14 * m + 1) 6 0 0 (by omega) (Int.le_refl _) (by rw [if_neg (by omega)]; omega)
    have ih := tt_l3 hL h hs hl o ho tot htot e0 e1 e2 e3 e4 e5 B m (T + 1) (by omega) (by omega)
    have eT : ((T + 1 : Nat) : Int) - 1 = (T : Int) := by omega
    rw [eT] at ih
    show ambidextertop_TopTimetable.l3 (B + 14 * m + 14 + 1) true t (tot : Int) (T : Int) L.v L.a L.j (o 0) (o 1) (o 2) (o 3) (o 4) (o 5) e0 e1 e2 e3 e4 e5 _ _ _ _ _ _ = _
    rw [ambidextertop_TopTimetable.l3, w, if_pos (by omega), hp, Option.bind_some]
    refine Eq.trans hg ?_
    rw [ambidextertop_TopTimetable.l4, if_neg (by decide), if_neg (by omega), kn1 (i := T) (n := 3000) (by omega) (by omega)]
    exact ih
theorem ends_le {L : Lm} {R : List Rn} {t : List Sg} (h : tab L 0 R = some t) : ∀ s ∈ t, s.f1 + (s.f2.length : Int) ≤ endOf L 0 R := by
  intro s hs
  obtain ⟨i, hi, rfl⟩ := List.getElem_of_mem hs
  have hlen := tab_len L R 0 t h
  have hR : i < R.length := by omega
  rw [tab_at L R 0 t h i hR hi]
  show endOf L 0 (R.take i) + ((pr L R[i].f1).length : Int) ≤ endOf L 0 R
  have e := end_app L (R.take i) (R.drop i) 0
  rw [List.take_append_drop, List.drop_eq_getElem_cons hR] at e
  rw [e]
  exact end_ge L (R.drop (i + 1)) _
theorem TopTimetable : ∀ (a0 : Int) (a1 : Int) (a2 : Int) (l3 : List S63) (x4 : S52), (Lit.int .u8 a0).wf = true → (Lit.int .u8 a1).wf = true → (Lit.int .u8 a2).wf = true → (l3.length ≤ maxLen ∧ ∀ y0_ ∈ l3, ok63 y0_) → ok52 x4 → ∃ k, ambidextertop_TopTimetable.f k a0 a1 a2 l3 x4.f0.f0 x4.f0.f1 x4.f0.f2 x4.f1.f0 x4.f1.f1 x4.f1.f2 = some true := by
  intro a0 a1 a2 l x4 h0 h1 h2 _ hx
  obtain ⟨L, hf, hL⟩ := limQ14 h0 h1 h2
  obtain ⟨K, hK⟩ := pr_all hL
  have small : ∀ k, KT23 + K + 2200 ≤ k → l.length ≤ 30 → (l.all mayB = false ∨ tab L 0 (runsL l) = none) → ambidextertop_TopTimetable.f k a0 a1 a2 l x4.f0.f0 x4.f0.f1 x4.f0.f2 x4.f1.f0 x4.f1.f1 x4.f1.f2 = some true := by
    intro k hk c hc
    unfold ambidextertop_TopTimetable.f
    rw [headT23 (by omega), Option.bind_some, hf, Option.bind_some, if_neg (by omega), seq_ok hL hK (by omega) (by omega)]
    by_cases cm : l.all mayB = true
    · rcases hc with hc | hc
      · rw [hc] at cm
        cases cm
      · rw [if_pos cm, hc]
        rfl
    · rw [if_neg cm]
      rfl
  by_cases c : l.length ≤ 30
  · by_cases cm : l.all mayB = true
    · cases ht : tab L 0 (runsL l) with
      | none => exact ⟨_, small _ (Nat.le_refl _) c (Or.inr ht)⟩
      | some t =>
        have hT := tab_ok ht cm
        have hlen := hT.len
        have hs : ∀ s ∈ t, SegW L s := fun s hs' => by
          have hg := hT.seg s hs'
          exact ⟨⟨hg.n1, hg.n2, by rw [hg.js]; exact (hK _ hg.n1 hg.n2).2.1⟩, hT.may s hs', hg.lo, hg.hi⟩
        have hRl := runs_length l []
        have hRl2 : (runsL l).length ≤ l.length := by simpa [runsL] using hRl
        have htl := tab_len L (runsL l) 0 t ht
        have hti := (tab_iff L (runsL l) 0).1 (by rw [ht]; rfl)
        have hge := end_ge L (runsL l) 0
        have htot : endOf L 0 (runsL l) ≤ 2000 := by
          rcases hti.2 with e | e
          · rw [e]
            show (0 : Int) ≤ 2000
            decide
          · exact e
        obtain ⟨tot, htt⟩ := Int.eq_ofNat_of_zero_le hge
        have hq : ∀ p, p < 6 → 0 ≤ timetable_PositionsAt.q x4.f0.f0 x4.f0.f1 x4.f0.f2 x4.f1.f0 x4.f1.f1 x4.f1.f2 p ∧ timetable_PositionsAt.q x4.f0.f0 x4.f0.f1 x4.f0.f2 x4.f1.f0 x4.f1.f1 x4.f1.f2 p ≤ 255 := by
          obtain ⟨⟨q0, q1, q2⟩, q3, q4, q5⟩ := hx
          have b0 := bounds_u8 q0
          have b1 := bounds_u8 q1
          have b2 := bounds_u8 q2
          have b3 := bounds_u8 q3
          have b4 := bounds_u8 q4
          have b5 := bounds_u8 q5
          intro p hp
          unfold timetable_PositionsAt.q
          (repeat' split) <;> omega
        obtain ⟨B5, hB5⟩ : ∃ B5, B5 = KT23 + K + 5000 := ⟨_, rfl⟩
        obtain ⟨o, ho, e0⟩ := tt_l0 l t L.v L.a L.j (timetable_PositionsAt.q x4.f0.f0 x4.f0.f1 x4.f0.f2 x4.f1.f0 x4.f1.f1 x4.f1.f2) hq (B5 + 7 + 14 * (tot + 1) + 1 + 1 + l.length + 1 + ((runsL l).length + 1) + 1) 6 0 (fun _ => 0) (by omega) (fun p hp => by omega)
        obtain ⟨e', he, e2⟩ := tt_l2 t (runsL l) (endOf L 0 (runsL l)) L.v L.a L.j (o 0) (o 1) (o 2) (o 3) (o 4) (o 5) (l := l) (by omega) (fun y hy => List.all_eq_true.1 cm y hy) (B5 + 7 + 14 * (tot + 1) + 1 + 1) l.length 0 o (by omega) (fun p hp => by
          have := ho p hp
          omega)
        have e1 := tt_l1 (l := l) hK (by omega) ht (fun r hr => runsL_pos hr) (B5 + 7 + 14 * (tot + 1) + 1 + 1 + l.length + 1) (by omega) (o 0) (o 1) (o 2) (o 3) (o 4) (o 5) (runsL l).length 0 (by omega)
        have e3 := tt_l3 hL hT hs (by omega) o ho tot (by omega) (e' 0) (e' 1) (e' 2) (e' 3) (e' 4) (e' 5) (B5 + 7) (tot + 1) 1 (by omega) (Nat.le_refl _)
        have e1_ : ((1 : Nat) : Int) - 1 = 0 := rfl
        rw [e1_] at e3
        have hnet : ∀ p, p < 6 → -30 ≤ net p l ∧ net p l ≤ 30 := by
          have key : ∀ (p : Nat) (l : List Mv), (∀ y ∈ l, mayB y = true) → -(l.length : Int) ≤ net p l ∧ net p l ≤ (l.length : Int) := by
            intro p l
            induction l with
            | nil => intro _; simp [net]
            | cons m l ih =>
              intro hm
              have := ih (fun y hy => hm y (List.mem_cons_of_mem _ hy))
              obtain ⟨_, _, m3⟩ := may_iff (hm m List.mem_cons_self)
              rw [net, List.length_cons]
              by_cases cc : p = cs m
              · rw [if_pos cc]
                rcases m3 with e | e <;> rw [e] <;> omega
              · rw [if_neg cc]
                omega
          intro p hp
          have := key p l (fun y hy => List.all_eq_true.1 cm y hy)
          omega
        have hz : l.drop 0 = l := rfl
        have e5 := tt_l5 e' (pos6 o t ((tot : Int) + 1)) (fun p hp => by
          have h3 := he p hp
          rw [hz] at h3
          have h4 := hnet p hp
          have h5 := ho p hp
          omega) (fun p hp => by
          have h3 := he p hp
          rw [hz] at h3
          rw [pos6_sum hL hs (by omega) o ho _ hp, sum_end hL (by omega) p t hs (fun s hs' => by
            have := ends_le ht s hs'
            omega), tab_runs L _ _ _ ht, netR_runs, h3]
          omega) B5 6 0 (by omega)
        refine ⟨B5 + 7 + 14 * (tot + 1) + 1 + 1 + l.length + 1 + ((runsL l).length + 1) + 1 + 6, ?_⟩
        unfold ambidextertop_TopTimetable.f
        rw [headT23 (by omega), Option.bind_some, hf, Option.bind_some, if_neg (by omega), seq_ok hL hK (by omega) (by omega), if_pos cm, ht]
        dsimp only
        rw [Option.bind_some, if_pos rfl]
        refine Eq.trans e0 ?_
        rw [ambidextertop_TopTimetable.l0, if_neg (by decide), runsR (by omega) (by omega), Option.bind_some]
        refine Eq.trans e1 ?_
        refine Eq.trans e2 ?_
        have hdur := dur_ok ht (by omega) (k := B5 + 7 + 14 * (tot + 1) + 1 + 1) (by omega)
        rw [ambidextertop_TopTimetable.l2, if_neg (by omega), hdur, Option.bind_some, if_pos rfl, if_pos (by omega), ambidextertop_TopTimetable.j3, decide_eq_false (by omega), if_neg (by decide), pos6_f hT (by omega) o (T := 0) (by omega) (by omega), Option.bind_some, htt]
        refine Eq.trans e3 ?_
        exact e5
    · exact ⟨_, small _ (Nat.le_refl _) c (Or.inl (by simpa using cm))⟩
  · refine ⟨KT23, ?_⟩
    unfold ambidextertop_TopTimetable.f
    rw [headT23 (Nat.le_refl _), Option.bind_some, hf, Option.bind_some, if_pos (by omega)]
end Go.Proofs.Ytmmaodlngnjmlaa.Pure
