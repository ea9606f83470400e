/- Every segment begins and ends with all joints at whole steps; its jerks, played from rest, respect the limits and end at rest after exactly its distance. -/
import Derived.Test.YtmmaodlngnjmlaaXSegs23
import Derived.Test.YtmmaodlngnjmlaaXFin23
import Derived.Test.YtmmaodlngnjmlaaXSix23
import Derived.Test.YtmmaodlngnjmlaaP23
import Derived.IntWalk
import Derived.OpenShut
namespace Go.Proofs.Ytmmaodlngnjmlaa.Pure
set_option linter.unusedSimpArgs false
set_option linter.unusedVariables false
open Go Go.RowKit Go.Proofs.Ytmmaodlngnjmlaa.P Go.Proofs.YtmmaodlngnjmlaaW.PrintWords Go.Proofs.YtmmaodlngnjmlaaW.PrintLast Go.Proofs.YtmmaodlngnjmlaaW.PrintMore Go.Proofs.Ytmmaodlngnjmlaa.Motion
theorem seg_l1 (t : List Sg) (i v a j : Int) (x y : Nat → Int) (hx : ∀ k, Int.tmod (x k) 12 = 0) (hy : ∀ k, Int.tmod (y k) 12 = 0) (k : Nat) : ∀ (m n : Nat), n + m = 6 →
    ambidextertop_TopSegments.l1 (k + m + 1) true t i (n : Int) v a j (x 0) (x 1) (x 2) (x 3) (x 4) (x 5) (y 0) (y 1) (y 2) (y 3) (y 4) (y 5) = ambidextertop_TopSegments.l1 (k + 1) true t i 6 v a j (x 0) (x 1) (x 2) (x 3) (x 4) (x 5) (y 0) (y 1) (y 2) (y 3) (y 4) (y 5)
  | 0, n, h => by
    have e : n = 6 := by omega
    subst e
    rfl
  | m + 1, n, h => by
    have hn : n < 6 := by omega
    obtain ⟨i1, i2, i3, i4, i5⟩ := ix6 hn
    have e6 : (n : Int) < 6 := by omega
    show ambidextertop_TopSegments.l1 (k + m + 1 + 1) true t i (n : Int) v a j (x 0) (x 1) (x 2) (x 3) (x 4) (x 5) (y 0) (y 1) (y 2) (y 3) (y 4) (y 5) = _
    rw [ambidextertop_TopSegments.l1, if_pos e6, if_pos i1, if_pos i2, if_pos i3, if_pos i4, i5, dget_of x hn, dget_of y hn, if_pos (hx n), if_pos (hy n), kn1 (i := n) (n := 6) (by omega) hn]
    exact seg_l1 t i v a j x y hx hy k m (n + 1) (by omega)
theorem seg_l0 {L : Lm} (hL : ok L) {K : Nat} (hK : ∀ n : Int, 1 ≤ n → n ≤ 35 → Fuel L K n) {l : List Mv} {t : List Sg} (h : TabOk L l t) (hl : l.length ≤ 500) (B : Nat) (hB : 2100 ≤ B) : ∀ (m i : Nat), i + m = t.length → ambidextertop_TopSegments.l0 (B + 8 * m + 1) true t (i : Int) L.v L.a L.j = some true
  | 0, i, e => by rw [ambidextertop_TopSegments.l0, if_neg (by omega)]
  | m + 1, i, e => by
    have hlen := h.len
    have hi : i < t.length := by omega
    have ew := kn1 (i := i) (n := t.length) (by omega) hi
    have hg := h.seg t[i] (List.getElem_mem hi)
    have n1 := hg.n1
    have n2 := hg.n2
    have lo := hg.lo
    have hh := hg.hi
    have hb := (hK _ n1 n2).2.1
    rw [← hg.js] at hb
    obtain ⟨x, ex, hx⟩ := pos_12 hL hK h hl (T := t[i].f1) lo (by omega) (at_start h hi)
    obtain ⟨y, ey, hy⟩ := pos_12 hL hK h hl (T := t[i].f1 + (t[i].f2.length : Int)) (by omega) (by omega) (at_end h hi)
    have ih := seg_l0 hL hK h hl B hB m (i + 1) (by omega)
    have d1 : 12 * t[i].f0.f1 ≤ 420 := by omega
    have hz := may_zero hL (d := 12 * t[i].f0.f1) (by omega)
    have ef : profile_Final.f 0 0 0 t[i].f2 = some (12 * t[i].f0.f1, 0, 0) := final_path hL d1 (by omega) hz hb.1
    have ef2 : (Ticks.lastOf 0 0 0 (Ticks.tr 0 0 0 t[i].f2)) = (12 * t[i].f0.f1, 0, 0) := by
      have h' := ef
      unfold profile_Final.f at h'
      rw [if_pos (by omega)] at h'
      exact Option.some.inj h'
    have ee : ambidexterref21_End.f (B + 8 * m + 1) 0 0 0 t[i].f2 = some (12 * t[i].f0.f1, 0, 0) := by
      rw [end_ (by omega) 0 0 0 (by omega), ef2]
    have ei : profile_Within.f L.v L.a L.j 0 0 0 t[i].f2 = some true := within_path hL d1 (by omega) hz hb.1
    have e12 : wrap64 (12 * t[i].f0.f1) = 12 * t[i].f0.f1 := k64 (by omega) (by omega)
    show ambidextertop_TopSegments.l0 (B + 8 * m + 8 + 1) true t (i : Int) L.v L.a L.j = _
    rw [ambidextertop_TopSegments.l0, if_pos (by omega), if_pos (by omega), rds_at hi, ex, Option.bind_some, k64 (x := t[i].f1 + (t[i].f2.length : Int)) (by omega) (by omega), ey, Option.bind_some]
    refine (seg_l1 t (i : Int) L.v L.a L.j x y hx hy (B + 8 * m + 1) 6 0 (by omega)).trans ?_
    rw [ambidextertop_TopSegments.l1, if_neg (by decide), if_pos (by omega), if_pos (by omega), rds_at hi, ef, Option.bind_some, ee, Option.bind_some, if_neg (by simp), Option.bind_some, e12, if_neg (by simp), ei, Option.bind_some, if_pos rfl, ew]
    exact ih
theorem TopSegments : ∀ (a0 : Int) (a1 : Int) (a2 : Int) (l3 : List S63), (Lit.int .u8 a0).wf = true → (Lit.int .u8 a1).wf = true → (Lit.int .u8 a2).wf = true → (l3.length ≤ maxLen ∧ ∀ y0_ ∈ l3, ok63 y0_) → ∃ k, ambidextertop_TopSegments.f k a0 a1 a2 l3 = some true := by
  intro a0 a1 a2 l h0 h1 h2 _
  obtain ⟨L, hf, hL⟩ := limQ14 h0 h1 h2
  obtain ⟨K, hK⟩ := pr_all hL
  refine ⟨KT23 + K + 2200 + 8 * 40 + 1, ?_⟩
  unfold ambidextertop_TopSegments.f
  rw [headT23 (by omega), Option.bind_some, hf, Option.bind_some]
  by_cases c : (l.length : Int) > 30
  · rw [if_pos c]
  rw [if_neg c, seq_ok hL hK (by omega) (by omega)]
  by_cases cm : l.all mayB = true
  · rw [if_pos cm]
    cases ht : tab L 0 (runsL l) with
    | none => rfl
    | some t =>
      have hT := tab_ok ht cm
      have hlen := hT.len
      rw [Option.bind_some, if_pos rfl]
      have h := seg_l0 hL hK hT (by omega) (KT23 + K + 2200 + 8 * (40 - t.length)) (by omega) t.length 0 (by omega)
      rw [show KT23 + K + 2200 + 8 * (40 - t.length) + 8 * t.length + 1 = KT23 + K + 2200 + 8 * 40 + 1 from by omega] at h
      exact h
  · rw [if_neg cm]
    rfl
end Go.Proofs.Ytmmaodlngnjmlaa.Pure
