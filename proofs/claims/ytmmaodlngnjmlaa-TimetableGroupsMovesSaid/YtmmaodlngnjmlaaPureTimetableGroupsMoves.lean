/- The runs laid out again are the moves, and runs that follow one another have different moves. -/
import Derived.Test.YtmmaodlngnjmlaaXHead23
import Derived.Test.YtmmaodlngnjmlaaPK
import Derived.Test.YtmmaodlngnjmlaaP8
namespace Go.Proofs.Ytmmaodlngnjmlaa.Pure
set_option linter.unusedSimpArgs false
set_option linter.unusedVariables false
open Go Go.RowKit Go.Proofs.Ytmmaodlngnjmlaa.P Go.Proofs.YtmmaodlngnjmlaaW.PrintWords Go.Proofs.YtmmaodlngnjmlaaW.PrintLast Go.Proofs.YtmmaodlngnjmlaaW.PrintMore
def expR (R : List Rn) : List Mv := R.flatMap fun r => List.replicate r.f1.toNat r.f0
theorem expR_push (y : List Rn) (m : Mv) (h : ∀ r ∈ y, 1 ≤ r.f1) : expR (pushR y m).reverse = expR y.reverse ++ [m] := by
  cases y with
  | nil => rfl
  | cons r y =>
    rw [pushR_cons]
    have hr := h r (by simp)
    by_cases c : eqm r.f0 m = true
    · have e := eqm_iff.1 c
      have e1 : (r.f1 + 1).toNat = r.f1.toNat + 1 := by omega
      rw [if_pos c]
      simp only [expR, List.reverse_cons, List.flatMap_append, List.flatMap_cons, List.flatMap_nil, List.append_nil, e1, List.replicate_succ', List.append_assoc, e]
    · rw [if_neg c]
      simp only [expR, List.reverse_cons, List.flatMap_append, List.flatMap_cons, List.flatMap_nil, List.append_nil, List.append_assoc]
      rfl
theorem expR_runs (l : List Mv) : ∀ (y : List Rn) (i : Nat), (∀ r ∈ y, 1 ≤ r.f1 ∧ r.f1 ≤ (i : Int)) → expR (l.foldl pushR y).reverse = expR y.reverse ++ l := by
  induction l with
  | nil => intro y i h; simp
  | cons m l ih =>
    intro y i h
    rw [List.foldl_cons, ih (pushR y m) (i + 1) (pushR_n y m h), expR_push y m (fun r hr => (h r hr).1)]
    simp
def adjR : List Rn → Prop
  | a :: b :: t => a.f0 ≠ b.f0 ∧ adjR (b :: t)
  | _ => True
theorem adj_push (y : List Rn) (m : Mv) (h : adjR y) : adjR (pushR y m) := by
  match y, h with
  | [], _ => exact trivial
  | r :: y, h =>
    rw [pushR_cons]
    by_cases c : eqm r.f0 m = true
    · rw [if_pos c]
      match y, h with
      | [], _ => exact trivial
      | b :: t, h => exact h
    · rw [if_neg c]
      exact ⟨fun e => c (eqm_iff.2 e.symm), h⟩
theorem adj_runs (l : List Mv) : ∀ y : List Rn, adjR y → adjR (l.foldl pushR y) := by
  induction l with
  | nil => exact fun y h => h
  | cons m l ih => exact fun y h => ih _ (adj_push y m h)
theorem adj_at : ∀ (y : List Rn) (i : Nat) (h : i + 1 < y.length), adjR y → y[i].f0 ≠ y[i + 1].f0
  | a :: b :: t, 0, _, hy => hy.1
  | a :: b :: t, i + 1, h, hy => adj_at (b :: t) i (by simpa using h) hy.2
  | [_], i, h, _ => by simp at h
  | [], i, h, _ => by simp at h
theorem adj_rev {y : List Rn} (hy : adjR y) {i : Nat} (h0 : 0 < i) (h : i < y.reverse.length) : y.reverse[i].f0 ≠ (y.reverse[i - 1]'(by omega)).f0 := by
  have hl : y.reverse.length = y.length := List.length_reverse
  rw [List.getElem_reverse, List.getElem_reverse]
  have e : y.length - 1 - (i - 1) = y.length - 1 - i + 1 := by omega
  have h2 := adj_at y (y.length - 1 - i) (by omega) hy
  intro e2
  apply h2
  rw [e2]
  congr 2
theorem group_l1 {l : List Mv} (hl : l.length ≤ 120) {R : List Rn} (hRl : R.length ≤ 1000) {i : Nat} (hi : i < R.length) (hN : 1 ≤ R[i].f1 ∧ R[i].f1 ≤ 120) : ∀ (m j p : Nat), j + m = R[i].f1.toNat → p + m ≤ l.length → (∀ q, q < m → ∃ h : p + q < l.length, l[p + q] = R[i].f0) →
    (∃ k, ambidexterlaw23_TimetableGroupsMoves.l0 k l true R ((p + m : Nat) : Int) ((i + 1 : Nat) : Int) = some true) → ∃ k, ambidexterlaw23_TimetableGroupsMoves.l1 k l true R (p : Int) (i : Int) (j : Int) = some true
  | 0, j, p, h, h1, h2, ⟨k, hk⟩ => by
    refine ⟨k + 1 + 1, ?_⟩
    rw [ambidexterlaw23_TimetableGroupsMoves.l1, if_pos (by omega), if_pos (by omega), rdr_at hi, if_neg (by omega), ambidexterlaw23_TimetableGroupsMoves.j3, if_neg (by decide)]
    rw [kn1 (by omega) hi]
    exact hk
  | m + 1, j, p, h, h1, h2, hk => by
    obtain ⟨hp, e⟩ := h2 0 (by omega)
    rw [show l[p + 0] = l[p] from rfl] at e
    obtain ⟨k, ih⟩ := group_l1 hl hRl hi hN m (j + 1) (p + 1) (by omega) (by omega) (fun q hq => by
      obtain ⟨h3, h4⟩ := h2 (q + 1) (by omega)
      refine ⟨by omega, ?_⟩
      rw [← h4]
      congr 1
      omega) (by
      rw [show p + 1 + m = p + (m + 1) from by omega]
      exact hk)
    have hp' : p < l.length := hp
    have e1 : wrap64 ((p : Int) + 1) = ((p + 1 : Nat) : Int) := kn1 (n := l.length) (by omega) hp'
    have e2 : wrap64 ((j : Int) + 1) = ((j + 1 : Nat) : Int) := kn1 (n := j + 1) (by omega) (by omega)
    refine ⟨k + 1 + 1, ?_⟩
    rw [ambidexterlaw23_TimetableGroupsMoves.l1, if_pos (by omega), if_pos (by omega), rdr_at hi, if_pos (by omega), ambidexterlaw23_TimetableGroupsMoves.j3, if_pos (decide_eq_true (by omega)), if_neg (by omega), if_pos (by omega), if_pos (by omega), if_pos (by omega), if_pos (by omega), rdm_at hp', rdr_at hi, e, if_neg (by simp), e1, e2]
    exact ih
theorem group_l0' {l : List Mv} (hl : l.length ≤ 120) {R : List Rn} (hRl : R.length ≤ 1000) (hN : ∀ r ∈ R, 1 ≤ r.f1 ∧ r.f1 ≤ 120) (hadj : ∀ i (h : i < R.length), 0 < i → R[i].f0 ≠ (R[i - 1]'(by omega)).f0) : ∀ (n i p : Nat), i + n = R.length → l.drop p = expR (R.drop i) → p ≤ l.length →
    ∃ k, ambidexterlaw23_TimetableGroupsMoves.l0 k l true R (p : Int) (i : Int) = some true
  | 0, i, p, h, h1, h2 => by
    rw [List.drop_of_length_le (by omega : R.length ≤ i)] at h1
    have h3 : l.length ≤ p := List.drop_eq_nil_iff.1 h1
    refine ⟨1, ?_⟩
    rw [ambidexterlaw23_TimetableGroupsMoves.l0, if_neg (by omega), if_pos rfl]
    have : (p : Int) = (l.length : Int) := by omega
    simp [this]
  | n + 1, i, p, h, h1, h2 => by
    have hi : i < R.length := by omega
    obtain ⟨n1, n2⟩ := hN R[i] (List.getElem_mem hi)
    rw [List.drop_eq_getElem_cons hi] at h1
    have h3 : l.drop p = List.replicate R[i].f1.toNat R[i].f0 ++ expR (R.drop (i + 1)) := h1
    have hlen : p + R[i].f1.toNat ≤ l.length := by
      have := congrArg List.length h3
      simp at this
      omega
    have hq : ∀ q, q < R[i].f1.toNat → ∃ h : p + q < l.length, l[p + q] = R[i].f0 := fun q hq => by
      refine ⟨by omega, ?_⟩
      have h4 : (l.drop p)[q]? = some R[i].f0 := by
        rw [h3, List.getElem?_append_left (by simpa using hq), List.getElem?_replicate, if_pos hq]
      rw [List.getElem?_drop, List.getElem?_eq_getElem (by omega)] at h4
      exact Option.some.inj h4
    have ih := group_l0' hl hRl hN hadj n (i + 1) (p + R[i].f1.toNat) (by omega) (by
      rw [← List.drop_drop, h3, List.drop_append_of_le_length (by simp), List.drop_of_length_le (by simp)]
      rfl) hlen
    obtain ⟨k, hk⟩ := group_l1 hl hRl hi ⟨n1, n2⟩ R[i].f1.toNat 0 p (by omega) hlen hq ih
    refine ⟨k + 1 + 1, ?_⟩
    rw [ambidexterlaw23_TimetableGroupsMoves.l0, if_pos (by omega), if_pos (by omega), rdr_at hi, if_neg (by omega)]
    by_cases c : (i : Int) > 0
    · have e1 : wrap64 ((i : Int) - 1) = ((i - 1 : Nat) : Int) := by rw [k64 (by omega) (by omega)]; omega
      have hne := hadj i hi (by omega)
      have hb : (R[i].f0.f0 == (R[i - 1]'(by omega)).f0.f0 && (R[i].f0.f1 == (R[i - 1]'(by omega)).f0.f1 && R[i].f0.f2 == (R[i - 1]'(by omega)).f0.f2)) = false := by
        have h5 : ¬ eqm R[i].f0 (R[i - 1]'(by omega)).f0 = true := fun e => hne (eqm_iff.1 e)
        exact Bool.eq_false_iff.2 h5
      rw [if_pos c, e1, if_pos (by omega), if_pos (by omega), rdr_at (l := R) (i := i - 1) (by omega), hb, ambidexterlaw23_TimetableGroupsMoves.j1, if_neg (by decide)]
      exact hk
    · rw [if_neg c, ambidexterlaw23_TimetableGroupsMoves.j1, if_neg (by decide)]
      exact hk
theorem TimetableGroupsMoves : ∀ (l0 : List (S63)), (l0.length ≤ maxLen ∧ ∀ y0_ ∈ l0, ok63 y0_) → ∃ k, ambidexterlaw23_TimetableGroupsMoves.f k l0 = some true := by
  intro l hl
  obtain ⟨K, hK⟩ := head23
  by_cases c : (l.length : Int) > 120
  · refine ⟨K, ?_⟩
    unfold ambidexterlaw23_TimetableGroupsMoves.f
    rw [hK, Option.bind_some, if_pos c]
  · have hn := runs_n l [] 0 (fun r hr => by cases hr)
    have hlen := runs_length l []
    have hlen2 : (runsL l).length ≤ l.length := by simpa [runsL] using hlen
    obtain ⟨k, hk⟩ := group_l0' (l := l) (by omega) (R := runsL l) (by omega) (fun r hr => by
      have h := hn r (by simpa [runsL] using hr)
      omega) (fun i h h0 => adj_rev (adj_runs l [] trivial) h0 h) (runsL l).length 0 0 (by omega) (by
        have h := expR_runs l [] 0 (fun r hr => by cases hr)
        simpa [runsL, expR] using h.symm) (Nat.zero_le _)
    refine ⟨K + k + l.length + 1, ?_⟩
    have e1 : ambidexterlaw23_head.f (K + k + l.length + 1) = some true := at_rounds ambidexterlaw23_head.mono (by omega) hK
    have e2 : ambidexterlaw23_TimetableGroupsMoves.l0 (K + k + l.length + 1) l true (runsL l) 0 0 = some true := at_rounds (fun q => (ambidexterlaw23_TimetableGroupsMoves.mono_l q).1 _ _ _ _ _) (show k ≤ K + k + l.length + 1 by omega) hk
    unfold ambidexterlaw23_TimetableGroupsMoves.f
    rw [e1, Option.bind_some, if_neg c, group_ok (by omega) (by omega), Option.bind_some]
    exact e2
end Go.Proofs.Ytmmaodlngnjmlaa.Pure
