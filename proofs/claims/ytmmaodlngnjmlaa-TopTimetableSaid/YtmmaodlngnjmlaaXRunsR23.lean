/- The reference's runs are the runs. -/
import Derived.Test.YtmmaodlngnjmlaaXTime23
import Derived.Test.YtmmaodlngnjmlaaP6
namespace Go.Proofs.Ytmmaodlngnjmlaa.Pure
set_option linter.unusedSimpArgs false
set_option linter.unusedVariables false
open Go Go.RowKit Go.Proofs.Ytmmaodlngnjmlaa.P Go.Proofs.YtmmaodlngnjmlaaW.PrintWords Go.Proofs.YtmmaodlngnjmlaaW.PrintLast Go.Proofs.YtmmaodlngnjmlaaW.PrintMore Go.Proofs.Ytmmaodlngnjmlaa.Motion
theorem rep_push (x : Mv) : ∀ n : Nat, (List.replicate (n + 1) x).foldl pushR [] = [(⟨x, ((n + 1 : Nat) : Int)⟩ : Rn)]
  | 0 => rfl
  | n + 1 => by
    rw [List.replicate_succ', List.foldl_append, rep_push x n, List.foldl_cons, List.foldl_nil, pushR_cons, if_pos (eqm_iff.2 rfl)]
    rfl
theorem runs_rep (x : Mv) (n : Nat) : runsL (List.replicate (n + 1) x) = [(⟨x, ((n + 1 : Nat) : Int)⟩ : Rn)] := by
  unfold runsL
  rw [rep_push]
  rfl
theorem runs_cut (x : Mv) (n : Nat) (rest : List Mv) (h : ∀ y b, rest = y :: b → x ≠ y) : runsL (List.replicate (n + 1) x ++ rest) = (⟨x, ((n + 1 : Nat) : Int)⟩ : Rn) :: runsL rest := by
  cases rest with
  | nil => rw [List.append_nil, runs_rep]; rfl
  | cons y b =>
    have e : List.replicate (n + 1) x = List.replicate n x ++ [x] := List.replicate_succ'
    have h2 := runs_app (List.replicate n x) x y b (h y b rfl)
    rw [← e] at h2
    rw [h2, runs_rep]
    rfl
theorem drop_rep {l : List Mv} {i n : Nat} (h : i + n ≤ l.length) (hi : i < l.length) (he : ∀ j, j < n → ∀ h : i + j < l.length, l[i + j] = l[i]) : l.drop i = List.replicate n l[i] ++ l.drop (i + n) := by
  have e1 : (l.drop i).take n = List.replicate n l[i] := by
    rw [List.eq_replicate_iff]
    refine ⟨by rw [List.length_take, List.length_drop]; omega, fun b hb => ?_⟩
    obtain ⟨j, hj, rfl⟩ := List.getElem_of_mem hb
    rw [List.length_take, List.length_drop] at hj
    rw [List.getElem_take, List.getElem_drop]
    exact he j (by omega) (by omega)
  rw [← e1, ← List.drop_drop, List.take_append_drop]
theorem runsR_l1 {l : List Mv} (hl : l.length ≤ 1000) : ∀ (m i n : Nat) (acc : List Rn) (K : Nat), i + (n + 1) + m = l.length → (hi : i < l.length) → (∀ j, j < n + 1 → ∀ h : i + j < l.length, l[i + j] = l[i]) → acc.length ≤ i →
    ambidexterref23_Runs.l1 (K + 2 * m + 2) l acc (i : Int) ((n + 1 : Nat) : Int) = some (acc ++ runsL (l.drop i))
  | 0, i, n, acc, K, h, hi, he, ha => by
    have w : wrap64 ((i : Int) + ((n + 1 : Nat) : Int)) = ((i + (n + 1) : Nat) : Int) := by rw [k64 (by omega) (by omega)]; omega
    show ambidexterref23_Runs.l1 (K + 1 + 1) l acc (i : Int) ((n + 1 : Nat) : Int) = _
    rw [ambidexterref23_Runs.l1, w, if_neg (by omega), if_pos (by omega), if_pos (by omega), if_pos (by omega), ambidexterref23_Runs.l0, if_neg (by omega), rdm_at hi, drop_rep (n := n + 1) (by omega) hi he, runs_cut _ _ _ (fun y b e => by
      rw [List.drop_of_length_le (by omega)] at e
      cases e), List.drop_of_length_le (by omega)]
    rfl
  | m + 1, i, n, acc, K, h, hi, he, ha => by
    have w : wrap64 ((i : Int) + ((n + 1 : Nat) : Int)) = ((i + (n + 1) : Nat) : Int) := by rw [k64 (by omega) (by omega)]; omega
    have hj : i + (n + 1) < l.length := by omega
    show ambidexterref23_Runs.l1 (K + 2 * m + 2 + 1 + 1) l acc (i : Int) ((n + 1 : Nat) : Int) = _
    rw [ambidexterref23_Runs.l1, w, if_pos (by omega), if_pos (by omega), if_pos (by omega), if_pos (by omega), rdm_at hi, rdm_at hj]
    by_cases c : l[i + (n + 1)] = l[i]
    · rw [if_pos (by rw [c]; simp)]
      have ew : wrap64 (((n + 1 : Nat) : Int) + 1) = ((n + 1 + 1 : Nat) : Int) := by rw [k64 (by omega) (by omega)]; rfl
      rw [ew]
      have ih := runsR_l1 hl m i (n + 1) acc (K + 1) (by omega) hi (fun j hj' h' => by
        by_cases e : j = n + 1
        · subst e
          exact c
        · exact he j (by omega) h') ha
      rw [show K + 1 + 2 * m + 2 = K + 2 * m + 2 + 1 from by omega] at ih
      exact ih
    · have cb : ¬ ((l[i + (n + 1)].f0 == l[i].f0 && (l[i + (n + 1)].f1 == l[i].f1 && l[i + (n + 1)].f2 == l[i].f2)) = true) := fun e => c (eqm_iff.1 e)
      rw [if_neg cb, if_pos (by omega), ambidexterref23_Runs.l0, if_pos (by omega)]
      have ih := runsR_l1 hl m (i + (n + 1)) 0 (acc ++ [(⟨(⟨l[i].f0, l[i].f1, l[i].f2⟩ : Mv), ((n + 1 : Nat) : Int)⟩ : Rn)]) K (by omega) hj (fun j hj' h' => by
        have e : j = 0 := by omega
        subst e
        rfl) (by simp; omega)
      refine ih.trans ?_
      have e2 := drop_rep (n := n + 1) (by omega) hi he
      rw [e2, runs_cut _ _ _ (fun y b e => by
        rw [List.drop_eq_getElem_cons hj] at e
        have e3 := (List.cons.inj e).1
        exact fun e4 => c (by rw [e3, ← e4]))]
      simp
theorem runsR {l : List Mv} (hl : l.length ≤ 1000) {k : Nat} (hk : 2 * l.length + 3 ≤ k) : ambidexterref23_Runs.f k l = some (runsL l) := by
  unfold ambidexterref23_Runs.f
  cases l with
  | nil =>
    obtain ⟨j, rfl⟩ : ∃ j, k = j + 1 := ⟨k - 1, by simp at hk; omega⟩
    rw [ambidexterref23_Runs.l0, if_neg (by simp)]
    rfl
  | cons x l =>
    obtain ⟨j, rfl⟩ : ∃ j, k = j + 2 * l.length + 2 + 1 := ⟨k - 2 * l.length - 3, by simp at hk; omega⟩
    rw [ambidexterref23_Runs.l0, if_pos (by simp)]
    have h := runsR_l1 hl l.length 0 0 [] j (by simp; omega) (by simp) (fun j hj h' => by
      have e : j = 0 := by omega
      subst e
      rfl) (Nat.zero_le _)
    exact h
end Go.Proofs.Ytmmaodlngnjmlaa.Pure
