/- No sequence that reaches the same distance within the limits is shorter, or equally long and smaller. -/
import Derived.Test.YtjcefdockfbnaaaXLims22
import Derived.Test.YtjcefdockfbnaaaXLeads22
import Derived.Test.YtjcefdockfbnaaaXLess22
import Derived.Test.YtjcefdockfbnaaaP12
namespace Go.Proofs.Ytjcefdockfbnaaa.Pure
set_option linter.unusedSimpArgs false
set_option linter.unusedVariables false
open Go.RowKit Go.Proofs.Ytjcefdockfbnaaa.P Go.Proofs.YtjcefdockfbnaaaW.PrintWords Go.Proofs.YtjcefdockfbnaaaW.PrintLast Go.Proofs.YtjcefdockfbnaaaW.PrintMore Go.Proofs.Ytjcefdockfbnaaa.Motion
theorem rows_l0 {l : List Int} {J : Int} (hJ : 1 ≤ J ∧ J ≤ 2) : ∀ (n i : Nat) (acc : List Int), i + n = 200 → acc.length = i → ∃ k r, ambidexterlaw22_rows.l0 k l J acc (i : Int) = some r ∧ r.length ≤ 200
  | 0, i, acc, h, ha => by
    refine ⟨1, acc, ?_, by omega⟩
    rw [ambidexterlaw22_rows.l0]
    by_cases c : (i : Int) < (l.length : Int)
    · rw [if_pos c, if_neg (by omega)]
    · rw [if_neg c]
  | n + 1, i, acc, h, ha => by
    by_cases c : (i : Int) < (l.length : Int)
    · have c2 : (i : Int) < 200 := by omega
      have c3 : acc.length < 17592186044416 := by omega
      have h1 : i + 1 + n = 200 := by omega
      obtain ⟨k, r, hk, hr⟩ := rows_l0 hJ n (i + 1) (acc ++ [Int.tmod (wrap64 (rd l (i : Int))) (wrap64 (J + 1))]) h1 (by simp; omega)
      refine ⟨k + 1, r, ?_, hr⟩
      have hi : wrap64 ((i : Int) + 1) = ((i + 1 : Nat) : Int) := by rw [w64 (by omega) (by omega)]; rfl
      have hne : ¬ wrap64 (J + 1) = 0 := by
        clear hi
        rw [w64 (by omega) (by omega)]
        omega
      rw [ambidexterlaw22_rows.l0, if_pos c, if_pos c2, if_pos (Int.natCast_nonneg i), if_neg hne, if_pos c3, hi]
      exact hk
    · exact ⟨1, acc, by rw [ambidexterlaw22_rows.l0, if_neg c], by omega⟩
theorem MintimeFewest : ∀ (x0 : S32) (l1 : List Int), ok32 x0 → (l1.length ≤ maxLen ∧ ∀ y0_ ∈ l1, (Lit.int .i8 y0_).wf = true) → ∃ k, ambidexterlaw22_MintimeFewest.f k x0.f0 x0.f1 x0.f2 l1 = some true := by
  intro x l1 hx _
  obtain ⟨L, eL, hL⟩ := lims hx
  have hb := hL
  unfold ok at hb
  obtain ⟨k1, l, hk1, hl⟩ := rows_l0 (l := l1) (J := L.j) ⟨by omega, by omega⟩ 200 0 [] (by omega) rfl
  have hrows : ∀ k, k1 ≤ k → ambidexterlaw22_rows.f k l1 L.j = some l := fun k hk => at_rounds (ambidexterlaw22_rows.mono l1 L.j) hk hk1
  obtain ⟨q, hq⟩ : ∃ q : Int × Int × Int, q = Ticks.lastOf 0 0 0 (Ticks.tr 0 0 0 l) := ⟨_, rfl⟩
  have hf : profile_Final.f 0 0 0 l = some q := by
    unfold profile_Final.f
    rw [if_pos (by omega), hq]
  clear hq
  by_cases c1 : q.1 < 0
  · refine ⟨max (max 2000 k1) 1, ?_⟩
    obtain ⟨p, hp⟩ : ∃ p, max (max 2000 k1) 1 = p + 1 := ⟨max (max 2000 k1) 1 - 1, by omega⟩
    unfold ambidexterlaw22_MintimeFewest.f
    rw [head22 (by omega), eL]
    simp only [Option.bind_some]
    rw [hrows _ (by omega)]
    simp only [Option.bind_some]
    rw [hf]
    simp only [Option.bind_some]
    rw [if_pos c1, hp, ambidexterlaw22_MintimeFewest.j0, if_pos rfl]
  by_cases c2 : q.1 > 420
  · refine ⟨max (max 2000 k1) 1, ?_⟩
    obtain ⟨p, hp⟩ : ∃ p, max (max 2000 k1) 1 = p + 1 := ⟨max (max 2000 k1) 1 - 1, by omega⟩
    unfold ambidexterlaw22_MintimeFewest.f
    rw [head22 (by omega), eL]
    simp only [Option.bind_some]
    rw [hrows _ (by omega)]
    simp only [Option.bind_some]
    rw [hf]
    simp only [Option.bind_some]
    rw [if_neg c1, if_pos c2, hp, ambidexterlaw22_MintimeFewest.j0, if_pos rfl]
  have d0 : 0 ≤ q.1 := Int.not_lt.1 c1
  have d1 : q.1 ≤ 420 := Int.not_lt.1 c2
  have start : ∀ k, k1 ≤ k → 2000 ≤ k → ambidexterlaw22_MintimeFewest.f k x.f0 x.f1 x.f2 l1 = ambidexterlaw22_MintimeFewest.j0 k true l q.1 (!leadsB L q.1 zero l) L.v L.a L.j := by
    intro k hk h2
    unfold ambidexterlaw22_MintimeFewest.f
    rw [head22 h2, eL]
    simp only [Option.bind_some]
    rw [hrows _ hk]
    simp only [Option.bind_some]
    rw [hf]
    simp only [Option.bind_some]
    rw [if_neg c1, if_neg c2, leads_dec hL d0 d1 (by omega) (by omega)]
    simp only [Option.bind_some]
  cases hB : leadsB L q.1 zero l with
  | false =>
    refine ⟨max 2000 k1, ?_⟩
    obtain ⟨p, hp⟩ : ∃ p, max 2000 k1 = p + 1 := ⟨max 2000 k1 - 1, by omega⟩
    rw [start _ (by omega) (by omega), hB, hp, ambidexterlaw22_MintimeFewest.j0, if_pos (by decide)]
  | true =>
    have hpath := leadsB_iff.1 hB
    rcases profile_ok hL d0 d1 with ⟨m, K, hK, hM⟩ | ⟨⟨K, hK⟩, hno⟩
    · obtain ⟨h1, h2⟩ := hM.2 l hpath
      refine ⟨max (max 2000 k1) K + 1, ?_⟩
      rw [start _ (by omega) (by omega), hB, ambidexterlaw22_MintimeFewest.j0, if_neg (by decide), hK _ (by omega)]
      simp only [Option.bind_some]
      rw [if_pos trivial, if_pos trivial, if_pos (by omega)]
      by_cases c : (m.length : Int) < (l.length : Int)
      · rw [if_pos c]
      · rw [if_neg c, less22 (l := l) (m := m) (by omega) (by omega) (by omega)]
        simp only [Option.bind_some]
        have : lessB l m = false := by
          cases e : lessB l m with
          | false => rfl
          | true => exact absurd (lessB_lex e) (h2 (by omega))
        rw [this]
        rfl
    · exact absurd ⟨l, hpath⟩ hno
end Go.Proofs.Ytjcefdockfbnaaa.Pure
