/- No jerk can be left out; neither another jerk in one place nor two jerks exchanged give a smaller sequence. -/
import Derived.Test.YtjcefdockfbnaaaXLims22
import Derived.Test.YtjcefdockfbnaaaXLeads22
import Derived.Test.YtjcefdockfbnaaaXLess22
import Derived.Test.YtjcefdockfbnaaaP4
namespace Go.Proofs.Ytjcefdockfbnaaa.Pure
set_option linter.unusedSimpArgs false
set_option linter.unusedVariables false
open Go.RowKit Go.Proofs.Ytjcefdockfbnaaa.P Go.Proofs.YtjcefdockfbnaaaW.PrintWords Go.Proofs.YtjcefdockfbnaaaW.PrintLast Go.Proofs.YtjcefdockfbnaaaW.PrintMore Go.Proofs.Ytjcefdockfbnaaa.Motion
theorem dist121 {a : Int} (h : (Lit.int .u16 a).wf = true) : ∃ d : Int, Int.tmod (wrap64 a) 121 = d ∧ 0 ≤ d ∧ d ≤ 420 := by
  have h := bounds_u16 h
  refine ⟨a % 121, ?_, by omega, by omega⟩
  rw [w64 (by omega) (by omega), Int.tmod_eq_emod_of_nonneg (by omega)]
theorem at_in {a : Int} (h : (Lit.int .u8 a).wf = true) {n : Nat} (h0 : n ≠ 0) : ∃ i : Nat, Int.tmod (wrap64 a) (n : Int) = (i : Int) ∧ i < n := by
  have h := bounds_u8 h
  have h1 : 0 ≤ a % (n : Int) := Int.emod_nonneg _ (by omega)
  have h2 : a % (n : Int) < n := Int.emod_lt_of_pos _ (by omega)
  refine ⟨(a % (n : Int)).toNat, ?_, by omega⟩
  rw [w64 (by omega) (by omega), Int.tmod_eq_emod_of_nonneg (by omega)]
  omega
theorem local_end {L : Lm} (hL : ok L) {d : Int} (d0 : 0 ≤ d) (d1 : d ≤ 420) {l : List Int} (hlen : l.length ≤ 100000) (hB : Best L d l) {y : List Int} (hy : y.length = l.length) {k : Nat} (hk : 2 * l.length + 2 ≤ k) :
    ((ambidexterref22_Leads.f k L.v L.a L.j d y).bind fun t => (if t = true then ((ambidexterref22_Less.f k y l).bind fun s => (some (!s))) else (some true))) = some true := by
  rw [leads_dec hL d0 d1 (by omega) (by omega), Option.bind_some]
  cases hb : leadsB L d zero y with
  | false => rfl
  | true =>
    rw [if_pos rfl, less22 (by omega) hy (by omega), Option.bind_some]
    have h := (hB.2 y (leadsB_iff.1 hb)).2 hy
    cases e : lessB y l with
    | false => rfl
    | true => exact absurd (lessB_lex e) h
theorem MintimeLocal : ∀ (x0 : S32) (a1 : Int) (a2 : Int) (a3 : Int), ok32 x0 → (Lit.int .u16 a1).wf = true → (Lit.int .u8 a2).wf = true → (Lit.int .u8 a3).wf = true → ∃ k, ambidexterlaw22_MintimeLocal.f k x0.f0 x0.f1 x0.f2 a1 a2 a3 = some true := by
  intro x a p q hx ha hp hq
  obtain ⟨L, eL, hL⟩ := lims hx
  obtain ⟨d, ed, d0, d1⟩ := dist121 ha
  have ED := Aside0.mk ed
  clear ed
  have hb := hL
  unfold ok at hb
  rcases profile_ok hL d0 d1 with ⟨l, K, hK, hB⟩ | ⟨⟨K, hK⟩, hno⟩
  · have hlen := best_len hL d0 d1 hB
    have start : ∀ k, K ≤ k → 2000 ≤ k → ambidexterlaw22_MintimeLocal.f k x.f0 x.f1 x.f2 a p q = ambidexterlaw22_MintimeLocal.j0 k p q true d l ((l.length : Int) == 0) L.v L.a L.j := by
      intro k h1 h2
      unfold ambidexterlaw22_MintimeLocal.f
      rw [head22 h2, eL, ED.out]
      simp only [Option.bind_some]
      rw [hK _ h1]
      simp only [Option.bind_some]
      rw [if_pos trivial]
    by_cases c : l.length = 0
    · have hd : d = 0 := by
        have e : l = [] := List.length_eq_zero_iff.1 c
        have h := hB.1
        rw [e] at h
        have h2 : zero = goal d := h
        have h3 := congrArg Mo.p h2
        exact h3.symm
      refine ⟨max 2000 K + 1, ?_⟩
      rw [start _ (by omega) (by omega), ambidexterlaw22_MintimeLocal.j0, if_pos (by simp [c]), if_pos rfl, if_pos hd]
    · obtain ⟨i, ei, hi⟩ := at_in hp c
      obtain ⟨j, ej, hj⟩ := at_in hq c
      have EI := Aside0.mk ei
      have EJ := Aside0.mk ej
      clear ei ej
      have ez : ((l.length : Int) == 0) = false := by simp; exact fun h => c (by simp [h])
      obtain ⟨kk, k0, k9, k1⟩ : ∃ kk, K ≤ kk ∧ 2000 ≤ kk ∧ 2 * l.length + 2 ≤ kk := ⟨max (max 2000 K) (2 * l.length + 2), by omega, by omega, by omega⟩
      refine ⟨kk + 1, ?_⟩
      have w1 : Aside0 (wrap64 (2 * L.j) = 2 * L.j) := ⟨w64 (by omega) (by omega)⟩
      have w2 : Aside0 (wrap64 (2 * L.j + 1) = 2 * L.j + 1) := ⟨w64 (by omega) (by omega)⟩
      have w3 : Aside0 (wrap64 ((i : Int) + 1) = ((i + 1 : Nat) : Int)) := ⟨by rw [w64 (by omega) (by omega)]; rfl⟩
      have c0 : ¬ (l.length : Int) = 0 := by omega
      have c1 : (0 : Int) ≤ (i : Int) := Int.natCast_nonneg i
      have c2 : (i : Int) ≤ (l.length : Int) := by omega
      have c3 : (i : Int) < (l.length : Int) := by omega
      have c4 : (j : Int) < (l.length : Int) := by omega
      have c5 : (0 : Int) ≤ (j : Int) := Int.natCast_nonneg j
      have c6 : (0 : Int) ≤ ((i + 1 : Nat) : Int) := Int.natCast_nonneg _
      have c7 : ((i + 1 : Nat) : Int) ≤ (l.length : Int) := by omega
      have c8 : ¬ 2 * L.j + 1 = 0 := by omega
      have hless : leadsB L d zero (l.take i ++ l.drop (i + 1)) = false := by
        cases e : leadsB L d zero (l.take i ++ l.drop (i + 1)) with
        | false => rfl
        | true =>
          have h := (hB.2 _ (leadsB_iff.1 e)).1
          simp at h
          omega
      have n1 : ([] : List Int).length + (l.take i).length < 17592186044416 := by simp; omega
      have n2 : ([] ++ l.take i : List Int).length + (l.drop (i + 1)).length < 17592186044416 := by simp; omega
      have n3 : ([] : List Int).length + l.length < 17592186044416 := by simp; omega
      have n4 : (l.take i ++ l.drop (i + 1)).length ≤ 1000000 := by simp; omega
      have n5 : 2 * (l.take i ++ l.drop (i + 1)).length + 1 ≤ kk := by simp; omega
      rw [start _ (by omega) (by omega), ambidexterlaw22_MintimeLocal.j0, ez, if_neg Bool.false_ne_true, if_neg c0, EI.out, EJ.out]
      have c3' : (i : Int) < (([] ++ l : List Int).length : Int) := c3
      have c4' : (j : Int) < (([] ++ l : List Int).length : Int) := c4
      rw [w3.out, Int.toNat_natCast i, Int.toNat_natCast j, Int.toNat_natCast (i + 1)]
      rw [Option.bind_some, if_pos c1, if_pos c2, Option.bind_some, if_pos n1, Option.bind_some, if_pos c6, if_pos c7, Option.bind_some, if_pos n2, Option.bind_some, if_pos n3, Option.bind_some, if_pos c5, if_pos c4, if_pos c3', if_pos c3, if_pos c4', Option.bind_some, Option.bind_some, if_pos n3, Option.bind_some, w1.out, w2.out, if_neg c8, if_pos c3', Option.bind_some]
      rw [List.nil_append l, List.nil_append (l.take i), if_pos rfl, leads_dec hL d0 d1 n4 n5, hless]
      rw [Option.bind_some, if_neg (by decide)]
      have e1 := local_end hL d0 d1 hlen hB (y := (l.set i (rd l (j : Int))).set j (rd l (i : Int))) (by simp) k1
      have e2 := local_end hL d0 d1 hlen hB (y := l.set i (wrap64 (Int.tmod (wrap64 q) (2 * L.j + 1) - L.j))) (by simp) k1
      rw [leads_dec hL d0 d1 (by simp; omega) (by simp; omega)] at e1 ⊢
      simp only [Option.bind_some] at e1 ⊢
      cases hb2 : leadsB L d zero ((l.set i (rd l (j : Int))).set j (rd l (i : Int))) with
      | false =>
        rw [if_neg (by decide)]
        exact e2
      | true =>
        rw [hb2, if_pos rfl] at e1
        rw [if_pos rfl]
        cases hl : ambidexterref22_Less.f kk ((l.set i (rd l (j : Int))).set j (rd l (i : Int))) l with
        | none => rw [hl] at e1; cases e1
        | some s =>
          rw [hl, Option.bind_some] at e1
          have hs : s = false := by simpa using e1
          rw [hs, Option.bind_some, if_neg (by decide)]
          exact e2
  · have hd : d = 1 ∧ L.j = 1 := by
      by_cases c : d = 1
      · refine ⟨c, ?_⟩
        by_cases c2 : L.j = 1
        · exact c2
        · exact absurd (path_exists L d hL d0 (fun e => by omega)) hno
      · exact absurd (path_exists L d hL d0 (fun e => absurd e c)) hno
    refine ⟨max 2000 K + 1, ?_⟩
    unfold ambidexterlaw22_MintimeLocal.f
    rw [head22 (by omega), eL, ED.out]
    simp only [Option.bind_some]
    rw [hK _ (by omega)]
    simp only [Option.bind_some]
    rw [if_neg (by decide), ambidexterlaw22_MintimeLocal.j0, if_pos rfl, if_pos rfl, if_neg (by omega), if_pos hd.1, hd.2]
    rfl
end Go.Proofs.Ytjcefdockfbnaaa.Pure
