/- Two shortest profiles in a row reach the sum of their distances; the shortest one for the sum is no longer; a lower speed limit never makes a motion faster. -/
import Derived.Test.YtmmaodlngnjmlaaXTop25
import Derived.Test.YtmmaodlngnjmlaaP5
namespace Go.Proofs.Ytmmaodlngnjmlaa.Pure
set_option linter.unusedSimpArgs false
set_option linter.unusedVariables false
open Go.RowKit Go.Proofs.Ytmmaodlngnjmlaa.P Go.Proofs.YtmmaodlngnjmlaaW.PrintWords Go.Proofs.YtmmaodlngnjmlaaW.PrintLast Go.Proofs.YtmmaodlngnjmlaaW.PrintMore Go.Proofs.Ytmmaodlngnjmlaa.Motion
theorem concat_path {L : Lm} {c d : Int} (c0 : 0 ≤ c) (d0 : 0 ≤ d) {l m : List Int} (hl : Path L c zero l (goal c)) (hm : Path L d zero m (goal d)) : Path L (c + d) zero (l ++ m) (goal (c + d)) := by
  have h1 := hl.longer d0
  have h2 := hm.shift c0
  have e1 : shift c zero = goal c := by simp [shift, zero, goal]
  have e2 : shift c (goal d) = goal (c + d) := by simp [shift, goal, Int.add_comm]
  rw [e1, e2, Int.add_comm d c] at h2
  exact h1.trans h2
theorem TopConcatenatedProfiles : ∀ (a0 : Int) (a1 : Int) (a2 : Int) (a3 : Int) (a4 : Int) (a5 : Int), (Lit.int .u8 a0).wf = true → (Lit.int .u8 a1).wf = true → (Lit.int .u8 a2).wf = true → (Lit.int .u8 a3).wf = true → (Lit.int .u16 a4).wf = true → (Lit.int .u16 a5).wf = true → ∃ k, ambidextertop_TopConcatenatedProfiles.f k a0 a1 a2 a3 a4 a5 = some true := by
  intro a0 a1 a2 a3 a4 a5 h0 h1 h2 h3 h4 h5
  obtain ⟨L, eL, hL⟩ := lim14 h0 h1 h2
  obtain ⟨c, ec, c0, c1⟩ := tmod16 h4 211 (by omega)
  obtain ⟨d, ed, d0, d1⟩ := tmod16 h5 211 (by omega)
  have hb := hL
  unfold ok at hb
  obtain ⟨w, ew, w0, w1⟩ := tmod8 h3 L.v (by omega)
  have hM : ok ⟨1 + w, L.a, L.j⟩ := by
    unfold ok
    dsimp only
    omega
  have hz := may_zero hL (d := c + d) (by omega)
  have e1 : wrap64 (1 + w) = 1 + w := w64 (by omega) (by omega)
  have e2 : wrap64 (c + d) = c + d := by clear e1; exact w64 (by omega) (by omega)
  have v0 : ¬ L.v = 0 := by clear e1 e2; omega
  have start : ∀ k l b m b' n b'' s t, K25 ≤ k → mintime_Profile.f k L.v L.a L.j c = some (l, b) → mintime_Profile.f k L.v L.a L.j d = some (m, b') → mintime_Profile.f k L.v L.a L.j (c + d) = some (n, b'') → mintime_Profile.f k (1 + w) L.a L.j (c + d) = some (s, t) →
      ambidextertop_TopConcatenatedProfiles.f k a0 a1 a2 a3 a4 a5 = (if b = true then ambidextertop_TopConcatenatedProfiles.j0 k true c d l m n.length b'' s.length t (!b') L.v L.a L.j else ambidextertop_TopConcatenatedProfiles.j0 k true c d l m n.length b'' s.length t true L.v L.a L.j) := by
    intro k l b m b' n b'' s t hk p1 p2 p3 p4
    unfold ambidextertop_TopConcatenatedProfiles.f
    rw [head25 hk, eL]
    simp only [Option.bind_some]
    rw [if_neg v0, ec, ed, ew, p1, p2, e1, e2]
    simp only [Option.bind_some]
    rw [duration p3, duration (L := ⟨1 + w, L.a, L.j⟩) p4]
    simp only [Option.bind_some]
  have two : ∀ (M : Lm), ok M → ∀ e : Int, 0 ≤ e → e ≤ 420 → ∃ l b K, (∀ k, K ≤ k → mintime_Profile.f k M.v M.a M.j e = some (l, b)) ∧ ((b = true ∧ Best M e l) ∨ (b = false ∧ ¬ ∃ l, Path M e zero l (goal e))) := by
    intro M hM e e0 e1
    rcases profile_ok hM e0 e1 with ⟨l, K, hK, hB⟩ | ⟨⟨K, hK⟩, hno⟩
    · exact ⟨l, true, K, hK, .inl ⟨rfl, hB⟩⟩
    · exact ⟨[], false, K, hK, .inr ⟨rfl, hno⟩⟩
  clear e1 e2
  obtain ⟨l, b, K1, p1, q1⟩ := two L hL c (by omega) (by omega)
  obtain ⟨m, b', K2, p2, q2⟩ := two L hL d (by omega) (by omega)
  obtain ⟨n, b'', K3, p3, q3⟩ := two L hL (c + d) (by omega) (by omega)
  obtain ⟨s, t, K4, p4, q4⟩ := two _ hM (c + d) (by omega) (by omega)
  refine ⟨max K25 (max (max K1 K2) (max K3 K4)) + 1, ?_⟩
  rw [start _ l b m b' n b'' s t (by omega) (p1 _ (by omega)) (p2 _ (by omega)) (p3 _ (by omega)) (p4 _ (by omega))]
  rcases q1 with ⟨rfl, hB1⟩ | ⟨rfl, _⟩
  · rcases q2 with ⟨rfl, hB2⟩ | ⟨rfl, _⟩
    · have hp := concat_path c0 d0 hB1.1 hB2.1
      rcases q3 with ⟨rfl, hB3⟩ | ⟨rfl, hno⟩
      · have n1 := (hB3.2 _ hp).1
        have b1 := best_len hL c0 (by omega) hB1
        have b2 := best_len hL d0 (by omega) hB2
        have hlen : (l ++ m).length ≤ 1000000 := by simp; omega
        have n2 : n.length ≤ (l ++ m).length := n1
        have hf : profile_Final.f 0 0 0 (l ++ m) = some (c + d, 0, 0) := final_path hL (d := c + d) (by omega) hlen hz hp
        have hw : profile_Within.f L.v L.a L.j 0 0 0 (l ++ m) = some true := within_path hL (d := c + d) (by omega) hlen hz hp
        have hs : t = true → n.length ≤ s.length := by
          intro ht
          rcases q4 with ⟨_, hB4⟩ | ⟨h, _⟩
          · exact (hB3.2 s (Path.wider (L := (⟨1 + w, L.a, L.j⟩ : Lm)) (L' := L) (show 1 + w ≤ L.v by omega) (Int.le_refl _) (Int.le_refl _) hB4.1)).1
          · rw [h] at ht; cases ht
        have z1 : ([] : List Int).length + l.length < 17592186044416 := by simp; omega
        have z2 : l.length + m.length < 17592186044416 := by omega
        have z4 : (n.length : Int) ≤ ((l ++ m).length : Int) := by omega
        have e2 : wrap64 (c + d) = c + d := w64 (by omega) (by omega)
        have g1 : ((c + d == c + d) && ((0 : Int) == 0 && ((0 : Int) == 0))) = true := by simp
        rw [if_pos rfl, ambidextertop_TopConcatenatedProfiles.j0, if_neg (by decide)]
        simp only [Option.bind_some, List.nil_append]
        rw [if_pos z1, if_pos z2, hf]
        simp only [Option.bind_some]
        rw [if_pos trivial, e2, if_pos g1, hw]
        simp only [Option.bind_some]
        rw [if_pos trivial, if_pos trivial, if_pos z4]
        cases t with
        | false => rfl
        | true =>
          have := hs rfl
          rw [if_pos rfl, decide_eq_true (show (s.length : Int) ≥ (n.length : Int) from by clear e2; omega)]
      · exact absurd ⟨_, hp⟩ hno
    · rw [if_pos rfl, ambidextertop_TopConcatenatedProfiles.j0, if_pos (by decide)]
  · rw [if_neg Bool.false_ne_true, ambidextertop_TopConcatenatedProfiles.j0, if_pos rfl]
end Go.Proofs.Ytmmaodlngnjmlaa.Pure
