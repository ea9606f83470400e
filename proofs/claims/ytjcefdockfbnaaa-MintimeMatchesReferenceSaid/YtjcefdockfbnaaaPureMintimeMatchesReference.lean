/- The program and the reference give the same jerks. -/
import Derived.Test.YtjcefdockfbnaaaXFind22
import Derived.Test.YtjcefdockfbnaaaPK
import Derived.Test.YtjcefdockfbnaaaP5
namespace Go.Proofs.Ytjcefdockfbnaaa.Pure
set_option linter.unusedSimpArgs false
set_option linter.unusedVariables false
open Go.RowKit Go.Proofs.Ytjcefdockfbnaaa.P Go.Proofs.YtjcefdockfbnaaaW.PrintWords Go.Proofs.YtjcefdockfbnaaaW.PrintLast Go.Proofs.YtjcefdockfbnaaaW.PrintMore Go.Proofs.Ytjcefdockfbnaaa.Motion
theorem matches_at {v a j d : Int} {l : List Int} {b : Bool} (hl : l.length ≤ 1000000) {k : Nat} (h0 : 2000 ≤ k) (h3 : l.length + 1 ≤ k) (h1 : mintime_Profile.f k v a j d = some (l, b)) (h2 : ambidexterref22_Find.f k v a j d = some (l, b)) :
    ambidexterlaw22_MintimeMatchesReference.f k v a j d = some true := by
  have hd : mintime_Duration.f k v a j d = some ((l.length : Int), b) := duration (L := ⟨v, a, j⟩) h1
  unfold ambidexterlaw22_MintimeMatchesReference.f
  rw [head22 h0, h1, h2, hd]
  simp only [Option.bind_some]
  rw [if_pos trivial, same22 hl h3]
  simp
theorem MintimeMatchesReference : ∀ (x0 : S23) (a1 : Int), ok23 x0 → (Lit.int .i64 a1).wf = true → ∃ k, ambidexterlaw22_MintimeMatchesReference.f k x0.f0 x0.f1 x0.f2 a1 = some true := by
  intro x d hx ha
  by_cases c : ok ⟨x.f0, x.f1, x.f2⟩ ∧ 0 ≤ d ∧ d ≤ 420
  · obtain ⟨hL, d0, d1⟩ := c
    obtain ⟨k2, res, hk2, hp⟩ := find_ok hL d0 d1
    have hk2' : ambidexterref22_Find.f k2 x.f0 x.f1 x.f2 d = some res := hk2
    rcases profile_ok hL d0 d1 with ⟨l, K, hK, hB⟩ | ⟨⟨K, hK⟩, hno⟩
    · have hlen := best_len hL d0 d1 hB
      have e : res = (l, true) := by
        rcases hp with ⟨h1, h2⟩ | ⟨rfl, h2⟩
        · have := h2.unique hB
          cases res
          simp only at h1 this
          rw [h1, this]
        · exact absurd ⟨l, hB.1⟩ h2
      refine ⟨max (max 2000 (l.length + 1)) (max K k2), matches_at (b := true) (l := l) (by omega) (by omega) (by omega) (hK _ (by omega)) ?_⟩
      rw [← e]
      exact at_rounds (ambidexterref22_Find.mono _ _ _ _) (by omega) hk2'
    · have e : res = ([], false) := by
        rcases hp with ⟨h1, h2⟩ | ⟨rfl, h2⟩
        · exact absurd ⟨res.1, h2.1⟩ hno
        · rfl
      refine ⟨max 2000 (max K k2), matches_at (b := false) (l := []) (by simp) (by omega) (by simp; omega) (hK _ (by omega)) ?_⟩
      rw [← e]
      exact at_rounds (ambidexterref22_Find.mono _ _ _ _) (by omega) hk2'
  · exact ⟨2000, matches_at (b := false) (l := []) (by simp) (by omega) (by simp) (profile_no c 1999) (find_no c 1999)⟩
end Go.Proofs.Ytjcefdockfbnaaa.Pure
