/- The law's own helpers: its head, what motions it admits; when a stop is at rest. -/
import Derived.Test.YtjcefdockfbnaaaXStop28
import Derived.Test.YtjcefdockfbnaaaP3
import Derived.Test.YtjcefdockfbnaaaP3
import Derived.Test.YtjcefdockfbnaaaPK
import Derived.OpenShut
import Derived.IntWalk
namespace Go.Proofs.Ytjcefdockfbnaaa.Pure
set_option linter.unusedSimpArgs false
set_option linter.unusedVariables false
open Go Go.RowKit Go.Proofs.Ytjcefdockfbnaaa.P Go.Proofs.YtjcefdockfbnaaaW.PrintWords Go.Proofs.YtjcefdockfbnaaaW.PrintLast Go.Proofs.YtjcefdockfbnaaaW.PrintMore Go.Proofs.Ytjcefdockfbnaaa.Ramp Go.Proofs.Ytjcefdockfbnaaa.Motion Go.Proofs.Ytjcefdockfbnaaa.Search
theorem head28_ : ambidexterlaw28_head.f 2000 = some true := by kernel_rfl
theorem head28 {k : Nat} (h : 2000 ≤ k) : ambidexterlaw28_head.f k = some true := at_rounds ambidexterlaw28_head.mono h head28_
theorem may28 (V A J p v a : Int) : ∃ b, ambidexterref28_May.f V A J p v a = some b ∧ (b = true → 1 ≤ V ∧ V ≤ 8 ∧ okM A J ⟨p, v, a⟩ ∧ -1099511627776 ≤ p ∧ p ≤ 1099511627776) := by
  unfold ambidexterref28_May.f
  by_cases c1 : V < 1
  · rw [if_pos c1]; exact ⟨_, rfl, fun h => by cases h⟩
  rw [if_neg c1]
  by_cases c2 : V > 8
  · rw [if_pos c2]; exact ⟨_, rfl, fun h => by cases h⟩
  rw [if_neg c2]
  by_cases c3 : A < 1
  · rw [if_pos c3]; exact ⟨_, rfl, fun h => by cases h⟩
  rw [if_neg c3]
  by_cases c4 : A > 4
  · rw [if_pos c4]; exact ⟨_, rfl, fun h => by cases h⟩
  rw [if_neg c4]
  by_cases c5 : J < 1
  · rw [if_pos c5]; exact ⟨_, rfl, fun h => by cases h⟩
  rw [if_neg c5]
  by_cases c6 : J > 2
  · rw [if_pos c6]; exact ⟨_, rfl, fun h => by cases h⟩
  rw [if_neg c6, r64 (x := -A) (by omega) (by omega)]
  by_cases c7 : v ≥ -8
  · rw [if_pos c7]
    by_cases c8 : v ≤ 8
    · rw [if_pos c8]
      by_cases c9 : a ≥ -A
      · rw [if_pos c9]
        by_cases d1 : a ≤ A
        · rw [if_pos d1]
          by_cases d2 : p ≥ -1099511627776
          · rw [if_pos d2]
            refine ⟨_, rfl, fun h => ?_⟩
            have d3 := of_decide_eq_true h
            exact ⟨by omega, by omega, ⟨⟨by omega, by omega, by omega, by omega⟩, c7, c8, c9, d1, by dsimp only; omega, by dsimp only; omega⟩, by omega, d3⟩
          · rw [if_neg d2]; exact ⟨_, rfl, fun h => by cases h⟩
        · rw [if_neg d1]; exact ⟨_, rfl, fun h => by cases h⟩
      · rw [if_neg c9]; exact ⟨_, rfl, fun h => by cases h⟩
    · rw [if_neg c8]; exact ⟨_, rfl, fun h => by cases h⟩
  · rw [if_neg c7]; exact ⟨_, rfl, fun h => by cases h⟩
/-- A stop that is not over: it ends at rest, and no sooner. -/
theorem stop_facts {A J : Int} {m : Mo} (h : okM A J m) (hn : ¬ (m.v = 0 ∧ m.a = 0)) {cat : Int} (hc : cat = 0 ∨ cat = 1 ∨ cat = 2) :
    0 < (stopL A J m cat).length ∧ (stopL A J m cat).length ≤ 12 ∧ (cat = 0 → (stopL A J m cat).length ≤ 2) ∧ ∀ (i : Nat) (hi : i < (stopL A J m cat).length), ((stopL A J m cat)[i].v = 0 ∧ (stopL A J m cat)[i].a = 0) ↔ i = (stopL A J m cat).length - 1 := by
  obtain ⟨hL, h1, h2, h3, h4, h5, h6⟩ := id h
  by_cases c : cat = 1 ∨ cat = 2
  · obtain ⟨s1, s2, s3⟩ := bestJ_spec hL (v := m.v) (a := m.a) ⟨h1, h2⟩ ⟨h3, h4⟩
    have e : stopL A J m cat = trace m (bestJ A J (m.v, m.a)) := by unfold stopL; rw [if_neg hn, if_pos c]
    rw [e]
    obtain ⟨l, hl⟩ : ∃ l, l = bestJ A J (m.v, m.a) := ⟨_, rfl⟩
    rw [← hl] at s1 s2 ⊢
    have htl := trace28_length l m
    have hne : l ≠ [] := fun e0 => by
      have h0 := s1.1
      rw [e0] at h0
      have h00 : (m.v, m.a) = ((0, 0) : Va) := h0
      exact hn ⟨congrArg Prod.fst h00, congrArg Prod.snd h00⟩
    have hpos : 0 < l.length := List.length_pos_iff.2 hne
    refine ⟨by omega, by omega, fun e0 => by omega, fun i hi => ?_⟩
    rw [trace28_at l m i hi]
    have hva := run_va (l.take (i + 1)) m
    constructor
    · rintro ⟨r1, r2⟩
      rw [r1, r2] at hva
      have hp : VPath A J (m.v, m.a) (l.take (i + 1)) (0, 0) := by
        have h0 := s1.1
        rw [← List.take_append_drop (i + 1) l] at h0
        have h00 := vpath_prefix h0
        rw [← hva] at h00
        exact h00
      have := (s1.2 _ hp).1
      rw [List.length_take] at this
      omega
    · intro hi2
      rw [List.take_of_length_le (by omega), vpath_fold s1.1] at hva
      rw [List.take_of_length_le (by omega)]
      exact ⟨congrArg Prod.fst hva, congrArg Prod.snd hva⟩
  · have c0 : cat = 0 := by omega
    have e : stopL A J m cat = brk m := by unfold stopL; rw [if_neg hn, if_neg c, if_pos c0]
    rw [e]
    unfold brk
    by_cases c1 : less28 m.v = 0
    · rw [if_pos c1]
      refine ⟨by simp, by simp, fun _ => by simp, fun i hi => ?_⟩
      have hi0 : i = 0 := by simpa using hi
      subst hi0
      simp
    · rw [if_neg c1]
      refine ⟨by simp, by simp, fun _ => by simp, fun i hi => ?_⟩
      have hi2 : i = 0 ∨ i = 1 := by have : i < 2 := hi; omega
      rcases hi2 with rfl | rfl
      · simp [c1]
      · simp
theorem cat3 {a : Int} (h : (Lit.int .u8 a).wf = true) : ∃ c : Int, Int.tmod (wrap64 a) 3 = c ∧ (c = 0 ∨ c = 1 ∨ c = 2) := by
  have h := bounds_u8 h
  refine ⟨a % 3, ?_, by omega⟩
  rw [r64 (by omega) (by omega), Int.tmod_eq_emod_of_nonneg (by omega)]
end Go.Proofs.Ytjcefdockfbnaaa.Pure
