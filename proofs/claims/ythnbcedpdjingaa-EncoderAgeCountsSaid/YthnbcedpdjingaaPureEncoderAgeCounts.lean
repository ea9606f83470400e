/- Age is the number of readings since the last good one; after a good reading the state does not depend on the initial one: for every sequence of at most 200 readings. -/
import Derived.Test.YthnbcedpdjingaaXEnc24
import Derived.Test.YthnbcedpdjingaaP6
namespace Go.Proofs.Ythnbcedpdjingaa.Pure
open Go.RowKit Go.Proofs.Ythnbcedpdjingaa.P Go.Proofs.YthnbcedpdjingaaW.PrintWords Go.Proofs.YthnbcedpdjingaaW.PrintLast
theorem age_loop (l : List S35) (hl : ∀ x ∈ l, ok35 x) (hlen : l.length ≤ 200) (p q s : Int) (d : Nat) : ∀ (k : Nat) (i age : Int) (good : Bool) (c0 c1 c2 d0 d1 d2 : Int), 0 ≤ i → i ≤ l.length → (l.length : Int) - i = d → d + 1 ≤ k →
    c2 = age → 0 ≤ age → age ≤ 549755813888 + i → 0 ≤ d2 → d2 ≤ 549755813888 + i → (good = true → c0 = d0 ∧ c1 = d1 ∧ c2 = d2) → (good = false → c0 = p ∧ c1 = q) →
    ambidexterlaw24_EncoderAgeCounts.l0 k l true age good i p q s c0 c1 c2 d0 d1 d2 = some true := by
  induction d with
  | zero =>
    intro k i age good c0 c1 c2 d0 d1 d2 h0 h1 hd hk _ _ _ _ _ _ hb
    obtain ⟨k, rfl⟩ : ∃ m, k = m + 1 := ⟨k - 1, by omega⟩
    simp only [ambidexterlaw24_EncoderAgeCounts.l0]
    rw [if_neg (by omega), if_pos trivial]
    cases good with
    | true => rfl
    | false =>
      obtain ⟨rfl, rfl⟩ := hb rfl
      simp
  | succ d ih =>
    intro k i age good c0 c1 c2 d0 d1 d2 h0 h1 hd hk ha ha0 ha1 hd0 hd1 hg hb
    obtain ⟨k, rfl⟩ : ∃ m, k = m + 1 := ⟨k - 1, by omega⟩
    have hlt : i < (l.length : Int) := by omega
    have hx : ok35 (rd_T35 l i) := hl _ (rd_in z35 l i h0 hlt)
    have hx0 := bounds_i16 hx.1
    have hx1 := bounds_u8 hx.2
    simp only [ambidexterlaw24_EncoderAgeCounts.l0]
    generalize rd_T35 l i = x at hx0 hx1 ⊢
    rw [if_pos hlt, if_pos h0, w64 (x := x.f1) (by omega) (by omega), w64 (x := x.f0) (by omega) (by omega), w64 (x := i + 1) (by omega) (by omega), w64 (x := age + 1) (by omega) (by omega)]
    by_cases c : x.f1 = 1
    · simp only [encoder_Observe.f, if_pos c, Option.bind_some]
      simp only [beq_self_eq_true, Bool.not_true, Bool.or_false, if_true]
      rw [if_neg (by decide)]
      exact ih k (i + 1) 0 true _ _ _ _ _ _ (by omega) (by omega) (by omega) (by omega) rfl (by omega) (by omega) (by omega) (by omega) (fun _ => ⟨rfl, rfl, rfl⟩) (fun h => by cases h)
    · simp only [encoder_Observe.f, if_neg c, Option.bind_some]
      rw [w64 (x := c2 + 1) (by omega) (by omega), w64 (x := d2 + 1) (by omega) (by omega), if_pos (by omega)]
      cases good with
      | true =>
        obtain ⟨rfl, rfl, rfl⟩ := hg rfl
        simp only [beq_self_eq_true, Bool.not_true, Bool.or_false, if_true]
        rw [if_neg (by decide)]
        exact ih k (i + 1) (age + 1) true _ _ _ _ _ _ (by omega) (by omega) (by omega) (by omega) (by omega) (by omega) (by omega) (by omega) (by omega) (fun _ => ⟨rfl, rfl, rfl⟩) (fun h => by cases h)
      | false =>
        rw [if_neg (by decide)]
        exact ih k (i + 1) (age + 1) false _ _ _ _ _ _ (by omega) (by omega) (by omega) (by omega) (by omega) (by omega) (by omega) (by omega) (by omega) (fun h => by cases h) hb
theorem EncoderAgeCounts : ∀ (x0 : S23) (x1 : S23) (l2 : List (S35)), ok23 x0 → ok23 x1 → (l2.length ≤ maxLen ∧ ∀ y0_ ∈ l2, ok35 y0_) → ∃ k, ambidexterlaw24_EncoderAgeCounts.f k x0.f0 x0.f1 x0.f2 x1.f0 x1.f1 x1.f2 l2 = some true := by
  rintro ⟨p, q, s⟩ ⟨p', q', s'⟩ l - - ⟨-, hl⟩
  refine ⟨l.length + 2, ?_⟩
  unfold ambidexterlaw24_EncoderAgeCounts.f
  rw [head24, may_, may_]
  simp only [Option.bind_some]
  by_cases c0 : ¬ May p q s
  · rw [decide_eq_false c0, if_neg (by decide)]; rfl
  replace c0 := Decidable.not_not.mp c0
  obtain ⟨h1, h2, h3, h4, h5, h6⟩ := c0
  rw [decide_eq_true (show May p q s from ⟨h1, h2, h3, h4, h5, h6⟩), if_pos rfl]
  by_cases c0 : ¬ May p' q' s'
  · rw [decide_eq_false c0, if_neg (by decide)]; rfl
  replace c0 := Decidable.not_not.mp c0
  obtain ⟨h1', h2', h3', h4', h5', h6'⟩ := c0
  rw [decide_eq_true (show May p' q' s' from ⟨h1', h2', h3', h4', h5', h6'⟩), if_pos rfl]
  by_cases c : (l.length : Int) > 200
  · rw [if_pos c]; rfl
  rw [if_neg c]
  by_cases c : s > 549755813888
  · rw [if_pos c]; rfl
  rw [if_neg c]
  by_cases c : s' > 549755813888
  · rw [decide_eq_true c]; rfl
  rw [decide_eq_false c]
  simp only [ambidexterlaw24_EncoderAgeCounts.j0]
  rw [if_neg (by decide)]
  exact age_loop l hl (by omega) p q s l.length _ 0 s false _ _ _ _ _ _ (by omega) (by omega) (by omega) (by omega) rfl (by omega) (by omega) (by omega) (by omega) (fun h => by cases h) (fun _ => ⟨rfl, rfl⟩)
end Go.Proofs.Ythnbcedpdjingaa.Pure
