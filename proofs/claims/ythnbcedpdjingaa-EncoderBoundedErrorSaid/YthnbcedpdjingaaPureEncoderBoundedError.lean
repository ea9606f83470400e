/- The estimate is within 8 sub-counts of the joint's position after every reading and every order: for every sequence of at most 200 ticks. -/
import Derived.Test.YthnbcedpdjingaaXEnc24
import Derived.Test.YthnbcedpdjingaaP5
namespace Go.Proofs.Ythnbcedpdjingaa.Pure
open Go.RowKit Go.Proofs.Ythnbcedpdjingaa.P Go.Proofs.YthnbcedpdjingaaW.PrintWords Go.Proofs.YthnbcedpdjingaaW.PrintLast
theorem bounded_step (l : List S35) (m : Nat) (i at_ last kd a b c a' b' c' base : Int) (h0 : 0 ≤ i) (hlt : i < (l.length : Int)) (hlen : l.length ≤ 200) (hx : ok35 (rd_T35 l i))
    (hobs : encoder_Observe.f a b c kd last = some (a', b', c')) (e1 : -4294967296 ≤ at_) (e2 : at_ ≤ 4294967296) (e3 : -4294967296 ≤ base) (e4 : base ≤ 4294967296) (ha : a' = base / 16) (hb : b' = at_ - base) (hc0 : 0 ≤ c') (hc1 : c' ≤ 1000) :
    ambidexterlaw24_EncoderBoundedError.j1 (m + 2) l true at_ last i kd a b c = ambidexterlaw24_EncoderBoundedError.l0 m l true (at_ + (rd_T35 l i).f0) last (i + 1) a' (b' + (rd_T35 l i).f0) c' := by
  have hx0 := bounds_i16 hx.1
  simp only [ambidexterlaw24_EncoderBoundedError.j1, ambidexterlaw24_EncoderBoundedError.j2]
  generalize (rd_T35 l i).f0 = o at hx0 ⊢
  rw [hobs]
  simp only [Option.bind_some]
  rw [estimate (by unfold May; omega)]
  simp only [Option.bind_some]
  rw [w64 (x := 16 * a' + b' + 8 - at_) (by omega) (by omega), if_neg (by omega), decide_eq_false (by omega), if_neg (by decide), if_pos h0, if_pos hlt, w64 (x := o) (by omega) (by omega), w64 (x := at_ + o) (by omega) (by omega), w64 (x := i + 1) (by omega) (by omega), command (by omega) (by omega)]
  simp only [Option.bind_some]
  rw [estimate (by unfold May; omega)]
  simp only [Option.bind_some]
  rw [w64 (x := 16 * a' + (b' + o) + 8 - (at_ + o)) (by omega) (by omega), if_neg (by omega), if_neg (by omega)]
theorem bounded_loop (l : List S35) (hl : ∀ x ∈ l, ok35 x) (hlen : l.length ≤ 200) (d : Nat) : ∀ (k : Nat) (i at_ last a b c base : Int), 0 ≤ i → i ≤ l.length → (l.length : Int) - i = d → 3 * d + 1 ≤ k →
    -2147483648 - 32768 * i ≤ at_ → at_ ≤ 2147483648 + 32768 * i → -2147483648 - 32768 * i ≤ base → base ≤ 2147483648 + 32768 * i → a = base / 16 → b = at_ - base → 0 ≤ c → c ≤ i →
    ambidexterlaw24_EncoderBoundedError.l0 k l true at_ last i a b c = some true := by
  induction d with
  | zero =>
    intro k i at_ last a b c base h0 h1 hd hk _ _ _ _ _ _ _ _
    obtain ⟨k, rfl⟩ : ∃ m, k = m + 1 := ⟨k - 1, by omega⟩
    simp only [ambidexterlaw24_EncoderBoundedError.l0]
    rw [if_neg (by omega)]
  | succ d ih =>
    intro k i at_ last a b c base h0 h1 hd hk e1 e2 e3 e4 ha hb hc0 hc1
    obtain ⟨k, rfl⟩ : ∃ m, k = m + 3 := ⟨k - 3, by omega⟩
    have hlt : i < (l.length : Int) := by omega
    have hx : ok35 (rd_T35 l i) := hl _ (rd_in z35 l i h0 hlt)
    have hx0 := bounds_i16 hx.1
    simp only [ambidexterlaw24_EncoderBoundedError.l0]
    rw [if_pos hlt, if_pos h0]
    by_cases hg : Int.tmod (wrap64 (rd_T35 l i).f1) 4 = 1
    · rw [if_pos hg, quant (by omega) (by omega)]
      simp only [Option.bind_some]
      rw [bounded_step l k i at_ (at_ / 16) _ a b c (at_ / 16) 0 0 at_ h0 hlt hlen hx (by rw [hg]; rfl) (by omega) (by omega) (by omega) (by omega) rfl (by omega) (by omega) (by omega)]
      exact ih k (i + 1) _ _ _ _ _ at_ (by omega) (by omega) (by omega) (by omega) (by omega) (by omega) (by omega) (by omega) rfl (by omega) (by omega) (by omega)
    · rw [if_neg hg]
      rw [bounded_step l k i at_ last _ a b c a b (c + 1) base h0 hlt hlen hx (by unfold encoder_Observe.f; rw [if_neg hg, w64 (by omega) (by omega)]) (by omega) (by omega) (by omega) (by omega) ha hb (by omega) (by omega)]
      exact ih k (i + 1) _ _ _ _ _ base (by omega) (by omega) (by omega) (by omega) (by omega) (by omega) (by omega) (by omega) ha (by omega) (by omega) (by omega)
theorem EncoderBoundedError : ∀ (a0 : Int) (l1 : List (S35)), (Lit.int .i32 a0).wf = true → (l1.length ≤ maxLen ∧ ∀ y0_ ∈ l1, ok35 y0_) → ∃ k, ambidexterlaw24_EncoderBoundedError.f k a0 l1 = some true := by
  rintro x l hx ⟨-, hl⟩
  have hx := bounds_i32 hx
  refine ⟨3 * l.length + 1, ?_⟩
  unfold ambidexterlaw24_EncoderBoundedError.f
  rw [head24]
  simp only [Option.bind_some]
  by_cases c : (l.length : Int) > 200
  · rw [if_pos c]
  rw [if_neg c, w64 (by omega) (by omega), new_ (by omega) (by omega), quant (by omega) (by omega)]
  simp only [Option.bind_some]
  exact bounded_loop l hl (by omega) l.length _ 0 x _ _ _ _ x (by omega) (by omega) (by omega) (by omega) (by omega) (by omega) (by omega) (by omega) rfl (by omega) (by omega) (by omega)
end Go.Proofs.Ythnbcedpdjingaa.Pure
