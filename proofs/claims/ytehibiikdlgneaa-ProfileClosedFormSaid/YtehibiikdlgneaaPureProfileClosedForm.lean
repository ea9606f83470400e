/- The closed form of the final state. -/
import Derived.Test.YtehibiikdlgneaaXLaw21
import Derived.Test.YtehibiikdlgneaaP8
namespace Go.Proofs.Ytehibiikdlgneaa.Pure
set_option linter.unusedSimpArgs false
set_option linter.unusedVariables false
open Go.RowKit Go.Proofs.Ytehibiikdlgneaa.P Go.Proofs.YtehibiikdlgneaaW.PrintWords Go.Proofs.YtehibiikdlgneaaW.PrintLast Go.Proofs.YtehibiikdlgneaaW.PrintMore Go.Proofs.Ytehibiikdlgneaa.Ticks
theorem mulb {x y X Y : Int} (h0 : 0 ≤ x) (h1 : x ≤ X) (hY : 0 ≤ Y) (h2 : -Y ≤ y) (h3 : y ≤ Y) : -(X * Y) ≤ x * y ∧ x * y ≤ X * Y := by
  have a1 : x * y ≤ x * Y := Int.mul_le_mul_of_nonneg_left h3 h0
  have a2 : x * Y ≤ X * Y := Int.mul_le_mul_of_nonneg_right h1 hY
  have a3 : x * (-Y) ≤ x * y := Int.mul_le_mul_of_nonneg_left h2 h0
  rw [Int.mul_neg] at a3
  omega
theorem T_small {n : Nat} (h : n ≤ 301) : 0 ≤ T n ∧ T n ≤ 90601 := by
  obtain ⟨h0, h1⟩ := T_le n
  have : (n : Int) * n ≤ 301 * 301 := Int.mul_le_mul (by omega) (by omega) (by omega) (by omega)
  omega
theorem closed_l1 {p v a : Int} {l : List Int} (g : Good l) (hp : -32768 ≤ p ∧ p ≤ 32767) (hv : -32768 ≤ v ∧ v ≤ 32767) (ha : -32768 ≤ a ∧ a ≤ 32767) : ∀ (m i : Nat), i + m = l.length →
    ambidexterlaw21_ProfileClosedForm.l1 (m + 1) p v a l true (fin p v a (l.drop (l.length - i))).1 (fin p v a (l.drop (l.length - i))).2.1 (fin p v a l).2.2 i (T i) i = some true
  | 0, i, h => by
    have hl := g.1
    have e : l.drop (l.length - i) = l := by rw [show l.length - i = 0 by omega]; rfl
    rw [ambidexterlaw21_ProfileClosedForm.l1, if_neg (by omega), e, if_pos rfl, motion hp hv ha]
    simp only [Option.bind_some]
    rw [final_sm (good_sm g hp hv ha)]
    simp
  | m + 1, i, h => by
    have hl := g.1
    have hi : l.length - 1 - i < l.length := by omega
    have ed : l.drop (l.length - (i + 1)) = l[l.length - 1 - i] :: l.drop (l.length - i) := by
      rw [show l.length - (i + 1) = l.length - 1 - i by omega, drop_at hi, show l.length - 1 - i + 1 = l.length - i by omega]
    have hdl : (l.drop (l.length - i)).length = i := by simp; omega
    have hs : Sm p v a (l.drop (l.length - i)) := ⟨fun j hj => by have := g.2 j (List.mem_of_mem_drop hj); omega, by rw [hdl]; omega, by rw [hdl]; omega, by rw [hdl]; omega⟩
    obtain ⟨f1, f2, f3⟩ := fin_bound hs
    have ei : wrap64 (wrap64 ((l.length : Int) - 1) - (i : Int)) = ((l.length - 1 - i : Nat) : Int) := by rw [w64 (x := (l.length : Int) - 1) (by omega) (by omega), w64 (by omega) (by omega)]; omega
    have hj := g.2 _ (List.getElem_mem hi)
    have hT := T_small (n := i + 1) (by omega)
    have eT : T i + ((i : Int) + 1) = T (i + 1) := rfl
    have hT0 := T_small (n := i) (by omega)
    obtain ⟨q1, q2⟩ := mulb (x := (i : Int) + 1) (y := a) (X := 301) (Y := 32768) (by omega) (by omega) (by omega) (by omega) (by omega)
    obtain ⟨q3, q4⟩ := mulb (x := (i : Int) + 1) (y := l[l.length - 1 - i]) (X := 301) (Y := 1024) (by omega) (by omega) (by omega) (by omega) (by omega)
    obtain ⟨q5, q6⟩ := mulb (x := T (i + 1)) (y := l[l.length - 1 - i]) (X := 90601) (Y := 1024) (by omega) (by omega) (by omega) (by omega) (by omega)
    have hf := fin_shift (l.drop (l.length - i)) p v a (v + (a + l[l.length - 1 - i])) (a + l[l.length - 1 - i]) l[l.length - 1 - i]
    rw [hdl] at hf
    have k1 : (fin p v a (l.drop (l.length - (i + 1)))).1 = (fin p v a (l.drop (l.length - i))).1 + v + ((i : Int) + 1) * a + T (i + 1) * l[l.length - 1 - i] := by
      rw [ed, fin, hf]
      simp only [T, Int.add_mul, Int.mul_add, Int.one_mul]
      omega
    have k2 : (fin p v a (l.drop (l.length - (i + 1)))).2.1 = (fin p v a (l.drop (l.length - i))).2.1 + a + ((i : Int) + 1) * l[l.length - 1 - i] := by
      rw [ed, fin, hf]
      simp only [T, Int.add_mul, Int.mul_add, Int.one_mul]
      omega
    have ih := closed_l1 g hp hv ha m (i + 1) (by omega)
    rw [k1, k2] at ih
    rw [ambidexterlaw21_ProfileClosedForm.l1, if_pos (by omega), ei, if_pos (by omega), if_pos (by omega), rd_at hi,
      w64 (x := v) (by omega) (by omega), w64 (x := a) (by omega) (by omega), w64 (x := (i : Int) + 1) (by omega) (by omega), w64 (x := ((i : Int) + 1) * a) (by omega) (by omega), w64 (x := T i + ((i : Int) + 1)) (by omega) (by omega), eT,
      w64 (x := T (i + 1) * l[l.length - 1 - i]) (by omega) (by omega), w64 (x := ((i : Int) + 1) * l[l.length - 1 - i]) (by omega) (by omega)]
    rw [w64 (x := (fin p v a (l.drop (l.length - i))).1 + v) (by omega) (by omega), w64 (x := (fin p v a (l.drop (l.length - i))).1 + v + ((i : Int) + 1) * a) (by omega) (by omega), w64 (x := (fin p v a (l.drop (l.length - i))).1 + v + ((i : Int) + 1) * a + T (i + 1) * l[l.length - 1 - i]) (by omega) (by omega),
      w64 (x := (fin p v a (l.drop (l.length - i))).2.1 + a) (by omega) (by omega), w64 (x := (fin p v a (l.drop (l.length - i))).2.1 + a + ((i : Int) + 1) * l[l.length - 1 - i]) (by omega) (by omega)]
    exact ih
theorem closed_l0 {p v a : Int} {l : List Int} (g : Good l) (hp : -32768 ≤ p ∧ p ≤ 32767) (hv : -32768 ≤ v ∧ v ≤ 32767) (ha : -32768 ≤ a ∧ a ≤ 32767) : ∀ (m i : Nat), i + m = l.length →
    ambidexterlaw21_ProfileClosedForm.l0 (m + 1 + (l.length + 1)) p v a l true p v (fin p v a (l.take i)).2.2 i = some true
  | 0, i, h => by
    have hl := g.1
    have e : l.take i = l := List.take_of_length_le (by omega)
    have h1 := closed_l1 g hp hv ha l.length 0 (by omega)
    rw [Nat.sub_zero, List.drop_of_length_le (Nat.le_refl _)] at h1
    rw [show 0 + 1 + (l.length + 1) = (l.length + 1) + 1 by omega, ambidexterlaw21_ProfileClosedForm.l0, if_neg (by omega), e]
    exact h1
  | m + 1, i, h => by
    have hl := g.1
    have hi : i < l.length := by omega
    have hj := g.2 _ (List.getElem_mem hi)
    have hdl : (l.take i).length = i := by simp; omega
    have hs : Sm p v a (l.take i) := ⟨fun j hj => by have := g.2 j (List.mem_of_mem_take hj); omega, by rw [hdl]; omega, by rw [hdl]; omega, by rw [hdl]; omega⟩
    obtain ⟨f1, f2, f3⟩ := fin_bound hs
    have e : (fin p v a (l.take (i + 1))).2.2 = (fin p v a (l.take i)).2.2 + l[i] := by
      rw [List.take_add_one, List.getElem?_eq_getElem hi, fin_append]
      rfl
    rw [show m + 1 + 1 + (l.length + 1) = (m + 1 + (l.length + 1)) + 1 by omega, ambidexterlaw21_ProfileClosedForm.l0, if_pos (by omega), if_pos (by omega), rd_at hi, w64 (x := (fin p v a (l.take i)).2.2 + l[i]) (by omega) (by omega), wi (by omega) hi, ← e]
    exact closed_l0 g hp hv ha m (i + 1) (by omega)
theorem ProfileClosedForm : ∀ (a0 : Int) (a1 : Int) (a2 : Int) (l3 : List Int), (Lit.int .i16 a0).wf = true → (Lit.int .i16 a1).wf = true → (Lit.int .i16 a2).wf = true → (l3.length ≤ maxLen ∧ ∀ y0_ ∈ l3, (Lit.int .i64 y0_).wf = true) → ∃ k, ambidexterlaw21_ProfileClosedForm.f k a0 a1 a2 l3 = some true := by
  rintro p v a l hp hv ha -
  have hp := bounds_i16 hp
  have hv := bounds_i16 hv
  have ha := bounds_i16 ha
  obtain ⟨x, hx, hg⟩ := great l
  refine ⟨980 + 20, ?_⟩
  unfold ambidexterlaw21_ProfileClosedForm.f
  rw [head21, hx _ (by omega)]
  simp only [Option.bind_some]
  cases x with
  | true => rfl
  | false =>
    have g := hg rfl
    have hl := g.1
    rw [if_neg (by decide), w64 (x := p) (by omega) (by omega), w64 (x := v) (by omega) (by omega), w64 (x := a) (by omega) (by omega)]
    have := closed_l0 g hp hv ha l.length 0 (by omega)
    exact at_rounds (fun k' => (ambidexterlaw21_ProfileClosedForm.mono_l k').1 _ _ _ _ _ _ _ _ _) (by omega) this
end Go.Proofs.Ytehibiikdlgneaa.Pure
