/- One period of the servo loop in plain numbers, for every state within bounds. -/
import Derived.Test.YtmmaodlngnjmlaaP3
import Derived.Test.YtmmaodlngnjmlaaPK
import Derived.OpenShut
import Derived.IntWalk
namespace Go.Proofs.Ytmmaodlngnjmlaa.Pure
set_option linter.unusedSimpArgs false
set_option linter.unusedVariables false
open Go.RowKit Go.Proofs.Ytmmaodlngnjmlaa.P Go.Proofs.YtmmaodlngnjmlaaW.PrintWords Go.Proofs.YtmmaodlngnjmlaaW.PrintLast Go.Proofs.YtmmaodlngnjmlaaW.PrintMore

theorem v64 {x : Int} (h0 : -9223372036854775808 ≤ x) (h1 : x ≤ 9223372036854775807) : wrap64 x = x := by unfold wrap64; omega
theorem quot16 (x : Int) : Int.tdiv x 16 = if Int.tmod x 16 < 0 then x / 16 + 1 else x / 16 := by
  rcases Int.le_total 0 x with h | h
  · rw [Int.tdiv_eq_ediv_of_nonneg h, Int.tmod_eq_emod_of_nonneg h, if_neg (by omega)]
  · obtain ⟨y, rfl⟩ : ∃ y, x = -y := ⟨-x, by omega⟩
    rw [Int.neg_tdiv, Int.neg_tmod, Int.tdiv_eq_ediv_of_nonneg (by omega), Int.tmod_eq_emod_of_nonneg (by omega)]
    split <;> omega
theorem quant {x : Int} (h0 : -4611686018427387904 ≤ x) (h1 : x ≤ 4611686018427387904) : encoder_Quantize.f x = some (x / 16) := by
  unfold encoder_Quantize.f
  have hq := quot16 x
  by_cases c : Int.tmod x 16 < 0
  · rw [if_pos c] at hq ⊢
    rw [hq, v64 (x := x / 16 + 1) (by omega) (by omega), v64 (by omega) (by omega)]
    congr 1
    omega
  · rw [if_neg c] at hq ⊢
    rw [hq, v64 (by omega) (by omega)]
theorem snew {x : Int} (h0 : -4611686018427387904 ≤ x) (h1 : x ≤ 4611686018427387904) : servo_New.f x = some (x / 16, 0, 0, 0, false) := by
  unfold servo_New.f encoder_New.f
  rw [quant h0 h1]
  rfl
/-- A state of the loop: count, moved, age, order, lost. -/
structure Sv where
  c : Int
  m : Int
  g : Int
  o : Int
  l : Bool
def clamp (x : Int) : Int := if x > 128 then 128 else if x < -128 then -128 else x
theorem clamp_in (x : Int) : -128 ≤ clamp x ∧ clamp x ≤ 128 := by unfold clamp; split <;> (try split) <;> omega
def far (s : Sv) (t : Int) : Int := 16 * t + 8 - (16 * s.c + s.m + 8)
def hear (s : Sv) (k n : Int) : Sv := if k = 1 then ⟨n, 0, 0, s.o, s.l⟩ else ⟨s.c, s.m, s.g + 1, s.o, s.l || decide (s.g + 1 > 6)⟩
def say (s : Sv) (t : Int) : Int := if s.l = true then 0 else clamp (far s t)
def period (s : Sv) (k n t : Int) : Sv := ⟨(hear s k n).c, (hear s k n).m + say (hear s k n) t, (hear s k n).g, say (hear s k n) t, (hear s k n).l⟩
/-- Within bounds, i periods after the start. -/
def Bd (i : Nat) (s : Sv) : Prop := -1048576 ≤ s.c ∧ s.c ≤ 1048576 ∧ -(128 * (i : Int)) ≤ s.m ∧ s.m ≤ 128 * (i : Int) ∧ 0 ≤ s.g ∧ s.g ≤ i
theorem say_in (s : Sv) (t : Int) : -128 ≤ say s t ∧ say s t ≤ 128 := by
  unfold say
  split
  · omega
  · exact clamp_in _
theorem hear_bd {i : Nat} {s : Sv} (h : Bd i s) {k n : Int} (hn : -1048576 ≤ n ∧ n ≤ 1048576) : -1048576 ≤ (hear s k n).c ∧ (hear s k n).c ≤ 1048576 ∧ -(128 * (i : Int)) ≤ (hear s k n).m ∧ (hear s k n).m ≤ 128 * (i : Int) ∧ 0 ≤ (hear s k n).g ∧ (hear s k n).g ≤ i + 1 := by
  obtain ⟨h1, h2, h3, h4, h5, h6⟩ := h
  unfold hear
  split
  · dsimp only; omega
  · dsimp only; omega
theorem Bd.next {i : Nat} {s : Sv} (h : Bd i s) {k n t : Int} (hn : -1048576 ≤ n ∧ n ≤ 1048576) : Bd (i + 1) (period s k n t) := by
  obtain ⟨h1, h2, h3, h4, h5, h6⟩ := hear_bd h (k := k) hn
  have ho := say_in (hear s k n) t
  unfold Bd period
  dsimp only
  omega
theorem mn_mx (x : Int) : mx (-128) (mn x 128) = clamp x := by
  unfold mx mn clamp
  split <;> split <;> (try split) <;> omega
theorem err {a b t : Int} (g o : Int) (l : Bool) (h1 : -1048576 ≤ a ∧ a ≤ 1048576) (h2 : -4294967296 ≤ b ∧ b ≤ 4294967296) (h3 : -1048576 ≤ t ∧ t ≤ 1048576) : servo_TrackingError.f a b g o l t = some (16 * t + 8 - (16 * a + b + 8)) := by
  unfold servo_TrackingError.f encoder_Estimate.f
  simp only [Option.bind_some]
  rw [v64 (x := a * 16) (by omega) (by omega), v64 (x := a * 16 + b) (by omega) (by omega), v64 (x := a * 16 + b + 8) (by omega) (by omega), v64 (x := t * 16) (by omega) (by omega), v64 (x := t * 16 + 8) (by omega) (by omega), v64 (by omega) (by omega)]
  congr 1
  omega
theorem hear_eq {i : Nat} (hi : i ≤ 100000) {s : Sv} (h : Bd i s) (k n : Int) : servo_loop_hear.f s.c s.m s.g s.o s.l k n = some ((hear s k n).c, (hear s k n).m, (hear s k n).g, (hear s k n).o, (hear s k n).l) := by
  obtain ⟨h1, h2, h3, h4, h5, h6⟩ := h
  unfold servo_loop_hear.f encoder_Observe.f hear
  by_cases c : k = 1
  · rw [if_pos c, if_pos c]
    simp
  · rw [if_neg c, if_neg c, v64 (by omega) (by omega)]
    simp only [Option.bind_some]
    by_cases c2 : s.g + 1 > 6
    · rw [if_pos c2]; simp [c2]
    · rw [if_neg c2]; simp [c2]
theorem order_eq {i : Nat} (hi : i ≤ 100000) {s : Sv} (h3 : -(128 * (i : Int)) ≤ s.m) (h4 : s.m ≤ 128 * (i : Int)) {o : Int} (ho : -128 ≤ o ∧ o ≤ 128) : servo_loop_order.f s.c s.m s.g s.o s.l o = some (s.c, s.m + o, s.g, o, s.l) := by
  unfold servo_loop_order.f encoder_Command.f
  rw [v64 (by omega) (by omega)]
  rfl
theorem step_eq {i : Nat} (hi : i ≤ 100000) {s : Sv} (h : Bd i s) {k n t : Int} (hn : -1048576 ≤ n ∧ n ≤ 1048576) (ht : -1048576 ≤ t ∧ t ≤ 1048576) :
    servo_Step.f s.c s.m s.g s.o s.l k n t = some ((period s k n t).c, (period s k n t).m, (period s k n t).g, (period s k n t).o, (period s k n t).l, (period s k n t).o) := by
  unfold servo_Step.f
  rw [hear_eq hi h]
  obtain ⟨h1, h2, h3, h4, h5, h6⟩ := hear_bd h (k := k) hn
  have ho := say_in (hear s k n) t
  simp only [Option.bind_some]
  have e : (if (hear s k n).l = true then some 0 else (servo_TrackingError.f (hear s k n).c (hear s k n).m (hear s k n).g (hear s k n).o (hear s k n).l t).bind fun te => servo_within_int.f te (-128) 128) = some (say (hear s k n) t) := by
    unfold say
    by_cases c : (hear s k n).l = true
    · rw [if_pos c, if_pos c]
    · rw [if_neg c, if_neg c, err _ _ _ ⟨h1, h2⟩ (by omega) ht]
      simp only [Option.bind_some, servo_within_int.f]
      rw [mn_mx]
      rfl
  rw [e]
  simp only [Option.bind_some]
  rw [order_eq hi h3 h4 ho]
  rfl
theorem new_bd {x : Int} (h0 : -1000000 ≤ x) (h1 : x ≤ 1000000) : Bd 0 ⟨x / 16, 0, 0, 0, false⟩ := by unfold Bd; dsimp only; omega
end Go.Proofs.Ytmmaodlngnjmlaa.Pure
