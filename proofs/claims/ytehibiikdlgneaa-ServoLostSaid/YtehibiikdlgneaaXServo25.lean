/- One period of the servo loop in plain numbers, for every state within bounds; that the reference tells the same. -/
import Derived.Test.YtehibiikdlgneaaP2
import Derived.Test.YtehibiikdlgneaaP1
import Derived.Test.YtehibiikdlgneaaPK
import Derived.OpenShut
import Derived.IntWalk
namespace Go.Proofs.Ytehibiikdlgneaa.Pure
set_option linter.unusedSimpArgs false
set_option linter.unusedVariables false
open Go.RowKit Go.Proofs.Ytehibiikdlgneaa.P Go.Proofs.YtehibiikdlgneaaW.PrintWords Go.Proofs.YtehibiikdlgneaaW.PrintLast Go.Proofs.YtehibiikdlgneaaW.PrintMore

theorem v64 {x : Int} (h0 : -9223372036854775808 ≤ x) (h1 : x ≤ 9223372036854775807) : wrap64 x = x := by unfold wrap64; omega
theorem quot16 (x : Int) : Int.tdiv x 16 = if Int.tmod x 16 < 0 then x / 16 + 1 else x / 16 := by
  rcases Int.le_total 0 x with h | h
  · rw [Int.tdiv_eq_ediv_of_nonneg h, Int.tmod_eq_emod_of_nonneg h, if_neg (by omega)]
  · obtain ⟨y, rfl⟩ : ∃ y, x = -y := ⟨-x, by omega⟩
    rw [Int.neg_tdiv, Int.neg_tmod, Int.tdiv_eq_ediv_of_nonneg (by omega), Int.tmod_eq_emod_of_nonneg (by omega)]
    split <;> omega
theorem rem16 (x : Int) : Int.tmod x 16 = if x % 16 ≠ 0 ∧ x < 0 then x % 16 - 16 else x % 16 := by
  rcases Int.le_total 0 x with h | h
  · rw [Int.tmod_eq_emod_of_nonneg h, if_neg (by omega)]
  · obtain ⟨y, rfl⟩ : ∃ y, x = -y := ⟨-x, by omega⟩
    rw [Int.neg_tmod, Int.tmod_eq_emod_of_nonneg (by omega)]
    split <;> omega
theorem quant {x : Int} (h0 : -4611686018427387904 ≤ x) (h1 : x ≤ 4611686018427387904) : encoder_Quantize.f x = some (x / 16) := by
  unfold encoder_Quantize.f
  have hq := quot16 x
  by_cases c : Int.tmod x 16 < 0
  · rw [if_pos c] at hq ⊢
    rw [hq, v64 (x := x / 16 + 1) (by omega) (by omega), v64 (by omega) (by omega)]
    congr 1
    omega
  · rw [if_neg c] at hq ⊢
    rw [hq, v64 (by omega) (by omega)]
theorem rquant {x : Int} (h0 : -4611686018427387904 ≤ x) (h1 : x ≤ 4611686018427387904) : ambidexterref24_Quant.f x = some (x / 16) := by
  unfold ambidexterref24_Quant.f
  have hr := rem16 x
  by_cases c : Int.tmod x 16 < 0
  · rw [if_pos c]
    have hm : Int.tmod x 16 = x % 16 - 16 := by rw [hr]; rw [hr] at c; split at c <;> simp_all <;> omega
    rw [hm, v64 (x := x % 16 - 16 + 16) (by omega) (by omega), v64 (x := x - (x % 16 - 16 + 16)) (by omega) (by omega)]
    have e : x - (x % 16 - 16 + 16) = 16 * (x / 16) := by omega
    rw [e, Int.mul_tdiv_cancel_left _ (by omega), v64 (by omega) (by omega)]
  · rw [if_neg c]
    have hm : Int.tmod x 16 = x % 16 := by rw [hr]; rw [hr] at c; split at c <;> simp_all <;> omega
    rw [hm, v64 (x := x - x % 16) (by omega) (by omega)]
    have e : x - x % 16 = 16 * (x / 16) := by omega
    rw [e, Int.mul_tdiv_cancel_left _ (by omega), v64 (by omega) (by omega)]
theorem snew {x : Int} (h0 : -4611686018427387904 ≤ x) (h1 : x ≤ 4611686018427387904) : servo_New.f x = some (x / 16, 0, 0, 0, false) := by
  unfold servo_New.f encoder_New.f
  rw [quant h0 h1]
  rfl
theorem rsnew {x : Int} (h0 : -4611686018427387904 ≤ x) (h1 : x ≤ 4611686018427387904) : ambidexterref25_New.f x = some (x / 16, 0, 0, 0, false) := by
  unfold ambidexterref25_New.f ambidexterref24_New.f
  rw [rquant h0 h1]
  rfl

/-- A state of the loop: count, moved, age, order, lost. -/
structure Sv where
  c : Int
  m : Int
  g : Int
  o : Int
  l : Bool
def clamp (x : Int) : Int := if x > 128 then 128 else if x < -128 then -128 else x
theorem clamp_in (x : Int) : -128 ≤ clamp x ∧ clamp x ≤ 128 := by unfold clamp; split <;> (try split) <;> omega
def far (s : Sv) (t : Int) : Int := 16 * t + 8 - (16 * s.c + s.m + 8)
def hear (s : Sv) (k n : Int) : Sv := if k = 1 then ⟨n, 0, 0, s.o, s.l⟩ else ⟨s.c, s.m, s.g + 1, s.o, s.l || decide (s.g + 1 > 6)⟩
def say (s : Sv) (t : Int) : Int := if s.l = true then 0 else clamp (far s t)
def period (s : Sv) (k n t : Int) : Sv := ⟨(hear s k n).c, (hear s k n).m + say (hear s k n) t, (hear s k n).g, say (hear s k n) t, (hear s k n).l⟩
/-- Within bounds, i periods after the start. -/
def Bd (i : Nat) (s : Sv) : Prop := -1048576 ≤ s.c ∧ s.c ≤ 1048576 ∧ -(128 * (i : Int)) ≤ s.m ∧ s.m ≤ 128 * (i : Int) ∧ 0 ≤ s.g ∧ s.g ≤ i
theorem say_in (s : Sv) (t : Int) : -128 ≤ say s t ∧ say s t ≤ 128 := by
  unfold say
  split
  · omega
  · exact clamp_in _
theorem hear_bd {i : Nat} {s : Sv} (h : Bd i s) {k n : Int} (hn : -1048576 ≤ n ∧ n ≤ 1048576) : -1048576 ≤ (hear s k n).c ∧ (hear s k n).c ≤ 1048576 ∧ -(128 * (i : Int)) ≤ (hear s k n).m ∧ (hear s k n).m ≤ 128 * (i : Int) ∧ 0 ≤ (hear s k n).g ∧ (hear s k n).g ≤ i + 1 := by
  obtain ⟨h1, h2, h3, h4, h5, h6⟩ := h
  unfold hear
  split
  · dsimp only; omega
  · dsimp only; omega
theorem Bd.next {i : Nat} {s : Sv} (h : Bd i s) {k n t : Int} (hn : -1048576 ≤ n ∧ n ≤ 1048576) : Bd (i + 1) (period s k n t) := by
  obtain ⟨h1, h2, h3, h4, h5, h6⟩ := hear_bd h (k := k) hn
  have ho := say_in (hear s k n) t
  unfold Bd period
  dsimp only
  omega
theorem mn_mx (x : Int) : mx (-128) (mn x 128) = clamp x := by
  unfold mx mn clamp
  split <;> split <;> (try split) <;> omega
theorem err {a b t : Int} (g o : Int) (l : Bool) (h1 : -1048576 ≤ a ∧ a ≤ 1048576) (h2 : -4294967296 ≤ b ∧ b ≤ 4294967296) (h3 : -1048576 ≤ t ∧ t ≤ 1048576) : servo_TrackingError.f a b g o l t = some (16 * t + 8 - (16 * a + b + 8)) := by
  unfold servo_TrackingError.f encoder_Estimate.f
  simp only [Option.bind_some]
  rw [v64 (x := a * 16) (by omega) (by omega), v64 (x := a * 16 + b) (by omega) (by omega), v64 (x := a * 16 + b + 8) (by omega) (by omega), v64 (x := t * 16) (by omega) (by omega), v64 (x := t * 16 + 8) (by omega) (by omega), v64 (by omega) (by omega)]
  congr 1
  omega
theorem rerr {a b t : Int} (g o : Int) (l : Bool) (h1 : -1048576 ≤ a ∧ a ≤ 1048576) (h2 : -4294967296 ≤ b ∧ b ≤ 4294967296) (h3 : -1048576 ≤ t ∧ t ≤ 1048576) : ambidexterref25_Error.f a b g o l t = some (16 * t + 8 - (16 * a + b + 8)) := by
  unfold ambidexterref25_Error.f ambidexterref24_Guess.f
  simp only [Option.bind_some]
  rw [v64 (x := 16 * a) (by omega) (by omega), v64 (x := 16 * a + b) (by omega) (by omega), v64 (x := 16 * a + b + 8) (by omega) (by omega), v64 (x := 16 * t) (by omega) (by omega), v64 (x := 16 * t + 8) (by omega) (by omega), v64 (by omega) (by omega)]
theorem hear_eq {i : Nat} (hi : i ≤ 100000) {s : Sv} (h : Bd i s) (k n : Int) : servo_loop_hear.f s.c s.m s.g s.o s.l k n = some ((hear s k n).c, (hear s k n).m, (hear s k n).g, (hear s k n).o, (hear s k n).l) := by
  obtain ⟨h1, h2, h3, h4, h5, h6⟩ := h
  unfold servo_loop_hear.f encoder_Observe.f hear
  by_cases c : k = 1
  · rw [if_pos c, if_pos c]
    simp
  · rw [if_neg c, if_neg c, v64 (by omega) (by omega)]
    simp only [Option.bind_some]
    by_cases c2 : s.g + 1 > 6
    · rw [if_pos c2]; simp [c2]
    · rw [if_neg c2]; simp [c2]
theorem order_eq {i : Nat} (hi : i ≤ 100000) {s : Sv} (h3 : -(128 * (i : Int)) ≤ s.m) (h4 : s.m ≤ 128 * (i : Int)) {o : Int} (ho : -128 ≤ o ∧ o ≤ 128) : servo_loop_order.f s.c s.m s.g s.o s.l o = some (s.c, s.m + o, s.g, o, s.l) := by
  unfold servo_loop_order.f encoder_Command.f
  rw [v64 (by omega) (by omega)]
  rfl
theorem step_eq {i : Nat} (hi : i ≤ 100000) {s : Sv} (h : Bd i s) {k n t : Int} (hn : -1048576 ≤ n ∧ n ≤ 1048576) (ht : -1048576 ≤ t ∧ t ≤ 1048576) :
    servo_Step.f s.c s.m s.g s.o s.l k n t = some ((period s k n t).c, (period s k n t).m, (period s k n t).g, (period s k n t).o, (period s k n t).l, (period s k n t).o) := by
  unfold servo_Step.f
  rw [hear_eq hi h]
  obtain ⟨h1, h2, h3, h4, h5, h6⟩ := hear_bd h (k := k) hn
  have ho := say_in (hear s k n) t
  simp only [Option.bind_some]
  have e : (if (hear s k n).l = true then some 0 else (servo_TrackingError.f (hear s k n).c (hear s k n).m (hear s k n).g (hear s k n).o (hear s k n).l t).bind fun te => servo_within_int.f te (-128) 128) = some (say (hear s k n) t) := by
    unfold say
    by_cases c : (hear s k n).l = true
    · rw [if_pos c, if_pos c]
    · rw [if_neg c, if_neg c, err _ _ _ ⟨h1, h2⟩ (by omega) ht]
      simp only [Option.bind_some, servo_within_int.f]
      rw [mn_mx]
      rfl
  rw [e]
  simp only [Option.bind_some]
  rw [order_eq hi h3 h4 ho]
  rfl
theorem tick_eq {i : Nat} (hi : i ≤ 100000) {s : Sv} (h : Bd i s) {k n t : Int} (hn : -1048576 ≤ n ∧ n ≤ 1048576) (ht : -1048576 ≤ t ∧ t ≤ 1048576) {q : Nat} (hq : 2 ≤ q) :
    ambidexterref25_Tick.f q s.c s.m s.g s.o s.l k n t = some ((period s k n t).c, (period s k n t).m, (period s k n t).g, (period s k n t).o, (period s k n t).l, (period s k n t).o) := by
  obtain ⟨q, rfl⟩ : ∃ q', q = q' + 2 := ⟨q - 2, by omega⟩
  have hb := h
  obtain ⟨b1, b2, b3, b4, b5, b6⟩ := hb
  obtain ⟨h1, h2, h3, h4, h5, h6⟩ := hear_bd h (k := k) hn
  have ho := say_in (hear s k n) t
  have hj1 : ∀ (x : Int) (hx : (if x < -128 then -128 else x) = (if far (hear s k n) t > 128 then 128 else if far (hear s k n) t < -128 then -128 else far (hear s k n) t)), ambidexterref25_Tick.j1 (q + 1) x (hear s k n).c (hear s k n).m (hear s k n).g s.o (hear s k n).l =
      some ((period s k n t).c, (period s k n t).m, (period s k n t).g, (period s k n t).o, (period s k n t).l, (period s k n t).o) := by
    intro x hx
    have hcl : clamp (far (hear s k n) t) = if x < -128 then -128 else x := by unfold clamp; rw [hx]
    have hT : ∀ o : Int, -128 ≤ o ∧ o ≤ 128 → ambidexterref24_Tell.f (hear s k n).c (hear s k n).m (hear s k n).g o = some ((hear s k n).c, (hear s k n).m + o, (hear s k n).g) := fun o ho => by
      unfold ambidexterref24_Tell.f
      rw [v64 (by omega) (by omega)]
    rw [ambidexterref25_Tick.j1]
    unfold period
    by_cases c1 : x < -128
    · rw [if_pos c1] at hcl ⊢
      by_cases c2 : (hear s k n).l = true
      · rw [if_pos c2, hT 0 (by omega)]; simp [say, c2]
      · rw [if_neg c2, hT (-128) (by omega)]; simp [say, c2, hcl]
    · rw [if_neg c1] at hcl ⊢
      have hcb := clamp_in (far (hear s k n) t)
      by_cases c2 : (hear s k n).l = true
      · rw [if_pos c2, hT 0 (by omega)]; simp [say, c2]
      · rw [if_neg c2, hT x (by omega)]; simp [say, c2, hcl]
  have hj0 : ambidexterref25_Tick.j0 (q + 2) t (hear s k n).c (hear s k n).m (hear s k n).g s.o (hear s k n).l =
      some ((period s k n t).c, (period s k n t).m, (period s k n t).g, (period s k n t).o, (period s k n t).l, (period s k n t).o) := by
    rw [ambidexterref25_Tick.j0, rerr _ _ _ ⟨h1, h2⟩ (by omega) ht]
    simp only [Option.bind_some]
    by_cases c : 16 * t + 8 - (16 * (hear s k n).c + (hear s k n).m + 8) > 128
    · rw [if_pos c]
      exact hj1 128 (by rw [if_neg (by omega), if_pos (show far (hear s k n) t > 128 from c)])
    · rw [if_neg c]
      exact hj1 _ (by rw [if_neg (show ¬ far (hear s k n) t > 128 from c)]; rfl)
  unfold ambidexterref25_Tick.f ambidexterref24_Hear.f
  have e : hear s k n = if k = 1 then ⟨n, 0, 0, s.o, s.l⟩ else ⟨s.c, s.m, s.g + 1, s.o, s.l || decide (s.g + 1 > 6)⟩ := rfl
  by_cases c : k = 1
  · rw [if_pos c] at e ⊢
    rw [e] at hj0
    simp only [Option.bind_some]
    by_cases c2 : s.l = true
    · rw [if_pos c2]; rw [c2] at hj0; exact hj0
    · rw [if_neg c2]
      have c3 : s.l = false := by simpa using c2
      rw [c3] at hj0
      simpa using hj0
  · rw [if_neg c] at e ⊢
    rw [e] at hj0
    rw [v64 (by omega) (by omega)]
    simp only [Option.bind_some]
    by_cases c2 : s.l = true
    · rw [if_pos c2]; rw [c2] at hj0; simpa using hj0
    · rw [if_neg c2]
      have c3 : s.l = false := by simpa using c2
      rw [c3] at hj0
      simpa using hj0

/-! ### The law's inputs -/
theorem head25 : ambidexterlaw25_head.f = some true := by kernel_rfl
theorem sight_at {l : List S54} {i : Nat} (h : i < l.length) : rd_T54 l (i : Int) = l[i] := by simp [rd_T54, List.getD_eq_getElem?_getD, List.getElem?_eq_getElem h]
def In16 (x : S54) : Prop := 0 ≤ x.f0 ∧ x.f0 ≤ 255 ∧ -32768 ≤ x.f1 ∧ x.f1 ≤ 32767 ∧ -32768 ≤ x.f2 ∧ x.f2 ≤ 32767
theorem in16 {x : S54} (h : ok54 x) : In16 x := by
  have h0 := bounds_u8 h.1
  have h1 := bounds_i16 h.2.1
  have h2 := bounds_i16 h.2.2
  exact ⟨h0.1, h0.2, h1.1, h1.2, h2.1, h2.2⟩
theorem wi25 {i n : Nat} (hn : n ≤ 1000000000000) (h : i < n) : wrap64 ((i : Int) + 1) = ((i + 1 : Nat) : Int) := by rw [v64 (by omega) (by omega)]; rfl
theorem new_bd {x : Int} (h0 : -1000000 ≤ x) (h1 : x ≤ 1000000) : Bd 0 ⟨x / 16, 0, 0, 0, false⟩ := by unfold Bd; dsimp only; omega
end Go.Proofs.Ytehibiikdlgneaa.Pure
