/- Plain laws of the pair of channels: one act, and that the reference tells the same of every valid state. -/
import Derived.Test.YthnbcedpdjingaaP10
import Derived.Test.YthnbcedpdjingaaP11
import Derived.Test.YthnbcedpdjingaaPK
import Derived.OpenShut
import Derived.IntWalk
namespace Go.Proofs.Ythnbcedpdjingaa.Pure
set_option linter.unusedSimpArgs false
set_option linter.unusedVariables false
open Go.RowKit Go.Proofs.Ythnbcedpdjingaa.P Go.Proofs.YthnbcedpdjingaaW.PrintWords Go.Proofs.YthnbcedpdjingaaW.PrintLast

theorem w64 {x : Int} (h0 : -9223372036854775808 ≤ x) (h1 : x ≤ 9223372036854775807) : wrap64 x = x := by unfold wrap64; omega
/-- A valid state. -/
def Vd (a b : Bool) (n : Int) (c : Bool) : Prop := 0 ≤ n ∧ n ≤ 4 ∧ (n = 0 ↔ a = b) ∧ (n = 4 → c = true)
/-- One act: a reset (z), or a tick with the values x and y. -/
def stp (z : Bool) (a b : Bool) (n : Int) (c : Bool) (x y : Bool) : Bool × Bool × Int × Bool :=
  if z = true then (a, b, n, c && !(a == b)) else if (x == y) = true then (x, y, 0, c) else if 3 ≤ n then (x, y, 4, true) else (x, y, n + 1, c)
theorem stp_valid {z a b c x y : Bool} {n : Int} (h : Vd a b n c) : Vd (stp z a b n c x y).1 (stp z a b n c x y).2.1 (stp z a b n c x y).2.2.1 (stp z a b n c x y).2.2.2 := by
  obtain ⟨h1, h2, h3, h4⟩ := h
  unfold stp
  by_cases hz : z = true
  · rw [if_pos hz]
    refine ⟨h1, h2, h3, fun e => ?_⟩
    have e1 : n = 4 := e
    have : a ≠ b := fun e2 => by have := h3.mpr e2; omega
    simp [h4 e1, this]
  · rw [if_neg hz]
    by_cases hx : (x == y) = true
    · rw [if_pos hx]
      exact ⟨by dsimp only; omega, by dsimp only; omega, by simp [beq_iff_eq.mp hx], fun e => by simp at e⟩
    · rw [if_neg hx]
      have hne : x ≠ y := fun e => hx (beq_iff_eq.mpr e)
      by_cases hn : 3 ≤ n
      · rw [if_pos hn]
        exact ⟨by dsimp only; omega, by dsimp only; omega, by simp [hne], fun _ => rfl⟩
      · rw [if_neg hn]
        refine ⟨by dsimp only; omega, by dsimp only; omega, ⟨fun e => ?_, fun e => absurd e hne⟩, fun e => ?_⟩
        · dsimp only at e; omega
        · dsimp only at e; omega
theorem step_eq {a b c x y : Bool} {n d : Int} (h : Vd a b n c) : ambidexterlaw26_step.f a b n c d x y = some (stp (decide (Int.tmod d 8 = 0)) a b n c x y) := by
  unfold ambidexterlaw26_step.f stp
  by_cases hz : Int.tmod d 8 = 0
  · rw [if_pos hz, if_pos (decide_eq_true hz)]
    rfl
  · rw [if_neg hz, if_neg (by simpa using hz)]
    unfold dualchannel_Observe.f
    by_cases hx : (x == y) = true
    · rw [if_pos hx, if_pos hx]
      rfl
    · rw [if_neg hx, if_neg hx]
      obtain ⟨h1, h2, h3, h4⟩ := h
      by_cases hn : 3 ≤ n
      · rw [if_pos hn, if_pos hn]
        rfl
      · rw [if_neg hn, if_neg hn, w64 (by omega) (by omega)]
        rfl
theorem want_eq {a b c x y : Bool} {n d : Int} (h : Vd a b n c) : ambidexterlaw26_want.f a b n c d x y = some (stp (decide (Int.tmod d 8 = 0)) a b n c x y) := by
  unfold ambidexterlaw26_want.f stp
  by_cases hz : Int.tmod d 8 = 0
  · rw [if_pos hz, if_pos (decide_eq_true hz)]
    unfold ambidexterref26_Reset.f
    by_cases hab : (a == b) = true
    · rw [if_pos hab]; simp [hab]
    · rw [if_neg hab]; simp [hab]
  · rw [if_neg hz, if_neg (by simpa using hz)]
    unfold ambidexterref26_Hear.f mn
    obtain ⟨h1, h2, h3, h4⟩ := h
    rw [w64 (by omega) (by omega)]
    by_cases hx : (x == y) = true
    · rw [if_pos hx, if_pos hx]
      cases c <;> simp
    · rw [if_neg hx, if_neg hx]
      by_cases hn : 3 ≤ n
      · have e : (if 4 < n + 1 then (4 : Int) else n + 1) = 4 := by split <;> omega
        rw [if_pos hn, e]
        cases c <;> simp
      · have e : (if 4 < n + 1 then (4 : Int) else n + 1) = n + 1 := by split <;> omega
        rw [if_neg hn, e]
        have e2 : ((n + 1 : Int) == 4) = false := by rw [beq_eq_false_iff_ne]; omega
        cases c <;> simp [e2]
theorem head26 (k : Nat) : ambidexterlaw26_head.f (k + 2000) = some true := at_rounds ambidexterlaw26_head.mono (Nat.le_add_left 2000 k) (by kernel_rfl)
theorem rd_in {α : Type} (z : α) (l : List α) (i : Int) (h0 : 0 ≤ i) (h1 : i < (l.length : Int)) : l.getD i.toNat z ∈ l := by
  rw [List.getD_eq_getElem?_getD, List.getElem?_eq_getElem (by omega)]
  exact List.getElem_mem _
theorem vd0 : Vd false false 0 false := ⟨by omega, by omega, by simp, fun h => by omega⟩
end Go.Proofs.Ythnbcedpdjingaa.Pure
