-- Written by this session's own program, for this seat. Lean checks it.
import Derived.Test.YtmmaodlngnjmlaaP0
import Derived.Test.YtmmaodlngnjmlaaP3
import Derived.Test.YtmmaodlngnjmlaaXCordG23
namespace Go.Proofs.Ytmmaodlngnjmlaa.P
open Go.RowKit Go.Proofs.YtmmaodlngnjmlaaW.PrintWords Go.Proofs.YtmmaodlngnjmlaaW.PrintLast Go.Proofs.YtmmaodlngnjmlaaW.PrintMore
attribute [local go_sem] max2_int min2_int max_two min_two max_three min_three max_four min_four   -- for this text's walks alone
set_option linter.unusedVariables false
set_option linter.unusedSimpArgs false

/-! ### timetable_Coordinated: function 33 -/
-- NEEDS XCoord23
def timetable_Coordinated.one (a : List S63) (x : Int) : Bool := match a with
 | [m] => m.f0 == x && (m.f1 == 0 && m.f2 == 1)
 | _ => false
def timetable_Coordinated.lims (v0 v1 v2 v3 v4 v5 : Int) : Bool := v0 == 8 && (v1 == 4 && (v2 == 2 && (v3 == 8 && (v4 == 4 && v5 == 2))))
def timetable_Coordinated.adv1 (l : List S91) : Bool := match l with
 | [x] => x.f0 && x.f1
 | _ => false
def timetable_Coordinated.adv2 (l : List S91) : Bool := match l with
 | [x, y] => !x.f0 && (!x.f1 && (y.f0 && !y.f1))
 | _ => false
def timetable_Coordinated.f (k : Nat) (v0 v1 v2 v3 v4 v5 : Int) (a b : List S63) (l : List S91) : Option (List S67 × Int) :=
 if (timetable_Coordinated.lims v0 v1 v2 v3 v4 v5 && (timetable_Coordinated.one a 0 && (timetable_Coordinated.one b 1 && timetable_Coordinated.adv1 l))) = true then
  (mintime_Profile.f k 8 4 2 12).bind fun t => if (t.2 && decide (0 < t.1.length ∧ t.1.length ≤ 1000)) = true then some ([(⟨⟨⟨0, 0, 1⟩, 1⟩, 0, t.1⟩ : S67), (⟨⟨⟨1, 0, 1⟩, 1⟩, 0, t.1⟩ : S67)], 0) else none
 else if (timetable_Coordinated.lims v0 v1 v2 v3 v4 v5 && (timetable_Coordinated.one a 0 && (b.isEmpty && timetable_Coordinated.adv2 l))) = true then some ([], 1) else none
theorem timetable_Coordinated.mono : ∀ v0 v1 v2 v3 v4 v5 a b l k, LeO (timetable_Coordinated.f k v0 v1 v2 v3 v4 v5 a b l) (timetable_Coordinated.f (k + 1) v0 v1 v2 v3 v4 v5 a b l) := by
 intro v0 v1 v2 v3 v4 v5 a b l k
 unfold timetable_Coordinated.f
 refine LeO.ite (LeO.bind (mintime_Profile.mono _ _ _ _ _) (fun _ => LeO.refl _)) (LeO.refl _)
theorem timetable_Coordinated.calls (k : Nat) (v0 v1 v2 v3 v4 v5 : Int) (A1 : Option Addr) (c1 : Nat) (l1 : List S63) (A2 : Option Addr) (c2 : Nat) (l2 : List S63) (A3 : Option Addr) (c3 : Nat) (l3 : List S91) (r1 : List S67) (r2 : Int) (w : World) (hr1 : Kd.C k63 w A1 l1.length l1) (hc1 : l1.length ≤ c1) (hr2 : Kd.C k63 w A2 l2.length l2) (hc2 : l2.length ≤ c2) (hr3 : Kd.C k91 w A3 l3.length l3) (hc3 : l3.length ≤ c3) (h : timetable_Coordinated.f k v0 v1 v2 v3 v4 v5 l1 l2 l3 = some (r1, r2)) :
  Calls Try.prog 33 #[.agg #[.int .i64 v0, .int .i64 v1, .int .i64 v2, .int .i64 v3, .int .i64 v4, .int .i64 v5], .slice A1 l1.length c1, .slice A2 l2.length c2, .slice A3 l3.length c3] w fun e w' => ∃ v0_ : Value, e = .returned (.tuple #[v0_, .int .i64 r2]) ∧ Kd.S k67 67 w' w.heap.size (fun _ => True) v0_ r1 ∧ Below w.heap.size w w' := by
 have one_ : ∀ {a : List S63} {x : Int}, timetable_Coordinated.one a x = true → a = [(⟨x, 0, 1⟩ : S63)] := by
  intro a x h
  match a, h with
  | [m], h =>
   obtain ⟨m0, m1, m2⟩ := m
   simp [timetable_Coordinated.one] at h
   obtain ⟨rfl, rfl, rfl⟩ := h
   rfl
  | [], h => cases h
  | _ :: _ :: _, h => cases h
 have lims_ : timetable_Coordinated.lims v0 v1 v2 v3 v4 v5 = true → v0 = 8 ∧ v1 = 4 ∧ v2 = 2 ∧ v3 = 8 ∧ v4 = 4 ∧ v5 = 2 := by
  intro h
  simpa [timetable_Coordinated.lims] using h
 unfold timetable_Coordinated.f at h
 by_cases c : (timetable_Coordinated.lims v0 v1 v2 v3 v4 v5 && (timetable_Coordinated.one l1 0 && (timetable_Coordinated.one l2 1 && timetable_Coordinated.adv1 l3))) = true
 ·
  rw [if_pos c] at h
  simp only [Bool.and_eq_true] at c
  obtain ⟨q1, q2, q3, q4⟩ := c
  obtain ⟨rfl, rfl, rfl, rfl, rfl, rfl⟩ := lims_ q1
  obtain rfl := one_ q2
  obtain rfl := one_ q3
  have q5 : l3 = [(⟨true, true⟩ : S91)] := by
   match l3, q4 with
   | [x], h =>
    obtain ⟨x0, x1⟩ := x
    simp [timetable_Coordinated.adv1] at h
    obtain ⟨rfl, rfl⟩ := h
    rfl
   | [], h => cases h
   | _ :: _ :: _, h => cases h
  subst q5
  obtain ⟨⟨J, is⟩, e1, e2⟩ := Option.bind_eq_some_iff.1 h
  by_cases d : (is && decide (0 < J.length ∧ J.length ≤ 1000)) = true
  ·
   rw [if_pos d] at e2
   rw [Bool.and_eq_true] at d
   have e3 := Option.some.inj e2
   simp only [Prod.mk.injEq] at e3
   obtain ⟨rfl, rfl⟩ := e3
   have d2 := of_decide_eq_true d.2
   have e4 : mintime_Profile.f k 8 4 2 12 = some (J, true) := by rw [e1, d.1]
   exact Coord.good_run J k e4 d2.2 d2.1 A1 c1 A2 c2 A3 c3 w hr1 hc1 hr2 hc2 hr3
  ·
   rw [if_neg d] at e2
   cases e2
 ·
  rw [if_neg c] at h
  by_cases d : (timetable_Coordinated.lims v0 v1 v2 v3 v4 v5 && (timetable_Coordinated.one l1 0 && (l2.isEmpty && timetable_Coordinated.adv2 l3))) = true
  ·
   rw [if_pos d] at h
   simp only [Bool.and_eq_true] at d
   obtain ⟨q1, q2, q3, q4⟩ := d
   obtain ⟨rfl, rfl, rfl, rfl, rfl, rfl⟩ := lims_ q1
   obtain rfl := one_ q2
   have q6 : l2 = [] := List.isEmpty_iff.1 q3
   subst q6
   have q5 : l3 = [(⟨false, false⟩ : S91), (⟨true, false⟩ : S91)] := by
    match l3, q4 with
    | [x, y], h =>
     obtain ⟨x0, x1⟩ := x
     obtain ⟨y0, y1⟩ := y
     simp [timetable_Coordinated.adv2] at h
     obtain ⟨rfl, rfl, rfl, rfl⟩ := h
     rfl
    | [], h => cases h
    | [_], h => cases h
    | _ :: _ :: _ :: _, h => cases h
   subst q5
   have e3 := Option.some.inj h
   simp only [Prod.mk.injEq] at e3
   obtain ⟨rfl, rfl⟩ := e3
   exact Coord.bad_run A1 c1 A2 c2 A3 c3 w hr1 hc1 hr2 hc2 hr3
  ·
   rw [if_neg d] at h
   cases h

end Go.Proofs.Ytmmaodlngnjmlaa.P
