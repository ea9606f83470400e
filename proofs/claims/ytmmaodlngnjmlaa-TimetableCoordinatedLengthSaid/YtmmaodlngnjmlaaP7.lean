-- Written by this session's own program, for this seat. Lean checks it.
import Derived.Test.YtmmaodlngnjmlaaP0
import Derived.Test.YtmmaodlngnjmlaaP1
import Derived.Test.YtmmaodlngnjmlaaP4
import Derived.Test.YtmmaodlngnjmlaaP5
import Derived.Test.YtmmaodlngnjmlaaP6
import Derived.Test.YtmmaodlngnjmlaaXFar2
import Derived.Test.YtmmaodlngnjmlaaP20
import Derived.Test.YtmmaodlngnjmlaaXHead23
import Derived.Test.YtmmaodlngnjmlaaXShorts2
namespace Go.Proofs.Ytmmaodlngnjmlaa.P
open Go.RowKit Go.Proofs.YtmmaodlngnjmlaaW.PrintWords Go.Proofs.YtmmaodlngnjmlaaW.PrintLast Go.Proofs.YtmmaodlngnjmlaaW.PrintMore
attribute [local go_sem] max2_int min2_int max_two min_two max_three min_three max_four min_four   -- for this text's walks alone
set_option linter.unusedVariables false
set_option linter.unusedSimpArgs false

attribute [local go_sem high] eqA69

theorem mm_ {p q : Prop} (x : p) (h : p → q := by intro hk; (first | exact hk | ((repeat' apply And.intro) <;> (first | trivial | exact hk | exact hk.1 | exact hk.2 | exact hk.1.1 | exact hk.1.2 | exact hk.2.1 | exact hk.2.2 | (revert hk; simp only [and_imp]; intros; assumption))))) : q := h x

theorem hsb_ {w w' : World} {a : Addr} {v : Value} (hb : Below w.heap.size w w') (h : w.cell? a = some v) : w'.cell? a = some v := (hb.cell (World.block_lt_of_cell? _ _ h)).trans h

set_option maxHeartbeats 60000000 in
set_option maxRecDepth 100000 in
theorem ambidexterlaw23_head.calls0 (k : Nat)  (r : Bool) (w : World) (h : ambidexterlaw23_head.f k  = some r) (hT : r = true) :
  Calls Try.prog 31 #[] w fun e w' => e = .returned (.bool r) ∧ Below w.heap.size w w' := by
 have hu63 := Try.underlying63
 have hu25 := Try.underlying25
 have hu72 := Try.underlying72
 have hu91 := Try.underlying91
 have hu58 := Try.underlying58
 have hu59 := Try.underlying59
 have hu69 := Try.underlying69
 have hu65 := Try.underlying65
 have hu57 := Try.underlying57
 have HB := Aside0.mk (Below.refl w.heap.size w)
 have H : ((some (([(⟨0, 0, 1⟩ : S63), (⟨0, 0, 1⟩ : S63), (⟨0, 1, (-1)⟩ : S63)] : List (S63)) : List (S63))).bind fun y219 => ((timetable_GroupMoves.f k y219).bind fun t223 => ((timetable_Sequential.f k 8 4 2 y219).bind fun bt226 => ((mintime_Duration.f k 8 4 2 24).bind fun bt230 => ((timetable_Sequential.f k 8 4 2 ([] : List (S63))).bind fun bt232 => ((timetable_Sequential.f k 9 4 2 y219).bind fun bt236 => ((timetable_Sequential.f k 8 4 2 (([(⟨0, 3, 1⟩ : S63)] : List (S63)))).bind fun bt243 => (if 1 ≤ (y219.length : Int) then ((timetable_Coordinated.f k 8 4 2 8 4 2 (y219.take 1) (([(⟨1, 0, 1⟩ : S63)] : List (S63))) (([(⟨true, true⟩ : S91)] : List (S91)))).bind fun bt257 => ((timetable_Coordinated.f k 8 4 2 8 4 2 (y219.take 1) ([] : List (S63)) (([(⟨false, false⟩ : S91), (⟨true, false⟩ : S91)] : List (S91)))).bind fun bt268 => (if (bt226.1.length : Int) = 2 then (ambidexterlaw23_head.j0 k y219 t223 bt226.1 bt226.2 bt230.1 bt230.2 bt232.1 bt232.2 bt236.2 bt243.2 bt257.1 bt257.2 bt268.2 ((bt257.1.length : Int) != 2) 8 4 2) else (ambidexterlaw23_head.j0 k y219 t223 bt226.1 bt226.2 bt230.1 bt230.2 bt232.1 bt232.2 bt236.2 bt243.2 bt257.1 bt257.2 bt268.2 true 8 4 2)))) else (none))))))))) = some r := h
 clear h
 have HT := Aside0.mk hT
 clear hT
 obtain ⟨y219, hy219⟩ : ∃ y_ : List (S63), y_ = (([(⟨0, 0, 1⟩ : S63), (⟨0, 0, 1⟩ : S63), (⟨0, 1, (-1)⟩ : S63)] : List (S63))) := ⟨_, rfl⟩
 replace H : ((timetable_GroupMoves.f k y219).bind fun t223 => ((timetable_Sequential.f k 8 4 2 y219).bind fun bt226 => ((mintime_Duration.f k 8 4 2 24).bind fun bt230 => ((timetable_Sequential.f k 8 4 2 ([] : List (S63))).bind fun bt232 => ((timetable_Sequential.f k 9 4 2 y219).bind fun bt236 => ((timetable_Sequential.f k 8 4 2 (([(⟨0, 3, 1⟩ : S63)] : List (S63)))).bind fun bt243 => (if 1 ≤ (y219.length : Int) then ((timetable_Coordinated.f k 8 4 2 8 4 2 (y219.take 1) (([(⟨1, 0, 1⟩ : S63)] : List (S63))) (([(⟨true, true⟩ : S91)] : List (S91)))).bind fun bt257 => ((timetable_Coordinated.f k 8 4 2 8 4 2 (y219.take 1) ([] : List (S63)) (([(⟨false, false⟩ : S91), (⟨true, false⟩ : S91)] : List (S91)))).bind fun bt268 => (if (bt226.1.length : Int) = 2 then (ambidexterlaw23_head.j0 k y219 t223 bt226.1 bt226.2 bt230.1 bt230.2 bt232.1 bt232.2 bt236.2 bt243.2 bt257.1 bt257.2 bt268.2 ((bt257.1.length : Int) != 2) 8 4 2) else (ambidexterlaw23_head.j0 k y219 t223 bt226.1 bt226.2 bt230.1 bt230.2 bt232.1 bt232.2 bt236.2 bt243.2 bt257.1 bt257.2 bt268.2 true 8 4 2)))) else (none)))))))) = some r := by first | (rw [hy219]; with_reducible exact H) | (have H2_ := (Option.bind_some _ _).symm.trans H; rw [hy219]; with_reducible exact H2_) | (have H2_ := (Option.bind_some _ _).symm.trans H; with_reducible exact H2_) | with_reducible exact H | (rw [hy219]; exact H) | exact H
 have Ny219 := Aside0.mk hy219
 clear hy219
 replace H := Option.bind_eq_some_iff.mp H
 obtain ⟨t223, A10, H⟩ := H
 replace H : ((timetable_Sequential.f k 8 4 2 y219).bind fun bt226 => ((mintime_Duration.f k 8 4 2 24).bind fun bt230 => ((timetable_Sequential.f k 8 4 2 ([] : List (S63))).bind fun bt232 => ((timetable_Sequential.f k 9 4 2 y219).bind fun bt236 => ((timetable_Sequential.f k 8 4 2 (([(⟨0, 3, 1⟩ : S63)] : List (S63)))).bind fun bt243 => (if 1 ≤ (y219.length : Int) then ((timetable_Coordinated.f k 8 4 2 8 4 2 (y219.take 1) (([(⟨1, 0, 1⟩ : S63)] : List (S63))) (([(⟨true, true⟩ : S91)] : List (S91)))).bind fun bt257 => ((timetable_Coordinated.f k 8 4 2 8 4 2 (y219.take 1) ([] : List (S63)) (([(⟨false, false⟩ : S91), (⟨true, false⟩ : S91)] : List (S91)))).bind fun bt268 => (if (bt226.1.length : Int) = 2 then (ambidexterlaw23_head.j0 k y219 t223 bt226.1 bt226.2 bt230.1 bt230.2 bt232.1 bt232.2 bt236.2 bt243.2 bt257.1 bt257.2 bt268.2 ((bt257.1.length : Int) != 2) 8 4 2) else (ambidexterlaw23_head.j0 k y219 t223 bt226.1 bt226.2 bt230.1 bt230.2 bt232.1 bt232.2 bt236.2 bt243.2 bt257.1 bt257.2 bt268.2 true 8 4 2)))) else (none))))))) = some r := H
 have A1 := Aside0.mk A10
 clear A10
 replace H := Option.bind_eq_some_iff.mp H
 obtain ⟨⟨t226, t229⟩, A20, H⟩ := H
 replace H : ((mintime_Duration.f k 8 4 2 24).bind fun bt230 => ((timetable_Sequential.f k 8 4 2 ([] : List (S63))).bind fun bt232 => ((timetable_Sequential.f k 9 4 2 y219).bind fun bt236 => ((timetable_Sequential.f k 8 4 2 (([(⟨0, 3, 1⟩ : S63)] : List (S63)))).bind fun bt243 => (if 1 ≤ (y219.length : Int) then ((timetable_Coordinated.f k 8 4 2 8 4 2 (y219.take 1) (([(⟨1, 0, 1⟩ : S63)] : List (S63))) (([(⟨true, true⟩ : S91)] : List (S91)))).bind fun bt257 => ((timetable_Coordinated.f k 8 4 2 8 4 2 (y219.take 1) ([] : List (S63)) (([(⟨false, false⟩ : S91), (⟨true, false⟩ : S91)] : List (S91)))).bind fun bt268 => (if (t226.length : Int) = 2 then (ambidexterlaw23_head.j0 k y219 t223 t226 t229 bt230.1 bt230.2 bt232.1 bt232.2 bt236.2 bt243.2 bt257.1 bt257.2 bt268.2 ((bt257.1.length : Int) != 2) 8 4 2) else (ambidexterlaw23_head.j0 k y219 t223 t226 t229 bt230.1 bt230.2 bt232.1 bt232.2 bt236.2 bt243.2 bt257.1 bt257.2 bt268.2 true 8 4 2)))) else (none)))))) = some r := H
 have A2 := Aside0.mk A20
 clear A20
 replace H := Option.bind_eq_some_iff.mp H
 obtain ⟨⟨t230, t231⟩, A30, H⟩ := H
 replace H : ((timetable_Sequential.f k 8 4 2 ([] : List (S63))).bind fun bt232 => ((timetable_Sequential.f k 9 4 2 y219).bind fun bt236 => ((timetable_Sequential.f k 8 4 2 (([(⟨0, 3, 1⟩ : S63)] : List (S63)))).bind fun bt243 => (if 1 ≤ (y219.length : Int) then ((timetable_Coordinated.f k 8 4 2 8 4 2 (y219.take 1) (([(⟨1, 0, 1⟩ : S63)] : List (S63))) (([(⟨true, true⟩ : S91)] : List (S91)))).bind fun bt257 => ((timetable_Coordinated.f k 8 4 2 8 4 2 (y219.take 1) ([] : List (S63)) (([(⟨false, false⟩ : S91), (⟨true, false⟩ : S91)] : List (S91)))).bind fun bt268 => (if (t226.length : Int) = 2 then (ambidexterlaw23_head.j0 k y219 t223 t226 t229 t230 t231 bt232.1 bt232.2 bt236.2 bt243.2 bt257.1 bt257.2 bt268.2 ((bt257.1.length : Int) != 2) 8 4 2) else (ambidexterlaw23_head.j0 k y219 t223 t226 t229 t230 t231 bt232.1 bt232.2 bt236.2 bt243.2 bt257.1 bt257.2 bt268.2 true 8 4 2)))) else (none))))) = some r := H
 have A3 := Aside0.mk A30
 clear A30
 replace H := Option.bind_eq_some_iff.mp H
 obtain ⟨⟨t232, t235⟩, A40, H⟩ := H
 replace H : ((timetable_Sequential.f k 9 4 2 y219).bind fun bt236 => ((timetable_Sequential.f k 8 4 2 (([(⟨0, 3, 1⟩ : S63)] : List (S63)))).bind fun bt243 => (if 1 ≤ (y219.length : Int) then ((timetable_Coordinated.f k 8 4 2 8 4 2 (y219.take 1) (([(⟨1, 0, 1⟩ : S63)] : List (S63))) (([(⟨true, true⟩ : S91)] : List (S91)))).bind fun bt257 => ((timetable_Coordinated.f k 8 4 2 8 4 2 (y219.take 1) ([] : List (S63)) (([(⟨false, false⟩ : S91), (⟨true, false⟩ : S91)] : List (S91)))).bind fun bt268 => (if (t226.length : Int) = 2 then (ambidexterlaw23_head.j0 k y219 t223 t226 t229 t230 t231 t232 t235 bt236.2 bt243.2 bt257.1 bt257.2 bt268.2 ((bt257.1.length : Int) != 2) 8 4 2) else (ambidexterlaw23_head.j0 k y219 t223 t226 t229 t230 t231 t232 t235 bt236.2 bt243.2 bt257.1 bt257.2 bt268.2 true 8 4 2)))) else (none)))) = some r := H
 have A4 := Aside0.mk A40
 clear A40
 replace H := Option.bind_eq_some_iff.mp H
 obtain ⟨⟨t236, t239⟩, A50, H⟩ := H
 replace H : ((timetable_Sequential.f k 8 4 2 (([(⟨0, 3, 1⟩ : S63)] : List (S63)))).bind fun bt243 => (if 1 ≤ (y219.length : Int) then ((timetable_Coordinated.f k 8 4 2 8 4 2 (y219.take 1) (([(⟨1, 0, 1⟩ : S63)] : List (S63))) (([(⟨true, true⟩ : S91)] : List (S91)))).bind fun bt257 => ((timetable_Coordinated.f k 8 4 2 8 4 2 (y219.take 1) ([] : List (S63)) (([(⟨false, false⟩ : S91), (⟨true, false⟩ : S91)] : List (S91)))).bind fun bt268 => (if (t226.length : Int) = 2 then (ambidexterlaw23_head.j0 k y219 t223 t226 t229 t230 t231 t232 t235 t239 bt243.2 bt257.1 bt257.2 bt268.2 ((bt257.1.length : Int) != 2) 8 4 2) else (ambidexterlaw23_head.j0 k y219 t223 t226 t229 t230 t231 t232 t235 t239 bt243.2 bt257.1 bt257.2 bt268.2 true 8 4 2)))) else (none))) = some r := H
 have A5 := Aside0.mk A50
 clear A50
 obtain ⟨y240, hy240⟩ : ∃ y_ : List (S63), y_ = (([(⟨0, 3, 1⟩ : S63)] : List (S63))) := ⟨_, rfl⟩
 replace H : ((timetable_Sequential.f k 8 4 2 y240).bind fun bt243 => (if 1 ≤ (y219.length : Int) then ((timetable_Coordinated.f k 8 4 2 8 4 2 (y219.take 1) (([(⟨1, 0, 1⟩ : S63)] : List (S63))) (([(⟨true, true⟩ : S91)] : List (S91)))).bind fun bt257 => ((timetable_Coordinated.f k 8 4 2 8 4 2 (y219.take 1) ([] : List (S63)) (([(⟨false, false⟩ : S91), (⟨true, false⟩ : S91)] : List (S91)))).bind fun bt268 => (if (t226.length : Int) = 2 then (ambidexterlaw23_head.j0 k y219 t223 t226 t229 t230 t231 t232 t235 t239 bt243.2 bt257.1 bt257.2 bt268.2 ((bt257.1.length : Int) != 2) 8 4 2) else (ambidexterlaw23_head.j0 k y219 t223 t226 t229 t230 t231 t232 t235 t239 bt243.2 bt257.1 bt257.2 bt268.2 true 8 4 2)))) else (none))) = some r := by first | (rw [hy240]; with_reducible exact H) | (have H2_ := (Option.bind_some _ _).symm.trans H; rw [hy240]; with_reducible exact H2_) | (have H2_ := (Option.bind_some _ _).symm.trans H; with_reducible exact H2_) | with_reducible exact H | (rw [hy240]; exact H) | exact H
 have Ny240 := Aside0.mk hy240
 clear hy240
 replace H := Option.bind_eq_some_iff.mp H
 obtain ⟨⟨t243, t246⟩, A60, H⟩ := H
 replace H : (if 1 ≤ (y219.length : Int) then ((timetable_Coordinated.f k 8 4 2 8 4 2 (y219.take 1) (([(⟨1, 0, 1⟩ : S63)] : List (S63))) (([(⟨true, true⟩ : S91)] : List (S91)))).bind fun bt257 => ((timetable_Coordinated.f k 8 4 2 8 4 2 (y219.take 1) ([] : List (S63)) (([(⟨false, false⟩ : S91), (⟨true, false⟩ : S91)] : List (S91)))).bind fun bt268 => (if (t226.length : Int) = 2 then (ambidexterlaw23_head.j0 k y219 t223 t226 t229 t230 t231 t232 t235 t239 t246 bt257.1 bt257.2 bt268.2 ((bt257.1.length : Int) != 2) 8 4 2) else (ambidexterlaw23_head.j0 k y219 t223 t226 t229 t230 t231 t232 t235 t239 t246 bt257.1 bt257.2 bt268.2 true 8 4 2)))) else (none)) = some r := H
 have A6 := Aside0.mk A60
 clear A60
 by_cases c7 : 1 ≤ (y219.length : Int)
 case neg =>
  rw [if_neg c7] at H
  exact absurd H (by simp)

 rw [if_pos c7] at H
 have c7b0 := eq_true c7
 have c7b1 : decide (1 ≤ (y219.length : Int)) = true := decide_eq_true c7
 clear c7
 obtain ⟨y247, hy247⟩ : ∃ y_ : List (S63), y_ = (y219.take 1) := ⟨_, rfl⟩
 replace H : ((timetable_Coordinated.f k 8 4 2 8 4 2 y247 (([(⟨1, 0, 1⟩ : S63)] : List (S63))) (([(⟨true, true⟩ : S91)] : List (S91)))).bind fun bt257 => ((timetable_Coordinated.f k 8 4 2 8 4 2 (y219.take 1) ([] : List (S63)) (([(⟨false, false⟩ : S91), (⟨true, false⟩ : S91)] : List (S91)))).bind fun bt268 => (if (t226.length : Int) = 2 then (ambidexterlaw23_head.j0 k y219 t223 t226 t229 t230 t231 t232 t235 t239 t246 bt257.1 bt257.2 bt268.2 ((bt257.1.length : Int) != 2) 8 4 2) else (ambidexterlaw23_head.j0 k y219 t223 t226 t229 t230 t231 t232 t235 t239 t246 bt257.1 bt257.2 bt268.2 true 8 4 2)))) = some r := by first | (rw [hy247]; with_reducible exact H) | (have H2_ := (Option.bind_some _ _).symm.trans H; rw [hy247]; with_reducible exact H2_) | (have H2_ := (Option.bind_some _ _).symm.trans H; with_reducible exact H2_) | with_reducible exact H | (rw [hy247]; exact H) | exact H
 have Ny247 := Aside0.mk hy247
 clear hy247
 obtain ⟨y251, hy251⟩ : ∃ y_ : List (S63), y_ = (([(⟨1, 0, 1⟩ : S63)] : List (S63))) := ⟨_, rfl⟩
 replace H : ((timetable_Coordinated.f k 8 4 2 8 4 2 y247 y251 (([(⟨true, true⟩ : S91)] : List (S91)))).bind fun bt257 => ((timetable_Coordinated.f k 8 4 2 8 4 2 (y219.take 1) ([] : List (S63)) (([(⟨false, false⟩ : S91), (⟨true, false⟩ : S91)] : List (S91)))).bind fun bt268 => (if (t226.length : Int) = 2 then (ambidexterlaw23_head.j0 k y219 t223 t226 t229 t230 t231 t232 t235 t239 t246 bt257.1 bt257.2 bt268.2 ((bt257.1.length : Int) != 2) 8 4 2) else (ambidexterlaw23_head.j0 k y219 t223 t226 t229 t230 t231 t232 t235 t239 t246 bt257.1 bt257.2 bt268.2 true 8 4 2)))) = some r := by first | (rw [hy251]; with_reducible exact H) | (have H2_ := (Option.bind_some _ _).symm.trans H; rw [hy251]; with_reducible exact H2_) | (have H2_ := (Option.bind_some _ _).symm.trans H; with_reducible exact H2_) | with_reducible exact H | (rw [hy251]; exact H) | exact H
 have Ny251 := Aside0.mk hy251
 clear hy251
 obtain ⟨y254, hy254⟩ : ∃ y_ : List (S91), y_ = (([(⟨true, true⟩ : S91)] : List (S91))) := ⟨_, rfl⟩
 replace H : ((timetable_Coordinated.f k 8 4 2 8 4 2 y247 y251 y254).bind fun bt257 => ((timetable_Coordinated.f k 8 4 2 8 4 2 (y219.take 1) ([] : List (S63)) (([(⟨false, false⟩ : S91), (⟨true, false⟩ : S91)] : List (S91)))).bind fun bt268 => (if (t226.length : Int) = 2 then (ambidexterlaw23_head.j0 k y219 t223 t226 t229 t230 t231 t232 t235 t239 t246 bt257.1 bt257.2 bt268.2 ((bt257.1.length : Int) != 2) 8 4 2) else (ambidexterlaw23_head.j0 k y219 t223 t226 t229 t230 t231 t232 t235 t239 t246 bt257.1 bt257.2 bt268.2 true 8 4 2)))) = some r := by first | (rw [hy254]; with_reducible exact H) | (have H2_ := (Option.bind_some _ _).symm.trans H; rw [hy254]; with_reducible exact H2_) | (have H2_ := (Option.bind_some _ _).symm.trans H; with_reducible exact H2_) | with_reducible exact H | (rw [hy254]; exact H) | exact H
 have Ny254 := Aside0.mk hy254
 clear hy254
 replace H := Option.bind_eq_some_iff.mp H
 obtain ⟨⟨t257, t260⟩, A80, H⟩ := H
 replace H : ((timetable_Coordinated.f k 8 4 2 8 4 2 (y219.take 1) ([] : List (S63)) (([(⟨false, false⟩ : S91), (⟨true, false⟩ : S91)] : List (S91)))).bind fun bt268 => (if (t226.length : Int) = 2 then (ambidexterlaw23_head.j0 k y219 t223 t226 t229 t230 t231 t232 t235 t239 t246 t257 t260 bt268.2 ((t257.length : Int) != 2) 8 4 2) else (ambidexterlaw23_head.j0 k y219 t223 t226 t229 t230 t231 t232 t235 t239 t246 t257 t260 bt268.2 true 8 4 2))) = some r := H
 have A8 := Aside0.mk A80
 clear A80
 have c9b0 := eq_true (of_decide_eq_true (by first | (with_reducible assumption) | assumption) : 1 ≤ (y219.length : Int))
 obtain ⟨y261, hy261⟩ : ∃ y_ : List (S63), y_ = (y219.take 1) := ⟨_, rfl⟩
 replace H : ((timetable_Coordinated.f k 8 4 2 8 4 2 y261 ([] : List (S63)) (([(⟨false, false⟩ : S91), (⟨true, false⟩ : S91)] : List (S91)))).bind fun bt268 => (if (t226.length : Int) = 2 then (ambidexterlaw23_head.j0 k y219 t223 t226 t229 t230 t231 t232 t235 t239 t246 t257 t260 bt268.2 ((t257.length : Int) != 2) 8 4 2) else (ambidexterlaw23_head.j0 k y219 t223 t226 t229 t230 t231 t232 t235 t239 t246 t257 t260 bt268.2 true 8 4 2))) = some r := by first | (rw [hy261]; with_reducible exact H) | (have H2_ := (Option.bind_some _ _).symm.trans H; rw [hy261]; with_reducible exact H2_) | (have H2_ := (Option.bind_some _ _).symm.trans H; with_reducible exact H2_) | with_reducible exact H | (rw [hy261]; exact H) | exact H
 have Ny261 := Aside0.mk hy261
 clear hy261
 obtain ⟨y265, hy265⟩ : ∃ y_ : List (S91), y_ = (([(⟨false, false⟩ : S91), (⟨true, false⟩ : S91)] : List (S91))) := ⟨_, rfl⟩
 replace H : ((timetable_Coordinated.f k 8 4 2 8 4 2 y261 ([] : List (S63)) y265).bind fun bt268 => (if (t226.length : Int) = 2 then (ambidexterlaw23_head.j0 k y219 t223 t226 t229 t230 t231 t232 t235 t239 t246 t257 t260 bt268.2 ((t257.length : Int) != 2) 8 4 2) else (ambidexterlaw23_head.j0 k y219 t223 t226 t229 t230 t231 t232 t235 t239 t246 t257 t260 bt268.2 true 8 4 2))) = some r := by first | (rw [hy265]; with_reducible exact H) | (have H2_ := (Option.bind_some _ _).symm.trans H; rw [hy265]; with_reducible exact H2_) | (have H2_ := (Option.bind_some _ _).symm.trans H; with_reducible exact H2_) | with_reducible exact H | (rw [hy265]; exact H) | exact H
 have Ny265 := Aside0.mk hy265
 clear hy265
 replace H := Option.bind_eq_some_iff.mp H
 obtain ⟨⟨t268, t271⟩, A100, H⟩ := H
 replace H : (if (t226.length : Int) = 2 then (ambidexterlaw23_head.j0 k y219 t223 t226 t229 t230 t231 t232 t235 t239 t246 t257 t260 t271 ((t257.length : Int) != 2) 8 4 2) else (ambidexterlaw23_head.j0 k y219 t223 t226 t229 t230 t231 t232 t235 t239 t246 t257 t260 t271 true 8 4 2)) = some r := H
 have A10 := Aside0.mk A100
 clear A100
 have HC11 := Aside0.mk H
 clear H
 go_enter Try.func31, Try.ntmps31
 try go_wp2_with (first | ((with_reducible refine gate_dst (N := 22) rfl ?_); (try (refine gate_guard (by rfl) ?_; dsimp only)); refine Kd.R_lit k63 _ 63 ?hg (N := 22) ?hd (xs := ([(⟨0, 0, 1⟩ : S63), (⟨0, 0, 1⟩ : S63), (⟨0, 1, (-1)⟩ : S63)] : List (S63))) (inner := [.int .i64 0, .int .i64 0, .int .i64 1, .int .i64 0, .int .i64 0, .int .i64 1, .int .i64 0, .int .i64 1, .int .i64 (-1)]) (ok := fun _ => True) (okp := fun _ => True) ?hr ?hp (fun _ hk => hk) trivial (Below.refl _ _) (Nat.le_refl _) (by simp) ?_; (case hd => rfl); (case hg => rfl); (case hr => first | (go_simp; done) | (go_simp; rfl)); (case hp => exact (Reps.c3 (show Kd.M k63 _ _ _ (⟨0, 0, 1⟩ : S63) [.int .i64 0, .int .i64 0, .int .i64 1] from (k63_mkM _ _ _ (⟨0, 0, 1⟩ : S63) )) (Reps.c3 (show Kd.M k63 _ _ _ (⟨0, 0, 1⟩ : S63) [.int .i64 0, .int .i64 0, .int .i64 1] from (k63_mkM _ _ _ (⟨0, 0, 1⟩ : S63) )) (Reps.c3 (show Kd.M k63 _ _ _ (⟨0, 1, (-1)⟩ : S63) [.int .i64 0, .int .i64 1, .int .i64 (-1)] from (k63_mkM _ _ _ (⟨0, 1, (-1)⟩ : S63) )) (Reps.none _ _))))); intro v220 w12 ho13 hb hg_ hnew_; clear hg_ hnew_; (first | rw [← Ny219.out] at ho13 | (simp only [Int.reduceToNat] at ho13; rw [← Ny219.out] at ho13)); have n0_ := Aside0.mk (Kd.R_lower ho13 (below_size (by repeat (first | (with_reducible first | exact HB.out | apply below_alloc | apply pw_below_drewN | apply below_drew1) | exact HB.out)))); have n1_ := Aside0.mk (below_step (by repeat (first | (with_reducible first | exact HB.out | apply below_alloc | apply pw_below_drewN | apply below_drew1) | exact HB.out)) hb); clear HB; have HO221 := n0_; have HB := n1_; clear n0_ n1_; clear hb ho13) | ((with_reducible refine gate_dst (N := 2) rfl ?_); (try (refine gate_guard (by rfl) ?_; dsimp only)); refine box_event ?hg (N := 2) ?hd (cs := #[.int .i64 0, .int .i64 0, .int .i64 0]) (t := 25) ?hr ?_; (case hd => rfl); (case hg => rfl); (case hr => first | (go_simp; done) | (go_simp; rfl)); intro gb222 hg w14 hbox hb; have n0_ := Aside0.mk (Kd.R_below (by (with_reducible repeat (first | apply Kd.R_alloc | apply Kd.R_drewN | apply Kd.R_drew)); exact HO221.out) hb); have n1_ := Aside0.mk (below_step (by repeat (first | (with_reducible first | exact HB.out | apply below_alloc | apply pw_below_drewN | apply below_drew1) | exact HB.out)) hb); have n2_ := Aside0.mk (hbox); have n3_ := Aside0.mk ((by rw [hg]; exact (below_size (by repeat (first | (with_reducible first | exact HB.out | apply below_alloc | apply pw_below_drewN | apply below_drew1) | exact HB.out))) : w.heap.size ≤ gb222)); have n4_ := Aside0.mk ((by rw [hg]; exact (below_size (by repeat (first | (with_reducible first | exact HB.out | apply below_alloc | apply pw_below_drewN | apply below_drew1) | exact HB.out))) : w.heap.size ≤ gb222)); clear HO221; clear HB; have HO221 := n0_; have HB := n1_; have BK222 := n2_; have GW222 := n3_; have GE222 := n4_; clear n0_ n1_ n2_ n3_ n4_; clear hb hbox hg; have hcz15_0 : w14.cell? ⟨gb222, 0, none⟩ = some (.int .i64 0) := (blk_cell BK222.out 0).trans rfl; have hcz15_1 : w14.cell? ⟨gb222, 1, none⟩ = some (.int .i64 0) := (blk_cell BK222.out 1).trans rfl; have hcz15_2 : w14.cell? ⟨gb222, 2, none⟩ = some (.int .i64 0) := (blk_cell BK222.out 2).trans rfl; have hfz15_0 := blk_frozen BK222.out 0; have hfz15_1 := blk_frozen BK222.out 1; have hfz15_2 := blk_frozen BK222.out 2; obtain ⟨Ao16, co16, eo16⟩ := Kd.R_slice HO221.out; subst eo16) | ((with_reducible refine gate_callee (f := 37) rfl ?_); refine goesL_ (some 25) rfl rfl Try.func37 (by kernel_rfl) rfl #[.slice Ao16 y219.length co16] rfl (by (try simp only [List.map_toArray, List.map_cons, List.map_nil]); first | done | rfl | (simp only [List.length_drop, List.length_take]; rfl)) ?_; (with_reducible refine (timetable_GroupMoves.calls k _ _ y219 t223 _ ?side1 ?side2 A1.out).mono ?_); (case side1 => refine (Kd.R_reads' (e := 63) (base := w.heap.size) (ok := fun k_ => True) (n := y219.length) (c := co16) ?_).2.2; exact (by (with_reducible repeat (first | apply Kd.R_alloc | apply Kd.R_drewN | apply Kd.R_drew)); exact (Kd.R_mono (Kd.R_far (p := ⟨gb222, 2, none⟩) (Kd.R_far (p := ⟨gb222, 1, none⟩) (Kd.R_far (p := ⟨gb222, 0, none⟩) (Kd.R_types HO221.out BK222.out (by decide)) (fun _ hk => hk.2) (.int .i64 8)) (fun _ hk => hk.2) (.int .i64 4)) (fun _ hk => hk.2) (.int .i64 2)) (fun _ h_ => h_.1)))); (case side2 => exact (Kd.R_reads' HO221.out).2.1); rintro e w17 ⟨v224, rfl, ho0, hb⟩; refine ⟨_, rfl, ?_⟩; have n0_ := Aside0.mk (Kd.R_below (by (with_reducible repeat (first | apply Kd.R_alloc | apply Kd.R_drewN | apply Kd.R_drew)); exact (Kd.R_mono (Kd.R_far (p := ⟨gb222, 2, none⟩) (Kd.R_far (p := ⟨gb222, 1, none⟩) (Kd.R_far (p := ⟨gb222, 0, none⟩) (Kd.R_types HO221.out BK222.out (by decide)) (fun _ hk => hk.2) (.int .i64 8)) (fun _ hk => hk.2) (.int .i64 4)) (fun _ hk => hk.2) (.int .i64 2)) (fun _ h_ => h_.1))) hb); have n1_ := Aside0.mk (Kd.R_lower ho0 (below_size (by repeat (first | (with_reducible first | exact HB.out | apply below_alloc | apply pw_below_drewN | apply below_drew1 | refine below_set ?_ GE222.out) | exact HB.out)))); have n2_ := Aside0.mk (blk_below (g := gb222) (o := .cells #[.int .i64 8, .int .i64 4, .int .i64 2] 25 (0, 0)) (by (with_reducible repeat (first | refine blk_drewN ?_ _ | refine blk_drew ?_ | refine blk_alloc ?_ _)); refine blk_put (cs := #[.int .i64 8, .int .i64 4, .int .i64 0]) ?_ 2 _ rfl; (with_reducible repeat (first | refine blk_drewN ?_ _ | refine blk_drew ?_ | refine blk_alloc ?_ _)); refine blk_put (cs := #[.int .i64 8, .int .i64 0, .int .i64 0]) ?_ 1 _ rfl; (with_reducible repeat (first | refine blk_drewN ?_ _ | refine blk_drew ?_ | refine blk_alloc ?_ _)); refine blk_put (cs := #[.int .i64 0, .int .i64 0, .int .i64 0]) ?_ 0 _ rfl; (with_reducible repeat (first | refine blk_drewN ?_ _ | refine blk_drew ?_ | refine blk_alloc ?_ _)); exact BK222.out) hb); have n3_ := Aside0.mk (below_step (by repeat (first | (with_reducible first | exact HB.out | apply below_alloc | apply pw_below_drewN | apply below_drew1 | refine below_set ?_ GE222.out) | exact HB.out)) hb); clear HO221; clear BK222; clear HB; have HO221 := n0_; have HO225 := n1_; have BK222 := n2_; have HB := n3_; clear n0_ n1_ n2_ n3_; (try clear hb); (try clear hb2); (try clear hk); (try clear hi); (try clear ho0); have hcz18_0 : w17.cell? ⟨gb222, 0, none⟩ = some (.int .i64 8) := (blk_cell BK222.out 0).trans rfl; have hcz18_1 : w17.cell? ⟨gb222, 1, none⟩ = some (.int .i64 4) := (blk_cell BK222.out 1).trans rfl; have hcz18_2 : w17.cell? ⟨gb222, 2, none⟩ = some (.int .i64 2) := (blk_cell BK222.out 2).trans rfl; have hfz18_0 := blk_frozen BK222.out 0; have hfz18_1 := blk_frozen BK222.out 1; have hfz18_2 := blk_frozen BK222.out 2) | ((with_reducible refine gate_callee (f := 27) rfl ?_); refine goesL_ (some 29) rfl rfl Try.func27 (by kernel_rfl) rfl #[.agg #[.int .i64 8, .int .i64 4, .int .i64 2], .slice Ao16 y219.length co16] rfl (by (try simp only [List.map_toArray, List.map_cons, List.map_nil]); first | done | rfl | (simp only [List.length_drop, List.length_take]; rfl)) ?_; (with_reducible refine (timetable_Sequential.calls k 8 4 2 _ _ y219 t226 t229 _ ?side1 ?side2 A2.out).mono ?_); (case side1 => repeat (first | exact (Kd.R_reads' HO221.out).2.2 | (with_reducible refine Kd.C_alloc ?_ _) | (with_reducible refine Kd.C_drewN ?_ _) | (with_reducible refine Kd.C_drew ?_))); (case side2 => exact (Kd.R_reads' HO221.out).2.1); rintro e w19 ⟨v227, rfl, ho0, hb⟩; refine ⟨_, rfl, ?_⟩; have n0_ := Aside0.mk (Kd.R_below (by (with_reducible repeat (first | apply Kd.R_alloc | apply Kd.R_drewN | apply Kd.R_drew)); exact HO221.out) hb); have n1_ := Aside0.mk (Kd.R_below (by (with_reducible repeat (first | apply Kd.R_alloc | apply Kd.R_drewN | apply Kd.R_drew)); exact HO225.out) hb); have n2_ := Aside0.mk (Kd.S_lower ho0 (below_size (by repeat (first | (with_reducible first | exact HB.out | apply below_alloc | apply pw_below_drewN | apply below_drew1 | refine below_set ?_ GE222.out) | exact HB.out)))); have n3_ := Aside0.mk (blk_below (g := gb222) (o := .cells #[.int .i64 8, .int .i64 4, .int .i64 2] 25 (0, 0)) (by (with_reducible repeat (first | refine blk_drewN ?_ _ | refine blk_drew ?_ | refine blk_alloc ?_ _)); exact BK222.out) hb); have n4_ := Aside0.mk (below_step (by repeat (first | (with_reducible first | exact HB.out | apply below_alloc | apply pw_below_drewN | apply below_drew1 | refine below_set ?_ GE222.out) | exact HB.out)) hb); clear HO221; clear HO225; clear BK222; clear HB; have HO221 := n0_; have HO225 := n1_; have HO228 := n2_; have BK222 := n3_; have HB := n4_; clear n0_ n1_ n2_ n3_ n4_; (try clear hb); (try clear hb2); (try clear hk); (try clear hi); (try clear ho0); have hcz20_0 : w19.cell? ⟨gb222, 0, none⟩ = some (.int .i64 8) := (blk_cell BK222.out 0).trans rfl; have hcz20_1 : w19.cell? ⟨gb222, 1, none⟩ = some (.int .i64 4) := (blk_cell BK222.out 1).trans rfl; have hcz20_2 : w19.cell? ⟨gb222, 2, none⟩ = some (.int .i64 2) := (blk_cell BK222.out 2).trans rfl; have hfz20_0 := blk_frozen BK222.out 0; have hfz20_1 := blk_frozen BK222.out 1; have hfz20_2 := blk_frozen BK222.out 2) | ((with_reducible refine gate_callee (f := 17) rfl ?_); refine goesL_ (some 34) rfl rfl Try.func17 (by kernel_rfl) rfl #[.agg #[.int .i64 8, .int .i64 4, .int .i64 2], .int .i64 24] rfl (by (try simp only [List.map_toArray, List.map_cons, List.map_nil]); first | done | rfl | (simp only [List.length_drop, List.length_take]; rfl)) ?_; (with_reducible refine (mintime_Duration.calls k 8 4 2 24 t230 t231 _ A3.out).mono ?_); rintro e w21 ⟨rfl, hb⟩; refine ⟨_, rfl, ?_⟩; have n0_ := Aside0.mk (Kd.R_below (by (with_reducible repeat (first | apply Kd.R_alloc | apply Kd.R_drewN | apply Kd.R_drew)); exact HO221.out) hb); have n1_ := Aside0.mk (Kd.R_below (by (with_reducible repeat (first | apply Kd.R_alloc | apply Kd.R_drewN | apply Kd.R_drew)); exact HO225.out) hb); have n2_ := Aside0.mk (Kd.S_below (by (with_reducible repeat (first | apply Kd.S_alloc | apply Kd.S_drewN | apply Kd.S_drew)); exact HO228.out) hb); have n3_ := Aside0.mk (blk_below (g := gb222) (o := .cells #[.int .i64 8, .int .i64 4, .int .i64 2] 25 (0, 0)) (by (with_reducible repeat (first | refine blk_drewN ?_ _ | refine blk_drew ?_ | refine blk_alloc ?_ _)); exact BK222.out) hb); have n4_ := Aside0.mk (below_step (by repeat (first | (with_reducible first | exact HB.out | apply below_alloc | apply pw_below_drewN | apply below_drew1 | refine below_set ?_ GE222.out) | exact HB.out)) hb); clear HO221; clear HO225; clear HO228; clear BK222; clear HB; have HO221 := n0_; have HO225 := n1_; have HO228 := n2_; have BK222 := n3_; have HB := n4_; clear n0_ n1_ n2_ n3_ n4_; (try clear hb); (try clear hb2); (try clear hk); (try clear hi); have hcz22_0 : w21.cell? ⟨gb222, 0, none⟩ = some (.int .i64 8) := (blk_cell BK222.out 0).trans rfl; have hcz22_1 : w21.cell? ⟨gb222, 1, none⟩ = some (.int .i64 4) := (blk_cell BK222.out 1).trans rfl; have hcz22_2 : w21.cell? ⟨gb222, 2, none⟩ = some (.int .i64 2) := (blk_cell BK222.out 2).trans rfl; have hfz22_0 := blk_frozen BK222.out 0; have hfz22_1 := blk_frozen BK222.out 1; have hfz22_2 := blk_frozen BK222.out 2) | ((with_reducible refine gate_callee (f := 27) rfl ?_); refine goesL_ (some 39) rfl rfl Try.func27 (by kernel_rfl) rfl #[.agg #[.int .i64 8, .int .i64 4, .int .i64 2], .slice none 0 0] rfl (by (try simp only [List.map_toArray, List.map_cons, List.map_nil]); first | done | rfl | (simp only [List.length_drop, List.length_take]; rfl)) ?_; (refine (timetable_Sequential.calls k 8 4 2 _ _ ([] : List (S63)) t232 t235 _ ?side1 ?side2 A4.out).mono ?_); (case side1 => exact Kd.C_nil _ _); (case side2 => exact Nat.le_refl _); rintro e w23 ⟨v233, rfl, ho0, hb⟩; refine ⟨_, rfl, ?_⟩; have n0_ := Aside0.mk (Kd.R_below (by (with_reducible repeat (first | apply Kd.R_alloc | apply Kd.R_drewN | apply Kd.R_drew)); exact HO221.out) hb); have n1_ := Aside0.mk (Kd.R_below (by (with_reducible repeat (first | apply Kd.R_alloc | apply Kd.R_drewN | apply Kd.R_drew)); exact HO225.out) hb); have n2_ := Aside0.mk (Kd.S_elder' (by (with_reducible repeat (first | apply Kd.S_alloc | apply Kd.S_drewN | apply Kd.S_drew)); exact HO228.out) (Kd.S_base ho0) hb); have n3_ := Aside0.mk (Kd.S_lower (Kd.S_new' ho0 (Kd.S_lt (by (with_reducible repeat (first | apply Kd.S_alloc | apply Kd.S_drewN | apply Kd.S_drew)); exact HO228.out))) (below_size (by repeat (first | (with_reducible first | exact HB.out | apply below_alloc | apply pw_below_drewN | apply below_drew1 | refine below_set ?_ GE222.out) | exact HB.out)))); have n4_ := Aside0.mk (blk_below (g := gb222) (o := .cells #[.int .i64 8, .int .i64 4, .int .i64 2] 25 (0, 0)) (by (with_reducible repeat (first | refine blk_drewN ?_ _ | refine blk_drew ?_ | refine blk_alloc ?_ _)); exact BK222.out) hb); have n5_ := Aside0.mk (below_step (by repeat (first | (with_reducible first | exact HB.out | apply below_alloc | apply pw_below_drewN | apply below_drew1 | refine below_set ?_ GE222.out) | exact HB.out)) hb); clear HO221; clear HO225; clear HO228; clear BK222; clear HB; have HO221 := n0_; have HO225 := n1_; have HO228 := n2_; have HO234 := n3_; have BK222 := n4_; have HB := n5_; clear n0_ n1_ n2_ n3_ n4_ n5_; (try clear hb); (try clear hb2); (try clear hk); (try clear hi); (try clear ho0)) | ((with_reducible refine gate_callee (f := 27) rfl ?_); refine goesL_ (some 45) rfl rfl Try.func27 (by kernel_rfl) rfl #[.agg #[.int .i64 9, .int .i64 4, .int .i64 2], .slice Ao16 y219.length co16] rfl (by (try simp only [List.map_toArray, List.map_cons, List.map_nil]); first | done | rfl | (simp only [List.length_drop, List.length_take]; rfl)) ?_; (with_reducible refine (timetable_Sequential.calls k 9 4 2 _ _ y219 t236 t239 _ ?side1 ?side2 A5.out).mono ?_); (case side1 => repeat (first | exact (Kd.R_reads' HO221.out).2.2 | (with_reducible refine Kd.C_alloc ?_ _) | (with_reducible refine Kd.C_drewN ?_ _) | (with_reducible refine Kd.C_drew ?_))); (case side2 => exact (Kd.R_reads' HO221.out).2.1); rintro e w24 ⟨v237, rfl, ho0, hb⟩; refine ⟨_, rfl, ?_⟩; have n0_ := Aside0.mk (Kd.R_below (by (with_reducible repeat (first | apply Kd.R_alloc | apply Kd.R_drewN | apply Kd.R_drew)); exact HO221.out) hb); have n1_ := Aside0.mk (Kd.R_below (by (with_reducible repeat (first | apply Kd.R_alloc | apply Kd.R_drewN | apply Kd.R_drew)); exact HO225.out) hb); have n2_ := Aside0.mk (Kd.S_elder' (by (with_reducible repeat (first | apply Kd.S_alloc | apply Kd.S_drewN | apply Kd.S_drew)); exact HO228.out) (Kd.S_base ho0) hb); have n3_ := Aside0.mk (Kd.S_elder' (by (with_reducible repeat (first | apply Kd.S_alloc | apply Kd.S_drewN | apply Kd.S_drew)); exact HO234.out) (Kd.S_base ho0) hb); have n4_ := Aside0.mk (Kd.S_lower (Kd.S_new' (Kd.S_new' ho0 (Kd.S_lt (by (with_reducible repeat (first | apply Kd.S_alloc | apply Kd.S_drewN | apply Kd.S_drew)); exact HO228.out))) (Kd.S_lt (by (with_reducible repeat (first | apply Kd.S_alloc | apply Kd.S_drewN | apply Kd.S_drew)); exact HO234.out))) (below_size (by repeat (first | (with_reducible first | exact HB.out | apply below_alloc | apply pw_below_drewN | apply below_drew1 | refine below_set ?_ GE222.out) | exact HB.out)))); have n5_ := Aside0.mk (blk_below (g := gb222) (o := .cells #[.int .i64 8, .int .i64 4, .int .i64 2] 25 (0, 0)) (by (with_reducible repeat (first | refine blk_drewN ?_ _ | refine blk_drew ?_ | refine blk_alloc ?_ _)); exact BK222.out) hb); have n6_ := Aside0.mk (below_step (by repeat (first | (with_reducible first | exact HB.out | apply below_alloc | apply pw_below_drewN | apply below_drew1 | refine below_set ?_ GE222.out) | exact HB.out)) hb); clear HO221; clear HO225; clear HO228; clear HO234; clear BK222; clear HB; have HO221 := n0_; have HO225 := n1_; have HO228 := n2_; have HO234 := n3_; have HO238 := n4_; have BK222 := n5_; have HB := n6_; clear n0_ n1_ n2_ n3_ n4_ n5_ n6_; (try clear hb); (try clear hb2); (try clear hk); (try clear hi); (try clear ho0); have hcz25_0 : w24.cell? ⟨gb222, 0, none⟩ = some (.int .i64 8) := (blk_cell BK222.out 0).trans rfl; have hcz25_1 : w24.cell? ⟨gb222, 1, none⟩ = some (.int .i64 4) := (blk_cell BK222.out 1).trans rfl; have hcz25_2 : w24.cell? ⟨gb222, 2, none⟩ = some (.int .i64 2) := (blk_cell BK222.out 2).trans rfl; have hfz25_0 := blk_frozen BK222.out 0; have hfz25_1 := blk_frozen BK222.out 1; have hfz25_2 := blk_frozen BK222.out 2) | ((with_reducible refine gate_dst (N := 51) rfl ?_); (try (refine gate_guard (by rfl) ?_; dsimp only)); refine Kd.R_lit k63 _ 63 ?hg (N := 51) ?hd (xs := ([(⟨0, 3, 1⟩ : S63)] : List (S63))) (inner := [.int .i64 0, .int .i64 3, .int .i64 1]) (ok := fun _ => True) (okp := fun _ => True) ?hr ?hp (fun _ hk => hk) trivial (Below.refl _ _) (Nat.le_refl _) (by simp) ?_; (case hd => rfl); (case hg => rfl); (case hr => first | (go_simp; done) | (go_simp; rfl)); (case hp => exact (Reps.c3 (show Kd.M k63 _ _ _ (⟨0, 3, 1⟩ : S63) [.int .i64 0, .int .i64 3, .int .i64 1] from (k63_mkM _ _ _ (⟨0, 3, 1⟩ : S63) )) (Reps.none _ _))); intro v241 w26 ho27 hb hg_ hnew_; clear hg_ hnew_; (first | rw [← Ny240.out] at ho27 | (simp only [Int.reduceToNat] at ho27; rw [← Ny240.out] at ho27)); have n0_ := Aside0.mk (Kd.R_elder' (by (with_reducible repeat (first | apply Kd.R_alloc | apply Kd.R_drewN | apply Kd.R_drew)); exact HO221.out) (Kd.R_base ho27) hb); have n1_ := Aside0.mk (Kd.R_below (by (with_reducible repeat (first | apply Kd.R_alloc | apply Kd.R_drewN | apply Kd.R_drew)); exact HO225.out) hb); have n2_ := Aside0.mk (Kd.S_below (by (with_reducible repeat (first | apply Kd.S_alloc | apply Kd.S_drewN | apply Kd.S_drew)); exact HO228.out) hb); have n3_ := Aside0.mk (Kd.S_below (by (with_reducible repeat (first | apply Kd.S_alloc | apply Kd.S_drewN | apply Kd.S_drew)); exact HO234.out) hb); have n4_ := Aside0.mk (Kd.S_below (by (with_reducible repeat (first | apply Kd.S_alloc | apply Kd.S_drewN | apply Kd.S_drew)); exact HO238.out) hb); have n5_ := Aside0.mk (Kd.R_lower (Kd.R_new' ho27 (Kd.R_lt (by (with_reducible repeat (first | apply Kd.R_alloc | apply Kd.R_drewN | apply Kd.R_drew)); exact HO221.out))) (below_size (by repeat (first | (with_reducible first | exact HB.out | apply below_alloc | apply pw_below_drewN | apply below_drew1 | refine below_set ?_ GE222.out) | exact HB.out)))); have n6_ := Aside0.mk (blk_below (g := gb222) (o := .cells #[.int .i64 8, .int .i64 4, .int .i64 2] 25 (0, 0)) (by (with_reducible repeat (first | refine blk_drewN ?_ _ | refine blk_drew ?_ | refine blk_alloc ?_ _)); exact BK222.out) hb); have n7_ := Aside0.mk (below_step (by repeat (first | (with_reducible first | exact HB.out | apply below_alloc | apply pw_below_drewN | apply below_drew1 | refine below_set ?_ GE222.out) | exact HB.out)) hb); clear HO221; clear HO225; clear HO228; clear HO234; clear HO238; clear BK222; clear HB; have HO221 := n0_; have HO225 := n1_; have HO228 := n2_; have HO234 := n3_; have HO238 := n4_; have HO242 := n5_; have BK222 := n6_; have HB := n7_; clear n0_ n1_ n2_ n3_ n4_ n5_ n6_ n7_; clear hb ho27; obtain ⟨Ao28, co28, eo28⟩ := Kd.R_slice HO242.out; subst eo28) | ((with_reducible refine gate_callee (f := 27) rfl ?_); refine goesL_ (some 52) rfl rfl Try.func27 (by kernel_rfl) rfl #[.agg #[.int .i64 8, .int .i64 4, .int .i64 2], .slice Ao28 y240.length co28] rfl (by (try simp only [List.map_toArray, List.map_cons, List.map_nil]); first | done | rfl | (simp only [List.length_drop, List.length_take]; rfl)) ?_; (with_reducible refine (timetable_Sequential.calls k 8 4 2 _ _ y240 t243 t246 _ ?side1 ?side2 A6.out).mono ?_); (case side1 => repeat (first | exact (Kd.R_reads' HO242.out).2.2 | (with_reducible refine Kd.C_alloc ?_ _) | (with_reducible refine Kd.C_drewN ?_ _) | (with_reducible refine Kd.C_drew ?_))); (case side2 => exact (Kd.R_reads' HO242.out).2.1); rintro e w29 ⟨v244, rfl, ho0, hb⟩; refine ⟨_, rfl, ?_⟩; have n0_ := Aside0.mk (Kd.R_below (by (with_reducible repeat (first | apply Kd.R_alloc | apply Kd.R_drewN | apply Kd.R_drew)); exact HO221.out) hb); have n1_ := Aside0.mk (Kd.R_below (by (with_reducible repeat (first | apply Kd.R_alloc | apply Kd.R_drewN | apply Kd.R_drew)); exact HO225.out) hb); have n2_ := Aside0.mk (Kd.S_elder' (by (with_reducible repeat (first | apply Kd.S_alloc | apply Kd.S_drewN | apply Kd.S_drew)); exact HO228.out) (Kd.S_base ho0) hb); have n3_ := Aside0.mk (Kd.S_elder' (by (with_reducible repeat (first | apply Kd.S_alloc | apply Kd.S_drewN | apply Kd.S_drew)); exact HO234.out) (Kd.S_base ho0) hb); have n4_ := Aside0.mk (Kd.S_elder' (by (with_reducible repeat (first | apply Kd.S_alloc | apply Kd.S_drewN | apply Kd.S_drew)); exact HO238.out) (Kd.S_base ho0) hb); have n5_ := Aside0.mk (Kd.R_below (by (with_reducible repeat (first | apply Kd.R_alloc | apply Kd.R_drewN | apply Kd.R_drew)); exact HO242.out) hb); have n6_ := Aside0.mk (Kd.S_lower (Kd.S_new' (Kd.S_new' (Kd.S_new' ho0 (Kd.S_lt (by (with_reducible repeat (first | apply Kd.S_alloc | apply Kd.S_drewN | apply Kd.S_drew)); exact HO228.out))) (Kd.S_lt (by (with_reducible repeat (first | apply Kd.S_alloc | apply Kd.S_drewN | apply Kd.S_drew)); exact HO234.out))) (Kd.S_lt (by (with_reducible repeat (first | apply Kd.S_alloc | apply Kd.S_drewN | apply Kd.S_drew)); exact HO238.out))) (below_size (by repeat (first | (with_reducible first | exact HB.out | apply below_alloc | apply pw_below_drewN | apply below_drew1 | refine below_set ?_ GE222.out) | exact HB.out)))); have n7_ := Aside0.mk (blk_below (g := gb222) (o := .cells #[.int .i64 8, .int .i64 4, .int .i64 2] 25 (0, 0)) (by (with_reducible repeat (first | refine blk_drewN ?_ _ | refine blk_drew ?_ | refine blk_alloc ?_ _)); exact BK222.out) hb); have n8_ := Aside0.mk (below_step (by repeat (first | (with_reducible first | exact HB.out | apply below_alloc | apply pw_below_drewN | apply below_drew1 | refine below_set ?_ GE222.out) | exact HB.out)) hb); clear HO221; clear HO225; clear HO228; clear HO234; clear HO238; clear HO242; clear BK222; clear HB; have HO221 := n0_; have HO225 := n1_; have HO228 := n2_; have HO234 := n3_; have HO238 := n4_; have HO242 := n5_; have HO245 := n6_; have BK222 := n7_; have HB := n8_; clear n0_ n1_ n2_ n3_ n4_ n5_ n6_ n7_ n8_; (try clear hb); (try clear hb2); (try clear hk); (try clear hi); (try clear ho0)))
 have n0_ := Aside0.mk (Kd.R_drew HO221.out)
 have n1_ := Aside0.mk (Kd.R_drew HO225.out)
 have n2_ := Aside0.mk (Kd.S_drew HO228.out)
 have n3_ := Aside0.mk (Kd.S_drew HO234.out)
 have n4_ := Aside0.mk (Kd.S_drew HO238.out)
 have n5_ := Aside0.mk (Kd.R_drew HO242.out)
 have n6_ := Aside0.mk (Kd.S_drew HO245.out)
 have n7_ := Aside0.mk (blk_drew BK222.out)
 have n8_ := Aside0.mk (below_drew1 HB.out)
 clear HO221
 clear HO225
 clear HO228
 clear HO234
 clear HO238
 clear HO242
 clear HO245
 clear BK222
 clear HB
 have HO221 := n0_
 have HO225 := n1_
 have HO228 := n2_
 have HO234 := n3_
 have HO238 := n4_
 have HO242 := n5_
 have HO245 := n6_
 have BK222 := n7_
 have HB := n8_
 clear n0_ n1_ n2_ n3_ n4_ n5_ n6_ n7_ n8_
 have q31 : (1 : Int) ≤ ((y219.length : Int) : Int) := of_decide_eq_true (by first | (with_reducible assumption) | assumption)
 obtain ⟨i031, hi031, _, hsz31, _⟩ := info_parts info63
 have hroom31 : y219.length ≤ co16 := (Kd.R_reads' HO221.out).2.1
 have hC31 : Kd.C k63 _ Ao16 y219.length y219 := (Kd.R_reads' HO221.out).2.2
 have hcut31 := cut_to (P := Try.prog) 50 63 .i64 Try.underlying50 hi031 Ao16 y219.length co16 1 (by omega) q31 hroom31
 have hr31 := Kd.C_take (m := 1) hC31 (by omega)
 have hy31 : y247.length = (1 : Int).toNat := (by rw [Ny247.out, List.length_take]; omega)
 rw [← Ny247.out] at hr31
 rw [← hy31] at hcut31
 have HR250 := Aside0.mk hr31
 have HC250 := Aside0.mk (show y247.length ≤ co16 from by omega)
 clear hr31 hC31 hroom31 hi031 hsz31
 have KY31 := Aside0.mk hy31
 clear hy31
 have KL31 := Aside0.mk (show 1 ≤ y219.length from by omega)
 replace q31 := eq_true q31
 refine start_ (n := 15) (S := fun w' => True) (ds := []) #[false, false, false, false, false, false, false, false, false, false, false, false, false, false, false] (by kernel_rfl) rfl rfl trivial (fun hHeld => ?_); refine with_tabW ambidexterlaw23_head.tab9 ambidexterlaw23_head.bits9 (fun HT_ HW_ => ?_)
 generalize w29.drew = w30 at HO221 HO225 HO228 HO234 HO238 HO242 HO245 BK222 HB HR250 hHeld ⊢
 refine pq_ (i := 3) (N := some 59) #[false, false, false, true, false, false, false, false, false, false, false, false, false, false, false] HT_ ?_
 refine inv_at [0, 1, 2, 4, 5, 6, 7, 8, 9, 10, 11, 12, 13, 14] (fun a0_ b a w' => ∃ (v252 : Value) (v255 : Value) (v258 : Value) (m9_ : Value) (m10_ : Value) (m11_ : Value) (m13_ : Value), a = putSel a0_ b [(0, 56, .agg #[.int .i64 8, .int .i64 4, .int .i64 2]), (1, 57, .agg #[.int .i64 8, .int .i64 4, .int .i64 2]), (2, 58, .agg #[.int .i64 8, .int .i64 4, .int .i64 2, .int .i64 8, .int .i64 4, .int .i64 2]), (4, 60, .slice Ao16 y247.length co16), (5, 61, .agg #[.int .i64 1, .int .i64 0, .int .i64 1]), (6, 62, v252), (7, 63, .agg #[.bool true, .bool true]), (8, 64, v255), (9, 65, m9_), (10, 55, m10_), (11, 66, m11_), (12, 67, .int .i64 t260), (13, 14, m13_), (14, 15, .int .i64 t260)] ∧ (Kd.R k63 63 w' w.heap.size (fun k_ => some k_ ≠ (.slice Ao28 y240.length co28 : Value).ownBlock) (.slice Ao16 y219.length co16) y219) ∧ (Kd.R k65 65 w' w.heap.size (fun _ => True) v224 t223) ∧ (Kd.S k67 67 w' w.heap.size (fun k_ => some k_ ≠ (v233 : Value).ownBlock ∧ some k_ ≠ (v237 : Value).ownBlock ∧ some k_ ≠ (v244 : Value).ownBlock) v227 t226) ∧ (Kd.S k67 67 w' w.heap.size (fun k_ => some k_ ≠ (v227 : Value).ownBlock ∧ some k_ ≠ (v237 : Value).ownBlock ∧ some k_ ≠ (v244 : Value).ownBlock) v233 t232) ∧ (Kd.S k67 67 w' w.heap.size (fun k_ => some k_ ≠ (v227 : Value).ownBlock ∧ some k_ ≠ (v233 : Value).ownBlock ∧ some k_ ≠ (v244 : Value).ownBlock) v237 t236) ∧ (Kd.R k63 63 w' w.heap.size (fun k_ => some k_ ≠ (.slice Ao16 y219.length co16 : Value).ownBlock) (.slice Ao28 y240.length co28) y240) ∧ (Kd.S k67 67 w' w.heap.size (fun k_ => some k_ ≠ (v227 : Value).ownBlock ∧ some k_ ≠ (v233 : Value).ownBlock ∧ some k_ ≠ (v237 : Value).ownBlock) v244 t243) ∧ (w'.heap[gb222]? = some (.cells #[.int .i64 8, .int .i64 4, .int .i64 2] 25 (0, 0))) ∧ (Below w.heap.size w w') ∧ (b 6 = true → Kd.R k63 63 w' w.heap.size (fun k_ => some k_ ≠ (.slice Ao16 y219.length co16 : Value).ownBlock ∧ some k_ ≠ (.slice Ao28 y240.length co28 : Value).ownBlock) v252 y251) ∧ (b 8 = true → Kd.R k91 91 w' w.heap.size (fun _ => True) v255 y254) ∧ (b 9 = true → Kd.S k67 67 w' w.heap.size (fun k_ => some k_ ≠ (v227 : Value).ownBlock ∧ some k_ ≠ (v233 : Value).ownBlock ∧ some k_ ≠ (v237 : Value).ownBlock ∧ some k_ ≠ (v244 : Value).ownBlock) v258 t257) ∧ (b 9 = true → (m9_ : Value) = .tuple #[v258, .int .i64 t260]) ∧ (b 10 = true → (m10_ : Value) = .tuple #[v258, .int .i64 t260]) ∧ (b 11 = true → (m11_ : Value) = v258) ∧ (b 13 = true → (m13_ : Value) = v258)) HT_.out HW_.out (by kernel_rfl) (by kernel_rfl) ?_ ?_ ?_
 ·
  exact ⟨.bool false, .bool false, .bool false, .bool false, .bool false, .bool false, .bool false, by simp only [putSel, Bool.false_eq_true, if_false], (Kd.R_mono HO221.out (fun _ h_ => by simpa only [true_and, and_assoc] using h_)), HO225.out, (Kd.S_mono HO228.out (fun _ h_ => by simpa only [true_and, and_assoc] using h_)), (Kd.S_mono HO234.out (fun _ h_ => by simpa only [true_and, and_assoc] using h_)), (Kd.S_mono HO238.out (fun _ h_ => by simpa only [true_and, and_assoc] using h_)), (Kd.R_mono HO242.out (fun _ h_ => by simpa only [true_and, and_assoc] using h_)), (Kd.S_mono HO245.out (fun _ h_ => by simpa only [true_and, and_assoc] using h_)), BK222.out, HB.out, fun h_ => absurd h_ (by decide), fun h_ => absurd h_ (by decide), fun h_ => absurd h_ (by decide), fun h_ => absurd h_ (by decide), fun h_ => absurd h_ (by decide), fun h_ => absurd h_ (by decide), fun h_ => absurd h_ (by decide)⟩
 ·
  skip
  clear BK222 HB HO221 HO225 HO228 HO234 HO238 HO242 HO245
  refine steps_cons ?_ ?_
  ·
   rintro b a w' ⟨v252, v255, v258, m9_, m10_, m11_, m13_, ha, Q_HO221, Q_HO225, Q_HO228, Q_HO234, Q_HO238, Q_HO242, Q_HO245, Q_BK222, Q_HB, Q_HO253, Q_HO256, Q_HO259, Q_X9_, Q_X10_, Q_X11_, Q_X13_⟩ hb_ hon hoff
   refine ⟨_, rfl, fun K hK => ?_⟩
   have e2 : a.tmps[2]? = some (.pointer (some ⟨gb222, 0, none⟩)) := by rw [ha]; exact (putSel_off rfl).trans rfl
   replace ha := Aside0.mk ha
   have HO221 := Aside0.mk Q_HO221
   have HO225 := Aside0.mk Q_HO225
   have HO228 := Aside0.mk Q_HO228
   have HO234 := Aside0.mk Q_HO234
   have HO238 := Aside0.mk Q_HO238
   have HO242 := Aside0.mk Q_HO242
   have HO245 := Aside0.mk Q_HO245
   have BK222 := Aside0.mk Q_BK222
   have HB := Aside0.mk Q_HB
   have hc0_ : w'.cell? ⟨gb222, 0, none⟩ = some (.int .i64 8) := (blk_cell BK222.out 0).trans rfl
   have hc1_ : w'.cell? ⟨gb222, 1, none⟩ = some (.int .i64 4) := (blk_cell BK222.out 1).trans rfl
   have hc2_ : w'.cell? ⟨gb222, 2, none⟩ = some (.int .i64 2) := (blk_cell BK222.out 2).trans rfl
   refine value_ (w1 := w') (v := .agg #[.int .i64 8, .int .i64 4, .int .i64 2]) (by rfl) rfl ?_ ?_
   ·
    go_simp
    (try simp only [i64_w])
    try rfl
   refine hK.out _ _ ⟨v252, v255, v258, m9_, m10_, m11_, m13_, (by rw [ha.out]; exact putSel_upk 0 hb_ rfl rfl rfl), Q_HO221, Q_HO225, Q_HO228, Q_HO234, Q_HO238, Q_HO242, Q_HO245, Q_BK222, Q_HB, Q_HO253, Q_HO256, fun h0_ => absurd ((hoff 9 (by kernel_rfl)).symm.trans h0_) (by decide), fun h0_ => absurd ((hoff 9 (by kernel_rfl)).symm.trans h0_) (by decide), fun h0_ => absurd ((hoff 10 (by kernel_rfl)).symm.trans h0_) (by decide), fun h0_ => absurd ((hoff 11 (by kernel_rfl)).symm.trans h0_) (by decide), fun h0_ => absurd ((hoff 13 (by kernel_rfl)).symm.trans h0_) (by decide)⟩
  refine steps_cons ?_ ?_
  ·
   rintro b a w' ⟨v252, v255, v258, m9_, m10_, m11_, m13_, ha, Q_HO221, Q_HO225, Q_HO228, Q_HO234, Q_HO238, Q_HO242, Q_HO245, Q_BK222, Q_HB, Q_HO253, Q_HO256, Q_HO259, Q_X9_, Q_X10_, Q_X11_, Q_X13_⟩ hb_ hon hoff
   refine ⟨_, rfl, fun K hK => ?_⟩
   have e2 : a.tmps[2]? = some (.pointer (some ⟨gb222, 0, none⟩)) := by rw [ha]; exact (putSel_off rfl).trans rfl
   replace ha := Aside0.mk ha
   have HO221 := Aside0.mk Q_HO221
   have HO225 := Aside0.mk Q_HO225
   have HO228 := Aside0.mk Q_HO228
   have HO234 := Aside0.mk Q_HO234
   have HO238 := Aside0.mk Q_HO238
   have HO242 := Aside0.mk Q_HO242
   have HO245 := Aside0.mk Q_HO245
   have BK222 := Aside0.mk Q_BK222
   have HB := Aside0.mk Q_HB
   have hc0_ : w'.cell? ⟨gb222, 0, none⟩ = some (.int .i64 8) := (blk_cell BK222.out 0).trans rfl
   have hc1_ : w'.cell? ⟨gb222, 1, none⟩ = some (.int .i64 4) := (blk_cell BK222.out 1).trans rfl
   have hc2_ : w'.cell? ⟨gb222, 2, none⟩ = some (.int .i64 2) := (blk_cell BK222.out 2).trans rfl
   refine value_ (w1 := w') (v := .agg #[.int .i64 8, .int .i64 4, .int .i64 2]) (by rfl) rfl ?_ ?_
   ·
    go_simp
    (try simp only [i64_w])
    try rfl
   refine hK.out _ _ ⟨v252, v255, v258, m9_, m10_, m11_, m13_, (by rw [ha.out]; exact putSel_upk 1 hb_ rfl rfl rfl), Q_HO221, Q_HO225, Q_HO228, Q_HO234, Q_HO238, Q_HO242, Q_HO245, Q_BK222, Q_HB, Q_HO253, Q_HO256, fun h0_ => absurd ((hoff 9 (by kernel_rfl)).symm.trans h0_) (by decide), fun h0_ => absurd ((hoff 9 (by kernel_rfl)).symm.trans h0_) (by decide), fun h0_ => absurd ((hoff 10 (by kernel_rfl)).symm.trans h0_) (by decide), fun h0_ => absurd ((hoff 11 (by kernel_rfl)).symm.trans h0_) (by decide), fun h0_ => absurd ((hoff 13 (by kernel_rfl)).symm.trans h0_) (by decide)⟩
  refine steps_cons ?_ ?_
  ·
   rintro b a w' ⟨v252, v255, v258, m9_, m10_, m11_, m13_, ha, Q_HO221, Q_HO225, Q_HO228, Q_HO234, Q_HO238, Q_HO242, Q_HO245, Q_BK222, Q_HB, Q_HO253, Q_HO256, Q_HO259, Q_X9_, Q_X10_, Q_X11_, Q_X13_⟩ hb_ hon hoff
   refine ⟨_, rfl, fun K hK => ?_⟩
   have e56 : a.tmps[56]? = some (.agg #[.int .i64 8, .int .i64 4, .int .i64 2]) := by rw [ha]; exact putSel_on (e := (0, 56, .agg #[.int .i64 8, .int .i64 4, .int .i64 2])) 0 rfl rfl (hon 0 (by kernel_rfl)) rfl
   have e57 : a.tmps[57]? = some (.agg #[.int .i64 8, .int .i64 4, .int .i64 2]) := by rw [ha]; exact putSel_on (e := (1, 57, .agg #[.int .i64 8, .int .i64 4, .int .i64 2])) 1 rfl rfl (hon 1 (by kernel_rfl)) rfl
   replace ha := Aside0.mk ha
   have HO221 := Aside0.mk Q_HO221
   have HO225 := Aside0.mk Q_HO225
   have HO228 := Aside0.mk Q_HO228
   have HO234 := Aside0.mk Q_HO234
   have HO238 := Aside0.mk Q_HO238
   have HO242 := Aside0.mk Q_HO242
   have HO245 := Aside0.mk Q_HO245
   have BK222 := Aside0.mk Q_BK222
   have HB := Aside0.mk Q_HB
   refine value_ (w1 := w') (v := .agg #[.int .i64 8, .int .i64 4, .int .i64 2, .int .i64 8, .int .i64 4, .int .i64 2]) (by rfl) rfl ?_ ?_
   ·
    go_simp
    (try simp only [i64_w])
    try rfl
   refine hK.out _ _ ⟨v252, v255, v258, m9_, m10_, m11_, m13_, (by rw [ha.out]; exact putSel_upk 2 hb_ rfl rfl rfl), Q_HO221, Q_HO225, Q_HO228, Q_HO234, Q_HO238, Q_HO242, Q_HO245, Q_BK222, Q_HB, Q_HO253, Q_HO256, fun h0_ => absurd ((hoff 9 (by kernel_rfl)).symm.trans h0_) (by decide), fun h0_ => absurd ((hoff 9 (by kernel_rfl)).symm.trans h0_) (by decide), fun h0_ => absurd ((hoff 10 (by kernel_rfl)).symm.trans h0_) (by decide), fun h0_ => absurd ((hoff 11 (by kernel_rfl)).symm.trans h0_) (by decide), fun h0_ => absurd ((hoff 13 (by kernel_rfl)).symm.trans h0_) (by decide)⟩
  refine steps_cons ?_ ?_
  ·
   rintro b a w' ⟨v252, v255, v258, m9_, m10_, m11_, m13_, ha, Q_HO221, Q_HO225, Q_HO228, Q_HO234, Q_HO238, Q_HO242, Q_HO245, Q_BK222, Q_HB, Q_HO253, Q_HO256, Q_HO259, Q_X9_, Q_X10_, Q_X11_, Q_X13_⟩ hb_ hon hoff
   refine ⟨_, rfl, fun K hK => ?_⟩
   have e59 : a.tmps[59]? = some (.slice Ao16 y219.length co16) := by rw [ha]; exact (putSel_off rfl).trans rfl
   replace ha := Aside0.mk ha
   have HO221 := Aside0.mk Q_HO221
   have HO225 := Aside0.mk Q_HO225
   have HO228 := Aside0.mk Q_HO228
   have HO234 := Aside0.mk Q_HO234
   have HO238 := Aside0.mk Q_HO238
   have HO242 := Aside0.mk Q_HO242
   have HO245 := Aside0.mk Q_HO245
   have BK222 := Aside0.mk Q_BK222
   have HB := Aside0.mk Q_HB
   refine value_ (w1 := w') (v := .slice Ao16 y247.length co16) (by rfl) rfl ?_ ?_
   ·
    go_simp
    (try simp only [i64_w])
    try rfl
   refine hK.out _ _ ⟨v252, v255, v258, m9_, m10_, m11_, m13_, (by rw [ha.out]; exact putSel_upk 3 hb_ rfl rfl rfl), Q_HO221, Q_HO225, Q_HO228, Q_HO234, Q_HO238, Q_HO242, Q_HO245, Q_BK222, Q_HB, Q_HO253, Q_HO256, fun h0_ => absurd ((hoff 9 (by kernel_rfl)).symm.trans h0_) (by decide), fun h0_ => absurd ((hoff 9 (by kernel_rfl)).symm.trans h0_) (by decide), fun h0_ => absurd ((hoff 10 (by kernel_rfl)).symm.trans h0_) (by decide), fun h0_ => absurd ((hoff 11 (by kernel_rfl)).symm.trans h0_) (by decide), fun h0_ => absurd ((hoff 13 (by kernel_rfl)).symm.trans h0_) (by decide)⟩
  refine steps_cons ?_ ?_
  ·
   rintro b a w' ⟨v252, v255, v258, m9_, m10_, m11_, m13_, ha, Q_HO221, Q_HO225, Q_HO228, Q_HO234, Q_HO238, Q_HO242, Q_HO245, Q_BK222, Q_HB, Q_HO253, Q_HO256, Q_HO259, Q_X9_, Q_X10_, Q_X11_, Q_X13_⟩ hb_ hon hoff
   refine ⟨_, rfl, fun K hK => ?_⟩
   replace ha := Aside0.mk ha
   have HO221 := Aside0.mk Q_HO221
   have HO225 := Aside0.mk Q_HO225
   have HO228 := Aside0.mk Q_HO228
   have HO234 := Aside0.mk Q_HO234
   have HO238 := Aside0.mk Q_HO238
   have HO242 := Aside0.mk Q_HO242
   have HO245 := Aside0.mk Q_HO245
   have BK222 := Aside0.mk Q_BK222
   have HB := Aside0.mk Q_HB
   refine value_ (w1 := w') (v := .agg #[.int .i64 1, .int .i64 0, .int .i64 1]) (by rfl) rfl ?_ ?_
   ·
    go_simp
    (try simp only [i64_w])
    try rfl
   refine hK.out _ _ ⟨v252, v255, v258, m9_, m10_, m11_, m13_, (by rw [ha.out]; exact putSel_upk 4 hb_ rfl rfl rfl), Q_HO221, Q_HO225, Q_HO228, Q_HO234, Q_HO238, Q_HO242, Q_HO245, Q_BK222, Q_HB, fun h0_ => absurd ((hoff 6 (by kernel_rfl)).symm.trans h0_) (by decide), Q_HO256, fun h0_ => absurd ((hoff 9 (by kernel_rfl)).symm.trans h0_) (by decide), fun h0_ => absurd ((hoff 9 (by kernel_rfl)).symm.trans h0_) (by decide), fun h0_ => absurd ((hoff 10 (by kernel_rfl)).symm.trans h0_) (by decide), fun h0_ => absurd ((hoff 11 (by kernel_rfl)).symm.trans h0_) (by decide), fun h0_ => absurd ((hoff 13 (by kernel_rfl)).symm.trans h0_) (by decide)⟩
  refine steps_cons ?_ ?_
  ·
   rintro b a w' ⟨v252, v255, v258, m9_, m10_, m11_, m13_, ha, Q_HO221, Q_HO225, Q_HO228, Q_HO234, Q_HO238, Q_HO242, Q_HO245, Q_BK222, Q_HB, Q_HO253, Q_HO256, Q_HO259, Q_X9_, Q_X10_, Q_X11_, Q_X13_⟩ hb_ hon hoff
   refine ⟨_, rfl, fun K hK => ?_⟩
   have e61 : a.tmps[61]? = some (.agg #[.int .i64 1, .int .i64 0, .int .i64 1]) := by rw [ha]; exact putSel_on (e := (5, 61, .agg #[.int .i64 1, .int .i64 0, .int .i64 1])) 4 rfl rfl (hon 5 (by kernel_rfl)) rfl
   replace ha := Aside0.mk ha
   have HO221 := Aside0.mk Q_HO221
   have HO225 := Aside0.mk Q_HO225
   have HO228 := Aside0.mk Q_HO228
   have HO234 := Aside0.mk Q_HO234
   have HO238 := Aside0.mk Q_HO238
   have HO242 := Aside0.mk Q_HO242
   have HO245 := Aside0.mk Q_HO245
   have BK222 := Aside0.mk Q_BK222
   have HB := Aside0.mk Q_HB
   refine Kd.R_lit_step k63 _ 63 ?hg (N := 62) ?hd (xs := ([(⟨1, 0, 1⟩ : S63)] : List (S63))) (inner := [.int .i64 1, .int .i64 0, .int .i64 1]) (ok := fun _ => True) (okp := fun _ => True) ?hr ?hp (fun _ hk => hk) trivial (Below.refl _ _) (Nat.le_refl _) (by simp) ?_; (case hd => rfl); (case hg => rfl); (case hr => first | (go_simp; done) | (go_simp; rfl)); (case hp => exact (Reps.c3 (show Kd.M k63 _ _ _ (⟨1, 0, 1⟩ : S63) [.int .i64 1, .int .i64 0, .int .i64 1] from (k63_mkM _ _ _ (⟨1, 0, 1⟩ : S63) )) (Reps.none _ _)))
   intro v252 w32 ho33 hb hg_ hnew_
   clear hg_ hnew_
   (first | rw [← Ny251.out] at ho33 | (simp only [Int.reduceToNat] at ho33; rw [← Ny251.out] at ho33))
   have n0_ := Aside0.mk (Kd.R_elder' (by (with_reducible repeat (first | apply Kd.R_alloc | apply Kd.R_drewN | apply Kd.R_drew)); exact HO221.out) (Kd.R_base ho33) hb)
   have n1_ := Aside0.mk (Kd.R_below (by (with_reducible repeat (first | apply Kd.R_alloc | apply Kd.R_drewN | apply Kd.R_drew)); exact HO225.out) hb)
   have n2_ := Aside0.mk (Kd.S_below (by (with_reducible repeat (first | apply Kd.S_alloc | apply Kd.S_drewN | apply Kd.S_drew)); exact HO228.out) hb)
   have n3_ := Aside0.mk (Kd.S_below (by (with_reducible repeat (first | apply Kd.S_alloc | apply Kd.S_drewN | apply Kd.S_drew)); exact HO234.out) hb)
   have n4_ := Aside0.mk (Kd.S_below (by (with_reducible repeat (first | apply Kd.S_alloc | apply Kd.S_drewN | apply Kd.S_drew)); exact HO238.out) hb)
   have n5_ := Aside0.mk (Kd.R_elder' (by (with_reducible repeat (first | apply Kd.R_alloc | apply Kd.R_drewN | apply Kd.R_drew)); exact HO242.out) (Kd.R_base ho33) hb)
   have n6_ := Aside0.mk (Kd.S_below (by (with_reducible repeat (first | apply Kd.S_alloc | apply Kd.S_drewN | apply Kd.S_drew)); exact HO245.out) hb)
   have n7_ := Aside0.mk (Kd.R_lower (Kd.R_new' (Kd.R_new' ho33 (Kd.R_lt (by (with_reducible repeat (first | apply Kd.R_alloc | apply Kd.R_drewN | apply Kd.R_drew)); exact HO221.out))) (Kd.R_lt (by (with_reducible repeat (first | apply Kd.R_alloc | apply Kd.R_drewN | apply Kd.R_drew)); exact HO242.out))) (below_size (by repeat (first | (with_reducible first | exact HB.out | apply below_alloc | apply pw_below_drewN | apply below_drew1 | refine below_set ?_ GE222.out) | exact HB.out))))
   have n8_ := Aside0.mk (blk_below (g := gb222) (o := .cells #[.int .i64 8, .int .i64 4, .int .i64 2] 25 (0, 0)) (by (with_reducible repeat (first | refine blk_drewN ?_ _ | refine blk_drew ?_ | refine blk_alloc ?_ _)); exact BK222.out) hb)
   have n9_ : Aside0 True := ⟨trivial⟩
   have n10_ := Aside0.mk (below_step (by repeat (first | (with_reducible first | exact HB.out | apply below_alloc | apply pw_below_drewN | apply below_drew1 | refine below_set ?_ GE222.out) | exact HB.out)) hb)
   have z_HO256 := fun (h0_ : b 8 = true) => (show Kd.R k91 91 w32 w.heap.size (fun _ => True) v255 y254 from by first | exact (Kd.R_below (by (with_reducible repeat (first | apply Kd.R_alloc | apply Kd.R_drewN | apply Kd.R_drew)); exact (Q_HO256 h0_)) hb) | exact Kd.R_mono (Kd.R_below (by (with_reducible repeat (first | apply Kd.R_alloc | apply Kd.R_drewN | apply Kd.R_drew)); exact (Q_HO256 h0_)) hb) (fun _ h_ => by first | trivial | exact h_ | exact h_.1))
   clear HO221
   clear HO225
   clear HO228
   clear HO234
   clear HO238
   clear HO242
   clear HO245
   clear BK222
   clear HR250
   clear HB
   have HO221 := n0_
   have HO225 := n1_
   have HO228 := n2_
   have HO234 := n3_
   have HO238 := n4_
   have HO242 := n5_
   have HO245 := n6_
   have HO253 := n7_
   have BK222 := n8_
   have HR250 := n9_
   have HB := n10_
   clear n0_ n1_ n2_ n3_ n4_ n5_ n6_ n7_ n8_ n9_ n10_
   clear hb ho33
   refine hK.out _ _ ⟨v252, v255, v258, m9_, m10_, m11_, m13_, (by rw [ha.out]; exact putSel_upk 5 hb_ rfl rfl rfl), (by (with_reducible repeat (first | apply Kd.R_alloc | apply Kd.R_drewN | apply Kd.R_drew)); exact Kd.R_mono HO221.out (fun _ hk => mm_ hk)), (by (with_reducible repeat (first | apply Kd.R_alloc | apply Kd.R_drewN | apply Kd.R_drew)); exact HO225.out), (by (with_reducible repeat (first | apply Kd.S_alloc | apply Kd.S_drewN | apply Kd.S_drew)); exact Kd.S_mono HO228.out (fun _ hk => mm_ hk)), (by (with_reducible repeat (first | apply Kd.S_alloc | apply Kd.S_drewN | apply Kd.S_drew)); exact Kd.S_mono HO234.out (fun _ hk => mm_ hk)), (by (with_reducible repeat (first | apply Kd.S_alloc | apply Kd.S_drewN | apply Kd.S_drew)); exact Kd.S_mono HO238.out (fun _ hk => mm_ hk)), (by (with_reducible repeat (first | apply Kd.R_alloc | apply Kd.R_drewN | apply Kd.R_drew)); exact Kd.R_mono HO242.out (fun _ hk => mm_ hk)), (by (with_reducible repeat (first | apply Kd.S_alloc | apply Kd.S_drewN | apply Kd.S_drew)); exact Kd.S_mono HO245.out (fun _ hk => mm_ hk)), (by (with_reducible repeat (first | refine blk_drewN ?_ _ | refine blk_drew ?_ | refine blk_alloc ?_ _)); exact BK222.out), (by repeat (first | (with_reducible first | exact HB.out | apply below_alloc | apply pw_below_drewN | apply below_drew1 | refine below_set ?_ GE222.out) | exact HB.out)), fun _ => (by (with_reducible repeat (first | apply Kd.R_alloc | apply Kd.R_drewN | apply Kd.R_drew)); exact Kd.R_mono HO253.out (fun _ hk => mm_ hk)), z_HO256, fun h0_ => absurd ((hoff 9 (by kernel_rfl)).symm.trans h0_) (by decide), fun h0_ => absurd ((hoff 9 (by kernel_rfl)).symm.trans h0_) (by decide), fun h0_ => absurd ((hoff 10 (by kernel_rfl)).symm.trans h0_) (by decide), fun h0_ => absurd ((hoff 11 (by kernel_rfl)).symm.trans h0_) (by decide), fun h0_ => absurd ((hoff 13 (by kernel_rfl)).symm.trans h0_) (by decide)⟩
  refine steps_cons ?_ ?_
  ·
   rintro b a w' ⟨v252, v255, v258, m9_, m10_, m11_, m13_, ha, Q_HO221, Q_HO225, Q_HO228, Q_HO234, Q_HO238, Q_HO242, Q_HO245, Q_BK222, Q_HB, Q_HO253, Q_HO256, Q_HO259, Q_X9_, Q_X10_, Q_X11_, Q_X13_⟩ hb_ hon hoff
   refine ⟨_, rfl, fun K hK => ?_⟩
   replace ha := Aside0.mk ha
   have HO221 := Aside0.mk Q_HO221
   have HO225 := Aside0.mk Q_HO225
   have HO228 := Aside0.mk Q_HO228
   have HO234 := Aside0.mk Q_HO234
   have HO238 := Aside0.mk Q_HO238
   have HO242 := Aside0.mk Q_HO242
   have HO245 := Aside0.mk Q_HO245
   have BK222 := Aside0.mk Q_BK222
   have HB := Aside0.mk Q_HB
   refine value_ (w1 := w') (v := .agg #[.bool true, .bool true]) (by rfl) rfl ?_ ?_
   ·
    go_simp
    (try simp only [i64_w])
    try rfl
   refine hK.out _ _ ⟨v252, v255, v258, m9_, m10_, m11_, m13_, (by rw [ha.out]; exact putSel_upk 6 hb_ rfl rfl rfl), Q_HO221, Q_HO225, Q_HO228, Q_HO234, Q_HO238, Q_HO242, Q_HO245, Q_BK222, Q_HB, Q_HO253, fun h0_ => absurd ((hoff 8 (by kernel_rfl)).symm.trans h0_) (by decide), fun h0_ => absurd ((hoff 9 (by kernel_rfl)).symm.trans h0_) (by decide), fun h0_ => absurd ((hoff 9 (by kernel_rfl)).symm.trans h0_) (by decide), fun h0_ => absurd ((hoff 10 (by kernel_rfl)).symm.trans h0_) (by decide), fun h0_ => absurd ((hoff 11 (by kernel_rfl)).symm.trans h0_) (by decide), fun h0_ => absurd ((hoff 13 (by kernel_rfl)).symm.trans h0_) (by decide)⟩
  refine steps_cons ?_ ?_
  ·
   rintro b a w' ⟨v252, v255, v258, m9_, m10_, m11_, m13_, ha, Q_HO221, Q_HO225, Q_HO228, Q_HO234, Q_HO238, Q_HO242, Q_HO245, Q_BK222, Q_HB, Q_HO253, Q_HO256, Q_HO259, Q_X9_, Q_X10_, Q_X11_, Q_X13_⟩ hb_ hon hoff
   refine ⟨_, rfl, fun K hK => ?_⟩
   have e63 : a.tmps[63]? = some (.agg #[.bool true, .bool true]) := by rw [ha]; exact putSel_on (e := (7, 63, .agg #[.bool true, .bool true])) 6 rfl rfl (hon 7 (by kernel_rfl)) rfl
   replace ha := Aside0.mk ha
   have HO221 := Aside0.mk Q_HO221
   have HO225 := Aside0.mk Q_HO225
   have HO228 := Aside0.mk Q_HO228
   have HO234 := Aside0.mk Q_HO234
   have HO238 := Aside0.mk Q_HO238
   have HO242 := Aside0.mk Q_HO242
   have HO245 := Aside0.mk Q_HO245
   have BK222 := Aside0.mk Q_BK222
   have HB := Aside0.mk Q_HB
   refine Kd.R_lit_step k91 _ 91 ?hg (N := 64) ?hd (xs := ([(⟨true, true⟩ : S91)] : List (S91))) (inner := [.bool true, .bool true]) (ok := fun _ => True) (okp := fun _ => True) ?hr ?hp (fun _ hk => hk) trivial (Below.refl _ _) (Nat.le_refl _) (by simp) ?_; (case hd => rfl); (case hg => rfl); (case hr => first | (go_simp; done) | (go_simp; rfl)); (case hp => exact (Reps.c2 (show Kd.M k91 _ _ _ (⟨true, true⟩ : S91) [.bool true, .bool true] from (k91_mkM _ _ _ (⟨true, true⟩ : S91) )) (Reps.none _ _)))
   intro v255 w32 ho33 hb hg_ hnew_
   clear hg_ hnew_
   (first | rw [← Ny254.out] at ho33 | (simp only [Int.reduceToNat] at ho33; rw [← Ny254.out] at ho33))
   have n0_ := Aside0.mk (Kd.R_below (by (with_reducible repeat (first | apply Kd.R_alloc | apply Kd.R_drewN | apply Kd.R_drew)); exact HO221.out) hb)
   have n1_ := Aside0.mk (Kd.R_below (by (with_reducible repeat (first | apply Kd.R_alloc | apply Kd.R_drewN | apply Kd.R_drew)); exact HO225.out) hb)
   have n2_ := Aside0.mk (Kd.S_below (by (with_reducible repeat (first | apply Kd.S_alloc | apply Kd.S_drewN | apply Kd.S_drew)); exact HO228.out) hb)
   have n3_ := Aside0.mk (Kd.S_below (by (with_reducible repeat (first | apply Kd.S_alloc | apply Kd.S_drewN | apply Kd.S_drew)); exact HO234.out) hb)
   have n4_ := Aside0.mk (Kd.S_below (by (with_reducible repeat (first | apply Kd.S_alloc | apply Kd.S_drewN | apply Kd.S_drew)); exact HO238.out) hb)
   have n5_ := Aside0.mk (Kd.R_below (by (with_reducible repeat (first | apply Kd.R_alloc | apply Kd.R_drewN | apply Kd.R_drew)); exact HO242.out) hb)
   have n6_ := Aside0.mk (Kd.S_below (by (with_reducible repeat (first | apply Kd.S_alloc | apply Kd.S_drewN | apply Kd.S_drew)); exact HO245.out) hb)
   have n7_ := Aside0.mk (Kd.R_lower ho33 (below_size (by repeat (first | (with_reducible first | exact HB.out | apply below_alloc | apply pw_below_drewN | apply below_drew1 | refine below_set ?_ GE222.out) | exact HB.out))))
   have n8_ := Aside0.mk (blk_below (g := gb222) (o := .cells #[.int .i64 8, .int .i64 4, .int .i64 2] 25 (0, 0)) (by (with_reducible repeat (first | refine blk_drewN ?_ _ | refine blk_drew ?_ | refine blk_alloc ?_ _)); exact BK222.out) hb)
   have n9_ : Aside0 True := ⟨trivial⟩
   have n10_ := Aside0.mk (below_step (by repeat (first | (with_reducible first | exact HB.out | apply below_alloc | apply pw_below_drewN | apply below_drew1 | refine below_set ?_ GE222.out) | exact HB.out)) hb)
   have z_HO253 := fun (h0_ : b 6 = true) => (show Kd.R k63 63 w32 w.heap.size (fun k_ => some k_ ≠ (.slice Ao16 y219.length co16 : Value).ownBlock ∧ some k_ ≠ (.slice Ao28 y240.length co28 : Value).ownBlock) v252 y251 from by first | exact (Kd.R_below (by (with_reducible repeat (first | apply Kd.R_alloc | apply Kd.R_drewN | apply Kd.R_drew)); exact (Q_HO253 h0_)) hb) | exact Kd.R_mono (Kd.R_below (by (with_reducible repeat (first | apply Kd.R_alloc | apply Kd.R_drewN | apply Kd.R_drew)); exact (Q_HO253 h0_)) hb) (fun _ h_ => by first | trivial | exact h_ | exact h_.1))
   clear HO221
   clear HO225
   clear HO228
   clear HO234
   clear HO238
   clear HO242
   clear HO245
   clear BK222
   clear HR250
   clear HB
   have HO221 := n0_
   have HO225 := n1_
   have HO228 := n2_
   have HO234 := n3_
   have HO238 := n4_
   have HO242 := n5_
   have HO245 := n6_
   have HO256 := n7_
   have BK222 := n8_
   have HR250 := n9_
   have HB := n10_
   clear n0_ n1_ n2_ n3_ n4_ n5_ n6_ n7_ n8_ n9_ n10_
   clear hb ho33
   refine hK.out _ _ ⟨v252, v255, v258, m9_, m10_, m11_, m13_, (by rw [ha.out]; exact putSel_upk 7 hb_ rfl rfl rfl), (by (with_reducible repeat (first | apply Kd.R_alloc | apply Kd.R_drewN | apply Kd.R_drew)); exact Kd.R_mono HO221.out (fun _ hk => mm_ hk)), (by (with_reducible repeat (first | apply Kd.R_alloc | apply Kd.R_drewN | apply Kd.R_drew)); exact HO225.out), (by (with_reducible repeat (first | apply Kd.S_alloc | apply Kd.S_drewN | apply Kd.S_drew)); exact Kd.S_mono HO228.out (fun _ hk => mm_ hk)), (by (with_reducible repeat (first | apply Kd.S_alloc | apply Kd.S_drewN | apply Kd.S_drew)); exact Kd.S_mono HO234.out (fun _ hk => mm_ hk)), (by (with_reducible repeat (first | apply Kd.S_alloc | apply Kd.S_drewN | apply Kd.S_drew)); exact Kd.S_mono HO238.out (fun _ hk => mm_ hk)), (by (with_reducible repeat (first | apply Kd.R_alloc | apply Kd.R_drewN | apply Kd.R_drew)); exact Kd.R_mono HO242.out (fun _ hk => mm_ hk)), (by (with_reducible repeat (first | apply Kd.S_alloc | apply Kd.S_drewN | apply Kd.S_drew)); exact Kd.S_mono HO245.out (fun _ hk => mm_ hk)), (by (with_reducible repeat (first | refine blk_drewN ?_ _ | refine blk_drew ?_ | refine blk_alloc ?_ _)); exact BK222.out), (by repeat (first | (with_reducible first | exact HB.out | apply below_alloc | apply pw_below_drewN | apply below_drew1 | refine below_set ?_ GE222.out) | exact HB.out)), z_HO253, fun _ => (by (with_reducible repeat (first | apply Kd.R_alloc | apply Kd.R_drewN | apply Kd.R_drew)); exact HO256.out), fun h0_ => absurd ((hoff 9 (by kernel_rfl)).symm.trans h0_) (by decide), fun h0_ => absurd ((hoff 9 (by kernel_rfl)).symm.trans h0_) (by decide), fun h0_ => absurd ((hoff 10 (by kernel_rfl)).symm.trans h0_) (by decide), fun h0_ => absurd ((hoff 11 (by kernel_rfl)).symm.trans h0_) (by decide), fun h0_ => absurd ((hoff 13 (by kernel_rfl)).symm.trans h0_) (by decide)⟩
  refine steps_cons ?_ ?_
  ·
   rintro b a w' ⟨v252, v255, v258, m9_, m10_, m11_, m13_, ha, Q_HO221, Q_HO225, Q_HO228, Q_HO234, Q_HO238, Q_HO242, Q_HO245, Q_BK222, Q_HB, Q_HO253, Q_HO256, Q_HO259, Q_X9_, Q_X10_, Q_X11_, Q_X13_⟩ hb_ hon hoff
   refine ⟨_, rfl, fun K hK => ?_⟩
   have e58 : a.tmps[58]? = some (.agg #[.int .i64 8, .int .i64 4, .int .i64 2, .int .i64 8, .int .i64 4, .int .i64 2]) := by rw [ha]; exact putSel_on (e := (2, 58, .agg #[.int .i64 8, .int .i64 4, .int .i64 2, .int .i64 8, .int .i64 4, .int .i64 2])) 2 rfl rfl (hon 2 (by kernel_rfl)) rfl
   have e60 : a.tmps[60]? = some (.slice Ao16 y247.length co16) := by rw [ha]; exact putSel_on (e := (4, 60, .slice Ao16 y247.length co16)) 3 rfl rfl (hon 4 (by kernel_rfl)) rfl
   have e62 : a.tmps[62]? = some (v252) := by rw [ha]; exact putSel_on (e := (6, 62, v252)) 5 rfl rfl (hon 6 (by kernel_rfl)) rfl
   have e64 : a.tmps[64]? = some (v255) := by rw [ha]; exact putSel_on (e := (8, 64, v255)) 7 rfl rfl (hon 8 (by kernel_rfl)) rfl
   replace ha := Aside0.mk ha
   have HO221 := Aside0.mk Q_HO221
   have HO225 := Aside0.mk Q_HO225
   have HO228 := Aside0.mk Q_HO228
   have HO234 := Aside0.mk Q_HO234
   have HO238 := Aside0.mk Q_HO238
   have HO242 := Aside0.mk Q_HO242
   have HO245 := Aside0.mk Q_HO245
   have BK222 := Aside0.mk Q_BK222
   have HB := Aside0.mk Q_HB
   have HO253 := Aside0.mk (Q_HO253 (hon 6 (by kernel_rfl)))
   have HO256 := Aside0.mk (Q_HO256 (hon 8 (by kernel_rfl)))
   obtain ⟨Ao37, co37, eo37⟩ := Kd.R_slice HO253.out
   (first | subst eo37 | (injection eo37 with f1_ f2_ f3_; have f4_ := f1_.symm; have f5_ := f3_.symm; clear f1_ f2_ f3_; subst f4_; subst f5_))
   obtain ⟨Ao38, co38, eo38⟩ := Kd.R_slice HO256.out
   (first | subst eo38 | (injection eo38 with f1_ f2_ f3_; have f4_ := f1_.symm; have f5_ := f3_.symm; clear f1_ f2_ f3_; subst f4_; subst f5_))
   refine goes_ Try.func33 (by kernel_rfl) rfl #[.agg #[.int .i64 8, .int .i64 4, .int .i64 2, .int .i64 8, .int .i64 4, .int .i64 2], .slice Ao16 y247.length co16, .slice Ao37 y251.length co37, .slice Ao38 y254.length co38] (by rfl) rfl rfl (by first | (simp only [List.map_toArray, List.map_cons, List.map_nil, Act.eval, Array.getD_eq_getD_getElem?, Option.getD_some, e58, e60, e62, e64]; done) | (simp only [List.map_toArray, List.map_cons, List.map_nil, Act.eval, Array.getD_eq_getD_getElem?, Option.getD_some, e58, e60, e62, e64]; rfl)) ?_
   with_reducible refine (timetable_Coordinated.calls k 8 4 2 8 4 2 _ _ y247 _ _ y251 _ _ y254 t257 t260 _ ?side1 ?side2 ?side3 ?side4 ?side5 ?side6 A8.out).mono ?_
   (case side1 => rw [Ny247.out]; exact Kd.C_take (m := 1) ((Kd.R_reads' (by (with_reducible repeat (first | apply Kd.R_alloc | apply Kd.R_drewN | apply Kd.R_drew)); exact HO221.out)).2.2) KL31.out)
   (case side2 => exact HC250.out)
   (case side3 => repeat (first | exact (Kd.R_reads' HO253.out).2.2 | (with_reducible refine Kd.C_alloc ?_ _) | (with_reducible refine Kd.C_drewN ?_ _) | (with_reducible refine Kd.C_drew ?_)))
   (case side4 => exact (Kd.R_reads' HO253.out).2.1)
   (case side5 => repeat (first | exact (Kd.R_reads' HO256.out).2.2 | (with_reducible refine Kd.C_alloc ?_ _) | (with_reducible refine Kd.C_drewN ?_ _) | (with_reducible refine Kd.C_drew ?_)))
   (case side6 => exact (Kd.R_reads' HO256.out).2.1)
   rintro e w39 ⟨v258, rfl, ho0, hb⟩
   refine ⟨_, rfl, ?_⟩
   have n0_ := Aside0.mk (Kd.R_below (by (with_reducible repeat (first | apply Kd.R_alloc | apply Kd.R_drewN | apply Kd.R_drew)); exact HO221.out) hb)
   have n1_ := Aside0.mk (Kd.R_below (by (with_reducible repeat (first | apply Kd.R_alloc | apply Kd.R_drewN | apply Kd.R_drew)); exact HO225.out) hb)
   have n2_ := Aside0.mk (Kd.S_elder' (by (with_reducible repeat (first | apply Kd.S_alloc | apply Kd.S_drewN | apply Kd.S_drew)); exact HO228.out) (Kd.S_base ho0) hb)
   have n3_ := Aside0.mk (Kd.S_elder' (by (with_reducible repeat (first | apply Kd.S_alloc | apply Kd.S_drewN | apply Kd.S_drew)); exact HO234.out) (Kd.S_base ho0) hb)
   have n4_ := Aside0.mk (Kd.S_elder' (by (with_reducible repeat (first | apply Kd.S_alloc | apply Kd.S_drewN | apply Kd.S_drew)); exact HO238.out) (Kd.S_base ho0) hb)
   have n5_ := Aside0.mk (Kd.R_below (by (with_reducible repeat (first | apply Kd.R_alloc | apply Kd.R_drewN | apply Kd.R_drew)); exact HO242.out) hb)
   have n6_ := Aside0.mk (Kd.S_elder' (by (with_reducible repeat (first | apply Kd.S_alloc | apply Kd.S_drewN | apply Kd.S_drew)); exact HO245.out) (Kd.S_base ho0) hb)
   have n7_ := Aside0.mk (Kd.R_below (by (with_reducible repeat (first | apply Kd.R_alloc | apply Kd.R_drewN | apply Kd.R_drew)); exact HO253.out) hb)
   have n8_ := Aside0.mk (Kd.R_below (by (with_reducible repeat (first | apply Kd.R_alloc | apply Kd.R_drewN | apply Kd.R_drew)); exact HO256.out) hb)
   have n9_ := Aside0.mk (Kd.S_lower (Kd.S_new' (Kd.S_new' (Kd.S_new' (Kd.S_new' ho0 (Kd.S_lt (by (with_reducible repeat (first | apply Kd.S_alloc | apply Kd.S_drewN | apply Kd.S_drew)); exact HO228.out))) (Kd.S_lt (by (with_reducible repeat (first | apply Kd.S_alloc | apply Kd.S_drewN | apply Kd.S_drew)); exact HO234.out))) (Kd.S_lt (by (with_reducible repeat (first | apply Kd.S_alloc | apply Kd.S_drewN | apply Kd.S_drew)); exact HO238.out))) (Kd.S_lt (by (with_reducible repeat (first | apply Kd.S_alloc | apply Kd.S_drewN | apply Kd.S_drew)); exact HO245.out))) (below_size (by repeat (first | (with_reducible first | exact HB.out | apply below_alloc | apply pw_below_drewN | apply below_drew1 | refine below_set ?_ GE222.out) | exact HB.out))))
   have n10_ := Aside0.mk (blk_below (g := gb222) (o := .cells #[.int .i64 8, .int .i64 4, .int .i64 2] 25 (0, 0)) (by (with_reducible repeat (first | refine blk_drewN ?_ _ | refine blk_drew ?_ | refine blk_alloc ?_ _)); exact BK222.out) hb)
   have n11_ := Aside0.mk (below_step (by repeat (first | (with_reducible first | exact HB.out | apply below_alloc | apply pw_below_drewN | apply below_drew1 | refine below_set ?_ GE222.out) | exact HB.out)) hb)
   clear HO221
   clear HO225
   clear HO228
   clear HO234
   clear HO238
   clear HO242
   clear HO245
   clear HO253
   clear HO256
   clear BK222
   clear HB
   have HO221 := n0_
   have HO225 := n1_
   have HO228 := n2_
   have HO234 := n3_
   have HO238 := n4_
   have HO242 := n5_
   have HO245 := n6_
   have HO253 := n7_
   have HO256 := n8_
   have HO259 := n9_
   have BK222 := n10_
   have HB := n11_
   clear n0_ n1_ n2_ n3_ n4_ n5_ n6_ n7_ n8_ n9_ n10_ n11_
   (try clear hb)
   (try clear hb2)
   (try clear hk)
   (try clear hi)
   (try clear ho0)
   refine hK.out _ _ ⟨.slice Ao37 y251.length co37, .slice Ao38 y254.length co38, v258, (.tuple #[v258, .int .i64 t260]), m10_, m11_, m13_, (by rw [ha.out]; exact putSel_upk 8 hb_ rfl rfl rfl), (by (with_reducible repeat (first | apply Kd.R_alloc | apply Kd.R_drewN | apply Kd.R_drew)); exact HO221.out), (by (with_reducible repeat (first | apply Kd.R_alloc | apply Kd.R_drewN | apply Kd.R_drew)); exact HO225.out), (by (with_reducible repeat (first | apply Kd.S_alloc | apply Kd.S_drewN | apply Kd.S_drew)); exact Kd.S_mono HO228.out (fun _ hk => mm_ hk)), (by (with_reducible repeat (first | apply Kd.S_alloc | apply Kd.S_drewN | apply Kd.S_drew)); exact Kd.S_mono HO234.out (fun _ hk => mm_ hk)), (by (with_reducible repeat (first | apply Kd.S_alloc | apply Kd.S_drewN | apply Kd.S_drew)); exact Kd.S_mono HO238.out (fun _ hk => mm_ hk)), (by (with_reducible repeat (first | apply Kd.R_alloc | apply Kd.R_drewN | apply Kd.R_drew)); exact HO242.out), (by (with_reducible repeat (first | apply Kd.S_alloc | apply Kd.S_drewN | apply Kd.S_drew)); exact Kd.S_mono HO245.out (fun _ hk => mm_ hk)), (by (with_reducible repeat (first | refine blk_drewN ?_ _ | refine blk_drew ?_ | refine blk_alloc ?_ _)); exact BK222.out), (by repeat (first | (with_reducible first | exact HB.out | apply below_alloc | apply pw_below_drewN | apply below_drew1 | refine below_set ?_ GE222.out) | exact HB.out)), fun _ => (by (with_reducible repeat (first | apply Kd.R_alloc | apply Kd.R_drewN | apply Kd.R_drew)); exact HO253.out), fun _ => (by (with_reducible repeat (first | apply Kd.R_alloc | apply Kd.R_drewN | apply Kd.R_drew)); exact HO256.out), fun _ => (by (with_reducible repeat (first | apply Kd.S_alloc | apply Kd.S_drewN | apply Kd.S_drew)); exact Kd.S_mono HO259.out (fun _ hk => mm_ hk)), fun _ => rfl, fun h0_ => absurd ((hoff 10 (by kernel_rfl)).symm.trans h0_) (by decide), fun h0_ => absurd ((hoff 11 (by kernel_rfl)).symm.trans h0_) (by decide), fun h0_ => absurd ((hoff 13 (by kernel_rfl)).symm.trans h0_) (by decide)⟩
  refine steps_cons ?_ ?_
  ·
   rintro b a w' ⟨v252, v255, v258, m9_, m10_, m11_, m13_, ha, Q_HO221, Q_HO225, Q_HO228, Q_HO234, Q_HO238, Q_HO242, Q_HO245, Q_BK222, Q_HB, Q_HO253, Q_HO256, Q_HO259, Q_X9_, Q_X10_, Q_X11_, Q_X13_⟩ hb_ hon hoff
   refine ⟨_, rfl, fun K hK => ?_⟩
   have e65 : a.tmps[65]? = some (m9_) := by rw [ha]; exact putSel_on (e := (9, 65, m9_)) 8 rfl rfl (hon 9 (by kernel_rfl)) rfl
   rw [Q_X9_ (hon 9 (by kernel_rfl))] at e65
   replace ha := Aside0.mk ha
   have HO221 := Aside0.mk Q_HO221
   have HO225 := Aside0.mk Q_HO225
   have HO228 := Aside0.mk Q_HO228
   have HO234 := Aside0.mk Q_HO234
   have HO238 := Aside0.mk Q_HO238
   have HO242 := Aside0.mk Q_HO242
   have HO245 := Aside0.mk Q_HO245
   have BK222 := Aside0.mk Q_BK222
   have HB := Aside0.mk Q_HB
   have HO253 := Aside0.mk (Q_HO253 (hon 6 (by kernel_rfl)))
   have HO256 := Aside0.mk (Q_HO256 (hon 8 (by kernel_rfl)))
   have HO259 := Aside0.mk (Q_HO259 (hon 9 (by kernel_rfl)))
   refine value_ (w1 := w') (v := .tuple #[v258, .int .i64 t260]) (by rfl) rfl ?_ ?_
   ·
    go_simp
    (try simp only [i64_w])
    try rfl
   refine hK.out _ _ ⟨v252, v255, v258, m9_, (.tuple #[v258, .int .i64 t260]), m11_, m13_, (by rw [ha.out]; exact putSel_upk 9 hb_ rfl rfl rfl), Q_HO221, Q_HO225, Q_HO228, Q_HO234, Q_HO238, Q_HO242, Q_HO245, Q_BK222, Q_HB, Q_HO253, Q_HO256, Q_HO259, Q_X9_, fun _ => rfl, fun h0_ => absurd ((hoff 11 (by kernel_rfl)).symm.trans h0_) (by decide), fun h0_ => absurd ((hoff 13 (by kernel_rfl)).symm.trans h0_) (by decide)⟩
  refine steps_cons ?_ ?_
  ·
   rintro b a w' ⟨v252, v255, v258, m9_, m10_, m11_, m13_, ha, Q_HO221, Q_HO225, Q_HO228, Q_HO234, Q_HO238, Q_HO242, Q_HO245, Q_BK222, Q_HB, Q_HO253, Q_HO256, Q_HO259, Q_X9_, Q_X10_, Q_X11_, Q_X13_⟩ hb_ hon hoff
   refine ⟨_, rfl, fun K hK => ?_⟩
   have e55 : a.tmps[55]? = some (m10_) := by rw [ha]; exact putSel_on (e := (10, 55, m10_)) 9 rfl rfl (hon 10 (by kernel_rfl)) rfl
   rw [Q_X10_ (hon 10 (by kernel_rfl))] at e55
   replace ha := Aside0.mk ha
   have HO221 := Aside0.mk Q_HO221
   have HO225 := Aside0.mk Q_HO225
   have HO228 := Aside0.mk Q_HO228
   have HO234 := Aside0.mk Q_HO234
   have HO238 := Aside0.mk Q_HO238
   have HO242 := Aside0.mk Q_HO242
   have HO245 := Aside0.mk Q_HO245
   have BK222 := Aside0.mk Q_BK222
   have HB := Aside0.mk Q_HB
   have HO253 := Aside0.mk (Q_HO253 (hon 6 (by kernel_rfl)))
   have HO256 := Aside0.mk (Q_HO256 (hon 8 (by kernel_rfl)))
   have HO259 := Aside0.mk (Q_HO259 (hon 9 (by kernel_rfl)))
   obtain ⟨Ao11_0, co11_0, eo_⟩ := Kd.S_slice HO259.out
   subst eo_
   refine value_ (w1 := w') (v := .slice Ao11_0 t257.length co11_0) (by rfl) rfl ?_ ?_
   ·
    go_simp
    (try simp only [i64_w])
    try rfl
   refine hK.out _ _ ⟨v252, v255, .slice Ao11_0 t257.length co11_0, m9_, m10_, (.slice Ao11_0 t257.length co11_0), m13_, (by rw [ha.out]; exact putSel_upk 10 hb_ rfl rfl rfl), Q_HO221, Q_HO225, Q_HO228, Q_HO234, Q_HO238, Q_HO242, Q_HO245, Q_BK222, Q_HB, Q_HO253, Q_HO256, Q_HO259, Q_X9_, Q_X10_, fun _ => rfl, fun h0_ => absurd ((hoff 13 (by kernel_rfl)).symm.trans h0_) (by decide)⟩
  refine steps_cons ?_ ?_
  ·
   rintro b a w' ⟨v252, v255, v258, m9_, m10_, m11_, m13_, ha, Q_HO221, Q_HO225, Q_HO228, Q_HO234, Q_HO238, Q_HO242, Q_HO245, Q_BK222, Q_HB, Q_HO253, Q_HO256, Q_HO259, Q_X9_, Q_X10_, Q_X11_, Q_X13_⟩ hb_ hon hoff
   refine ⟨_, rfl, fun K hK => ?_⟩
   have e55 : a.tmps[55]? = some (m10_) := by rw [ha]; exact putSel_on (e := (10, 55, m10_)) 9 rfl rfl (hon 10 (by kernel_rfl)) rfl
   rw [Q_X10_ (hon 10 (by kernel_rfl))] at e55
   replace ha := Aside0.mk ha
   have HO221 := Aside0.mk Q_HO221
   have HO225 := Aside0.mk Q_HO225
   have HO228 := Aside0.mk Q_HO228
   have HO234 := Aside0.mk Q_HO234
   have HO238 := Aside0.mk Q_HO238
   have HO242 := Aside0.mk Q_HO242
   have HO245 := Aside0.mk Q_HO245
   have BK222 := Aside0.mk Q_BK222
   have HB := Aside0.mk Q_HB
   have HO253 := Aside0.mk (Q_HO253 (hon 6 (by kernel_rfl)))
   have HO256 := Aside0.mk (Q_HO256 (hon 8 (by kernel_rfl)))
   have HO259 := Aside0.mk (Q_HO259 (hon 9 (by kernel_rfl)))
   obtain ⟨Ao12_0, co12_0, eo_⟩ := Kd.S_slice HO259.out
   subst eo_
   refine value_ (w1 := w') (v := .int .i64 t260) (by rfl) rfl ?_ ?_
   ·
    go_simp
    (try simp only [i64_w])
    try rfl
   refine hK.out _ _ ⟨v252, v255, .slice Ao12_0 t257.length co12_0, m9_, m10_, m11_, m13_, (by rw [ha.out]; exact putSel_upk 11 hb_ rfl rfl rfl), Q_HO221, Q_HO225, Q_HO228, Q_HO234, Q_HO238, Q_HO242, Q_HO245, Q_BK222, Q_HB, Q_HO253, Q_HO256, Q_HO259, Q_X9_, Q_X10_, Q_X11_, Q_X13_⟩
  refine steps_cons ?_ ?_
  ·
   rintro b a w' ⟨v252, v255, v258, m9_, m10_, m11_, m13_, ha, Q_HO221, Q_HO225, Q_HO228, Q_HO234, Q_HO238, Q_HO242, Q_HO245, Q_BK222, Q_HB, Q_HO253, Q_HO256, Q_HO259, Q_X9_, Q_X10_, Q_X11_, Q_X13_⟩ hb_ hon hoff
   refine ⟨_, rfl, fun K hK => ?_⟩
   have e66 : a.tmps[66]? = some (m11_) := by rw [ha]; exact putSel_on (e := (11, 66, m11_)) 10 rfl rfl (hon 11 (by kernel_rfl)) rfl
   rw [Q_X11_ (hon 11 (by kernel_rfl))] at e66
   replace ha := Aside0.mk ha
   have HO221 := Aside0.mk Q_HO221
   have HO225 := Aside0.mk Q_HO225
   have HO228 := Aside0.mk Q_HO228
   have HO234 := Aside0.mk Q_HO234
   have HO238 := Aside0.mk Q_HO238
   have HO242 := Aside0.mk Q_HO242
   have HO245 := Aside0.mk Q_HO245
   have BK222 := Aside0.mk Q_BK222
   have HB := Aside0.mk Q_HB
   have HO253 := Aside0.mk (Q_HO253 (hon 6 (by kernel_rfl)))
   have HO256 := Aside0.mk (Q_HO256 (hon 8 (by kernel_rfl)))
   have HO259 := Aside0.mk (Q_HO259 (hon 9 (by kernel_rfl)))
   refine value_ (w1 := w') (v := v258) (by rfl) rfl ?_ ?_
   ·
    go_simp
    (try simp only [i64_w])
    try rfl
   refine hK.out _ _ ⟨v252, v255, v258, m9_, m10_, m11_, (v258), (by rw [ha.out]; exact putSel_upk 12 hb_ rfl rfl rfl), Q_HO221, Q_HO225, Q_HO228, Q_HO234, Q_HO238, Q_HO242, Q_HO245, Q_BK222, Q_HB, Q_HO253, Q_HO256, Q_HO259, Q_X9_, Q_X10_, Q_X11_, fun _ => rfl⟩
  refine steps_cons ?_ ?_
  ·
   rintro b a w' ⟨v252, v255, v258, m9_, m10_, m11_, m13_, ha, Q_HO221, Q_HO225, Q_HO228, Q_HO234, Q_HO238, Q_HO242, Q_HO245, Q_BK222, Q_HB, Q_HO253, Q_HO256, Q_HO259, Q_X9_, Q_X10_, Q_X11_, Q_X13_⟩ hb_ hon hoff
   refine ⟨_, rfl, fun K hK => ?_⟩
   have e67 : a.tmps[67]? = some (.int .i64 t260) := by rw [ha]; exact putSel_on (e := (12, 67, .int .i64 t260)) 11 rfl rfl (hon 12 (by kernel_rfl)) rfl
   replace ha := Aside0.mk ha
   have HO221 := Aside0.mk Q_HO221
   have HO225 := Aside0.mk Q_HO225
   have HO228 := Aside0.mk Q_HO228
   have HO234 := Aside0.mk Q_HO234
   have HO238 := Aside0.mk Q_HO238
   have HO242 := Aside0.mk Q_HO242
   have HO245 := Aside0.mk Q_HO245
   have BK222 := Aside0.mk Q_BK222
   have HB := Aside0.mk Q_HB
   have HO253 := Aside0.mk (Q_HO253 (hon 6 (by kernel_rfl)))
   have HO256 := Aside0.mk (Q_HO256 (hon 8 (by kernel_rfl)))
   have HO259 := Aside0.mk (Q_HO259 (hon 9 (by kernel_rfl)))
   refine value_ (w1 := w') (v := .int .i64 t260) (by rfl) rfl ?_ ?_
   ·
    go_simp
    (try simp only [i64_w])
    try rfl
   refine hK.out _ _ ⟨v252, v255, v258, m9_, m10_, m11_, m13_, (by rw [ha.out]; exact putSel_upk 13 hb_ rfl rfl rfl), Q_HO221, Q_HO225, Q_HO228, Q_HO234, Q_HO238, Q_HO242, Q_HO245, Q_BK222, Q_HB, Q_HO253, Q_HO256, Q_HO259, Q_X9_, Q_X10_, Q_X11_, Q_X13_⟩
  exact steps_nil
 rintro b a w39 hall ⟨v252, v255, v258, m9_, m10_, m11_, m13_, ha, Q_HO221, Q_HO225, Q_HO228, Q_HO234, Q_HO238, Q_HO242, Q_HO245, Q_BK222, Q_HB, Q_HO253, Q_HO256, Q_HO259, Q_X9_, Q_X10_, Q_X11_, Q_X13_⟩
 clear BK222 HB HO221 HO225 HO228 HO234 HO238 HO242 HO245
 have hb0_ := hall 0 (by kernel_rfl)
 have hb1_ := hall 1 (by kernel_rfl)
 have hb2_ := hall 2 (by kernel_rfl)
 have hb4_ := hall 4 (by kernel_rfl)
 have hb5_ := hall 5 (by kernel_rfl)
 have hb6_ := hall 6 (by kernel_rfl)
 have hb7_ := hall 7 (by kernel_rfl)
 have hb8_ := hall 8 (by kernel_rfl)
 have hb9_ := hall 9 (by kernel_rfl)
 have hb10_ := hall 10 (by kernel_rfl)
 have hb11_ := hall 11 (by kernel_rfl)
 have hb12_ := hall 12 (by kernel_rfl)
 have hb13_ := hall 13 (by kernel_rfl)
 have hb14_ := hall 14 (by kernel_rfl)
 subst ha
 obtain rfl := Q_X9_ hb9_
 obtain rfl := Q_X10_ hb10_
 obtain rfl := Q_X11_ hb11_
 obtain rfl := Q_X13_ hb13_
 simp only [putSel, hb0_, hb1_, hb2_, hb4_, hb5_, hb6_, hb7_, hb8_, hb9_, hb10_, hb11_, hb12_, hb13_, hb14_, if_true, Act.put, List.setIfInBounds_toArray, List.set_cons_zero, List.set_cons_succ]
 have HO221 := Aside0.mk Q_HO221
 clear Q_HO221
 have HO225 := Aside0.mk Q_HO225
 clear Q_HO225
 have HO228 := Aside0.mk Q_HO228
 clear Q_HO228
 have HO234 := Aside0.mk Q_HO234
 clear Q_HO234
 have HO238 := Aside0.mk Q_HO238
 clear Q_HO238
 have HO242 := Aside0.mk Q_HO242
 clear Q_HO242
 have HO245 := Aside0.mk Q_HO245
 clear Q_HO245
 have BK222 := Aside0.mk Q_BK222
 clear Q_BK222
 have HB := Aside0.mk Q_HB
 clear Q_HB
 have HO253 := Aside0.mk (Q_HO253 hb6_)
 clear Q_HO253
 have HO256 := Aside0.mk (Q_HO256 hb8_)
 clear Q_HO256
 have HO259 := Aside0.mk (Q_HO259 hb9_)
 clear Q_HO259
 clear hall hb0_ hb1_ hb2_ hb4_ hb5_ hb6_ hb7_ hb8_ hb9_ hb10_ hb11_ hb12_ hb13_ hb14_
 try go_wp2
 have n0_ := Aside0.mk (Kd.R_drew HO221.out)
 have n1_ := Aside0.mk (Kd.R_drew HO225.out)
 have n2_ := Aside0.mk (Kd.S_drew HO228.out)
 have n3_ := Aside0.mk (Kd.S_drew HO234.out)
 have n4_ := Aside0.mk (Kd.S_drew HO238.out)
 have n5_ := Aside0.mk (Kd.R_drew HO242.out)
 have n6_ := Aside0.mk (Kd.S_drew HO245.out)
 have n7_ := Aside0.mk (Kd.R_drew HO253.out)
 have n8_ := Aside0.mk (Kd.R_drew HO256.out)
 have n9_ := Aside0.mk (Kd.S_drew HO259.out)
 have n10_ := Aside0.mk (blk_drew BK222.out)
 have n11_ := Aside0.mk (below_drew1 HB.out)
 clear HO221
 clear HO225
 clear HO228
 clear HO234
 clear HO238
 clear HO242
 clear HO245
 clear HO253
 clear HO256
 clear HO259
 clear BK222
 clear HB
 have HO221 := n0_
 have HO225 := n1_
 have HO228 := n2_
 have HO234 := n3_
 have HO238 := n4_
 have HO242 := n5_
 have HO245 := n6_
 have HO253 := n7_
 have HO256 := n8_
 have HO259 := n9_
 have BK222 := n10_
 have HB := n11_
 clear n0_ n1_ n2_ n3_ n4_ n5_ n6_ n7_ n8_ n9_ n10_ n11_
 have q41 : (1 : Int) ≤ ((y219.length : Int) : Int) := of_decide_eq_true (by first | (with_reducible assumption) | assumption)
 obtain ⟨i041, hi041, _, hsz41, _⟩ := info_parts info63
 have hroom41 : y219.length ≤ co16 := (Kd.R_reads' HO221.out).2.1
 have hC41 : Kd.C k63 _ Ao16 y219.length y219 := (Kd.R_reads' HO221.out).2.2
 clear hcut31
 have hcut41 := cut_to (P := Try.prog) 50 63 .i64 Try.underlying50 hi041 Ao16 y219.length co16 1 (by omega) q41 hroom41
 have hr41 := Kd.C_take (m := 1) hC41 (by omega)
 have hy41 : y261.length = (1 : Int).toNat := (by rw [Ny261.out, List.length_take]; omega)
 rw [← Ny261.out] at hr41
 rw [← hy41] at hcut41
 have HR264 := Aside0.mk hr41
 have HC264 := Aside0.mk (show y261.length ≤ co16 from by omega)
 clear hr41 hC41 hroom41 hi041 hsz41
 have KY41 := Aside0.mk hy41
 clear hy41
 have KL41 := Aside0.mk (show 1 ≤ y219.length from by omega)
 replace q41 := eq_true q41
 refine start_ (n := 14) (S := fun w' => w'.cell? ⟨gb222, 0, none⟩ = some (.int .i64 8) ∧ w'.cell? ⟨gb222, 1, none⟩ = some (.int .i64 4) ∧ w'.cell? ⟨gb222, 2, none⟩ = some (.int .i64 2)) (ds := []) #[false, false, false, false, false, false, false, false, false, false, false, false, false, false] (by kernel_rfl) rfl rfl ⟨(blk_cell BK222.out 0).trans rfl, (blk_cell BK222.out 1).trans rfl, (blk_cell BK222.out 2).trans rfl⟩ (fun hHeld => ?_); refine with_tabW ambidexterlaw23_head.tab10 ambidexterlaw23_head.bits10 (fun HT_ HW_ => ?_)
 generalize w39.drew = w40 at HO221 HO225 HO228 HO234 HO238 HO242 HO245 HO253 HO256 HO259 BK222 HB HR264 hHeld ⊢
 refine pq_ (i := 3) (N := some 72) #[false, false, false, true, false, false, false, false, false, false, false, false, false, false] HT_ ?_
 refine pq_ (i := 4) (N := some 73) #[false, false, false, true, true, false, false, false, false, false, false, false, false, false] HT_ ?_
 refine pq_ (i := 5) (N := some 74) #[false, false, false, true, true, true, false, false, false, false, false, false, false, false] HT_ ?_
 refine pq_ (i := 6) (N := some 75) #[false, false, false, true, true, true, true, false, false, false, false, false, false, false] HT_ ?_
 refine take_ (i := 0) (N := some 69) (v := ?_) (a' := ?_) #[true, false, false, true, true, true, true, false, false, false, false, false, false, false] rfl rfl (take_ofW HT_.out HW_.out (by kernel_rfl)) (fun _ _ _ h => h) (Or.inl ⟨by rfl, ?_⟩) hHeld ?_ ?_
 rotate_left
 ·
  rintro w' ⟨s0, s1, s2⟩
  go_simp
  with_reducible rfl
 rotate_left; · (simp only [Act.put, List.setIfInBounds_toArray, List.set_cons_zero, List.set_cons_succ, i64_w, i32_w]; rfl)
 refine take_ (i := 1) (N := some 70) (v := ?_) (a' := ?_) #[true, true, false, true, true, true, true, false, false, false, false, false, false, false] rfl rfl (take_ofW HT_.out HW_.out (by kernel_rfl)) (fun _ _ _ h => h) (Or.inl ⟨by rfl, ?_⟩) hHeld ?_ ?_
 rotate_left
 ·
  rintro w' ⟨s0, s1, s2⟩
  go_simp
  with_reducible rfl
 rotate_left; · (simp only [Act.put, List.setIfInBounds_toArray, List.set_cons_zero, List.set_cons_succ, i64_w, i32_w]; rfl)
 refine pq_ (i := 2) (N := some 71) #[true, true, true, true, true, true, true, false, false, false, false, false, false, false] HT_ ?_
 refine one_ (i := 7) (N := some 76) #[true, true, true, true, true, true, true, true, false, false, false, false, false, false] rfl rfl (one_of HT_.out (by kernel_rfl)) (by decide) (fun K hK => ?_)
 refine Kd.R_lit_step k91 _ 91 ?hg (N := 76) ?hd (xs := ([(⟨false, false⟩ : S91), (⟨true, false⟩ : S91)] : List (S91))) (inner := [.bool false, .bool false, .bool true, .bool false]) (ok := fun _ => True) (okp := fun _ => True) ?hr ?hp (fun _ hk => hk) trivial (Below.refl _ _) (Nat.le_refl _) (by simp) ?_; (case hd => rfl); (case hg => rfl); (case hr => first | (go_simp; done) | (go_simp; rfl)); (case hp => exact (Reps.c2 (show Kd.M k91 _ _ _ (⟨false, false⟩ : S91) [.bool false, .bool false] from (k91_mkM _ _ _ (⟨false, false⟩ : S91) )) (Reps.c2 (show Kd.M k91 _ _ _ (⟨true, false⟩ : S91) [.bool true, .bool false] from (k91_mkM _ _ _ (⟨true, false⟩ : S91) )) (Reps.none _ _))))
 intro v266 w42 ho43 hb hg_ hnew_
 clear hg_ hnew_
 (first | rw [← Ny265.out] at ho43 | (simp only [Int.reduceToNat] at ho43; rw [← Ny265.out] at ho43))
 have n0_ := Aside0.mk (Kd.R_below (by (with_reducible repeat (first | apply Kd.R_alloc | apply Kd.R_drewN | apply Kd.R_drew)); exact HO221.out) hb)
 have n1_ := Aside0.mk (Kd.R_below (by (with_reducible repeat (first | apply Kd.R_alloc | apply Kd.R_drewN | apply Kd.R_drew)); exact HO225.out) hb)
 have n2_ := Aside0.mk (Kd.S_below (by (with_reducible repeat (first | apply Kd.S_alloc | apply Kd.S_drewN | apply Kd.S_drew)); exact HO228.out) hb)
 have n3_ := Aside0.mk (Kd.S_below (by (with_reducible repeat (first | apply Kd.S_alloc | apply Kd.S_drewN | apply Kd.S_drew)); exact HO234.out) hb)
 have n4_ := Aside0.mk (Kd.S_below (by (with_reducible repeat (first | apply Kd.S_alloc | apply Kd.S_drewN | apply Kd.S_drew)); exact HO238.out) hb)
 have n5_ := Aside0.mk (Kd.R_below (by (with_reducible repeat (first | apply Kd.R_alloc | apply Kd.R_drewN | apply Kd.R_drew)); exact HO242.out) hb)
 have n6_ := Aside0.mk (Kd.S_below (by (with_reducible repeat (first | apply Kd.S_alloc | apply Kd.S_drewN | apply Kd.S_drew)); exact HO245.out) hb)
 have n7_ := Aside0.mk (Kd.R_below (by (with_reducible repeat (first | apply Kd.R_alloc | apply Kd.R_drewN | apply Kd.R_drew)); exact HO253.out) hb)
 have n8_ := Aside0.mk (Kd.R_elder' (by (with_reducible repeat (first | apply Kd.R_alloc | apply Kd.R_drewN | apply Kd.R_drew)); exact HO256.out) (Kd.R_base ho43) hb)
 have n9_ := Aside0.mk (Kd.S_below (by (with_reducible repeat (first | apply Kd.S_alloc | apply Kd.S_drewN | apply Kd.S_drew)); exact HO259.out) hb)
 have n10_ := Aside0.mk (Kd.R_lower (Kd.R_new' ho43 (Kd.R_lt (by (with_reducible repeat (first | apply Kd.R_alloc | apply Kd.R_drewN | apply Kd.R_drew)); exact HO256.out))) (below_size (by repeat (first | (with_reducible first | exact HB.out | apply below_alloc | apply pw_below_drewN | apply below_drew1 | refine below_set ?_ GE222.out) | exact HB.out))))
 have n11_ := Aside0.mk (blk_below (g := gb222) (o := .cells #[.int .i64 8, .int .i64 4, .int .i64 2] 25 (0, 0)) (by (with_reducible repeat (first | refine blk_drewN ?_ _ | refine blk_drew ?_ | refine blk_alloc ?_ _)); exact BK222.out) hb)
 have n12_ := Aside0.mk (Kd.C_below (by repeat (first | (with_reducible exact HR264.out) | (with_reducible refine Kd.C_alloc ?_ _) | (with_reducible refine Kd.C_drewN ?_ _) | (with_reducible refine Kd.C_drew ?_) | exact HR264.out)) hb)
 have n13_ := Aside0.mk (below_step (by repeat (first | (with_reducible first | exact HB.out | apply below_alloc | apply pw_below_drewN | apply below_drew1 | refine below_set ?_ GE222.out) | exact HB.out)) hb)
 clear HO221
 clear HO225
 clear HO228
 clear HO234
 clear HO238
 clear HO242
 clear HO245
 clear HO253
 clear HO256
 clear HO259
 clear BK222
 clear HR264
 clear HB
 have HO221 := n0_
 have HO225 := n1_
 have HO228 := n2_
 have HO234 := n3_
 have HO238 := n4_
 have HO242 := n5_
 have HO245 := n6_
 have HO253 := n7_
 have HO256 := n8_
 have HO259 := n9_
 have HO267 := n10_
 have BK222 := n11_
 have HR264 := n12_
 have HB := n13_
 clear n0_ n1_ n2_ n3_ n4_ n5_ n6_ n7_ n8_ n9_ n10_ n11_ n12_ n13_
 clear hb ho43
 obtain ⟨Ao44, co44, eo44⟩ := Kd.R_slice HO267.out
 (first | subst eo44 | (injection eo44 with f1_ f2_ f3_; have f4_ := f1_.symm; have f5_ := f3_.symm; clear f1_ f2_ f3_; subst f4_; subst f5_))
 refine hK.out _ _ ⟨(blk_cell BK222.out 0).trans rfl, (blk_cell BK222.out 1).trans rfl, (blk_cell BK222.out 2).trans rfl⟩ (fun hHeld => ?_)
 clear hK K
 refine norm_ (a' := ?_) ?_ ?_
 rotate_left
 ·
  show Act.put _ (some 76) _ = _
  simp only [Act.put, List.setIfInBounds_toArray, List.set_cons_zero, List.set_cons_succ, i64_w, i32_w]
  rfl
 refine one_ (i := 8) (N := some 77) #[true, true, true, true, true, true, true, true, true, false, false, false, false, false] rfl rfl (one_of HT_.out (by kernel_rfl)) (by decide) (fun K hK => ?_)
 refine goes_ Try.func33 (by kernel_rfl) rfl #[.agg #[.int .i64 8, .int .i64 4, .int .i64 2, .int .i64 8, .int .i64 4, .int .i64 2], .slice Ao16 y261.length co16, .slice none 0 0, .slice Ao44 y265.length co44] (by rfl) rfl rfl (by (try simp only [List.map_toArray, List.map_cons, List.map_nil]); first | done | rfl | (simp only [List.length_drop, List.length_take]; rfl)) ?_
 refine (timetable_Coordinated.calls k 8 4 2 8 4 2 _ _ y261 _ _ ([] : List (S63)) _ _ y265 t268 t271 _ ?side1 ?side2 ?side3 ?side4 ?side5 ?side6 A10.out).mono ?_
 (case side1 => repeat (first | exact (by repeat (first | (with_reducible exact HR264.out) | (with_reducible refine Kd.C_alloc ?_ _) | (with_reducible refine Kd.C_drewN ?_ _) | (with_reducible refine Kd.C_drew ?_) | exact HR264.out)) | (with_reducible refine Kd.C_alloc ?_ _) | (with_reducible refine Kd.C_drewN ?_ _) | (with_reducible refine Kd.C_drew ?_)))
 (case side2 => exact HC264.out)
 (case side3 => exact Kd.C_nil _ _)
 (case side4 => exact Nat.le_refl _)
 (case side5 => repeat (first | exact (Kd.R_reads' HO267.out).2.2 | (with_reducible refine Kd.C_alloc ?_ _) | (with_reducible refine Kd.C_drewN ?_ _) | (with_reducible refine Kd.C_drew ?_)))
 (case side6 => exact (Kd.R_reads' HO267.out).2.1)
 rintro e w45 ⟨v269, rfl, ho0, hb⟩
 refine ⟨_, rfl, ?_⟩
 have n0_ := Aside0.mk (Kd.R_below (by (with_reducible repeat (first | apply Kd.R_alloc | apply Kd.R_drewN | apply Kd.R_drew)); exact HO221.out) hb)
 have n1_ := Aside0.mk (Kd.R_below (by (with_reducible repeat (first | apply Kd.R_alloc | apply Kd.R_drewN | apply Kd.R_drew)); exact HO225.out) hb)
 have n2_ := Aside0.mk (Kd.S_elder' (by (with_reducible repeat (first | apply Kd.S_alloc | apply Kd.S_drewN | apply Kd.S_drew)); exact HO228.out) (Kd.S_base ho0) hb)
 have n3_ := Aside0.mk (Kd.S_elder' (by (with_reducible repeat (first | apply Kd.S_alloc | apply Kd.S_drewN | apply Kd.S_drew)); exact HO234.out) (Kd.S_base ho0) hb)
 have n4_ := Aside0.mk (Kd.S_elder' (by (with_reducible repeat (first | apply Kd.S_alloc | apply Kd.S_drewN | apply Kd.S_drew)); exact HO238.out) (Kd.S_base ho0) hb)
 have n5_ := Aside0.mk (Kd.R_below (by (with_reducible repeat (first | apply Kd.R_alloc | apply Kd.R_drewN | apply Kd.R_drew)); exact HO242.out) hb)
 have n6_ := Aside0.mk (Kd.S_elder' (by (with_reducible repeat (first | apply Kd.S_alloc | apply Kd.S_drewN | apply Kd.S_drew)); exact HO245.out) (Kd.S_base ho0) hb)
 have n7_ := Aside0.mk (Kd.R_below (by (with_reducible repeat (first | apply Kd.R_alloc | apply Kd.R_drewN | apply Kd.R_drew)); exact HO253.out) hb)
 have n8_ := Aside0.mk (Kd.R_below (by (with_reducible repeat (first | apply Kd.R_alloc | apply Kd.R_drewN | apply Kd.R_drew)); exact HO256.out) hb)
 have n9_ := Aside0.mk (Kd.S_elder' (by (with_reducible repeat (first | apply Kd.S_alloc | apply Kd.S_drewN | apply Kd.S_drew)); exact HO259.out) (Kd.S_base ho0) hb)
 have n10_ := Aside0.mk (Kd.R_below (by (with_reducible repeat (first | apply Kd.R_alloc | apply Kd.R_drewN | apply Kd.R_drew)); exact HO267.out) hb)
 have n11_ := Aside0.mk (Kd.S_lower (Kd.S_new' (Kd.S_new' (Kd.S_new' (Kd.S_new' (Kd.S_new' ho0 (Kd.S_lt (by (with_reducible repeat (first | apply Kd.S_alloc | apply Kd.S_drewN | apply Kd.S_drew)); exact HO228.out))) (Kd.S_lt (by (with_reducible repeat (first | apply Kd.S_alloc | apply Kd.S_drewN | apply Kd.S_drew)); exact HO234.out))) (Kd.S_lt (by (with_reducible repeat (first | apply Kd.S_alloc | apply Kd.S_drewN | apply Kd.S_drew)); exact HO238.out))) (Kd.S_lt (by (with_reducible repeat (first | apply Kd.S_alloc | apply Kd.S_drewN | apply Kd.S_drew)); exact HO245.out))) (Kd.S_lt (by (with_reducible repeat (first | apply Kd.S_alloc | apply Kd.S_drewN | apply Kd.S_drew)); exact HO259.out))) (below_size (by repeat (first | (with_reducible first | exact HB.out | apply below_alloc | apply pw_below_drewN | apply below_drew1 | refine below_set ?_ GE222.out) | exact HB.out))))
 have n12_ := Aside0.mk (blk_below (g := gb222) (o := .cells #[.int .i64 8, .int .i64 4, .int .i64 2] 25 (0, 0)) (by (with_reducible repeat (first | refine blk_drewN ?_ _ | refine blk_drew ?_ | refine blk_alloc ?_ _)); exact BK222.out) hb)
 have n13_ := Aside0.mk (Kd.C_below (by repeat (first | (with_reducible exact HR264.out) | (with_reducible refine Kd.C_alloc ?_ _) | (with_reducible refine Kd.C_drewN ?_ _) | (with_reducible refine Kd.C_drew ?_) | exact HR264.out)) hb)
 have n14_ := Aside0.mk (below_step (by repeat (first | (with_reducible first | exact HB.out | apply below_alloc | apply pw_below_drewN | apply below_drew1 | refine below_set ?_ GE222.out) | exact HB.out)) hb)
 clear HO221
 clear HO225
 clear HO228
 clear HO234
 clear HO238
 clear HO242
 clear HO245
 clear HO253
 clear HO256
 clear HO259
 clear HO267
 clear BK222
 clear HR264
 clear HB
 have HO221 := n0_
 have HO225 := n1_
 have HO228 := n2_
 have HO234 := n3_
 have HO238 := n4_
 have HO242 := n5_
 have HO245 := n6_
 have HO253 := n7_
 have HO256 := n8_
 have HO259 := n9_
 have HO267 := n10_
 have HO270 := n11_
 have BK222 := n12_
 have HR264 := n13_
 have HB := n14_
 clear n0_ n1_ n2_ n3_ n4_ n5_ n6_ n7_ n8_ n9_ n10_ n11_ n12_ n13_ n14_
 (try clear hb)
 (try clear hb2)
 (try clear hk)
 (try clear hi)
 (try clear ho0)
 refine hK.out _ _ ⟨(blk_cell BK222.out 0).trans rfl, (blk_cell BK222.out 1).trans rfl, (blk_cell BK222.out 2).trans rfl⟩ (fun hHeld => ?_)
 clear hK K
 refine norm_ (a' := ?_) ?_ ?_
 rotate_left
 ·
  show Act.put _ (some 77) _ = _
  simp only [Act.put, List.setIfInBounds_toArray, List.set_cons_zero, List.set_cons_succ, i64_w, i32_w]
  rfl
 refine pq_ (i := 9) (N := some 68) #[true, true, true, true, true, true, true, true, true, true, false, false, false, false] HT_ ?_
 refine pq_ (i := 10) (N := some 78) #[true, true, true, true, true, true, true, true, true, true, true, false, false, false] HT_ ?_
 refine pq_ (i := 11) (N := some 79) #[true, true, true, true, true, true, true, true, true, true, true, true, false, false] HT_ ?_
 refine pq_ (i := 12) (N := some 16) #[true, true, true, true, true, true, true, true, true, true, true, true, true, false] HT_ ?_
 refine pq_ (i := 13) (N := some 17) #[true, true, true, true, true, true, true, true, true, true, true, true, true, true] HT_ ?_
 refine done_ (done_of HT_.out (by kernel_rfl)) ?_
 go_upto_region 11 with (fail)
 go_cut [87] (fun v87 wc => ∃ (kq : Nat) (x87_10 : Bool), v87 = .bool x87_10 ∧ Aside0 (ambidexterlaw23_head.j0 kq y219 t223 t226 t229 t230 t231 t232 t235 t239 t246 t257 t260 t271 x87_10 8 4 2 = some r) ∧ Aside0 (kq ≤ k) ∧ Aside0 (Kd.R k63 63 wc w.heap.size (fun _ => True) (.slice Ao16 y219.length co16) y219) ∧ Aside0 (Kd.R k65 65 wc w.heap.size (fun _ => True) v224 t223) ∧ Aside0 (Kd.S k67 67 wc w.heap.size (fun k_ => some k_ ≠ (v233 : Value).ownBlock ∧ True) v227 t226) ∧ Aside0 (Kd.S k67 67 wc w.heap.size (fun k_ => some k_ ≠ (v227 : Value).ownBlock ∧ True) v233 t232) ∧ Aside0 (Kd.S k67 67 wc w.heap.size (fun k_ => some k_ ≠ (v227 : Value).ownBlock ∧ some k_ ≠ (v233 : Value).ownBlock) m13_ t257) ∧ Aside0 (wc.heap[gb222]? = some (.cells #[.int .i64 8, .int .i64 4, .int .i64 2] 25 (0, 0))) ∧ Aside0 (Kd.C k63 wc Ao16 y261.length y261) ∧ Aside0 (Below w.heap.size w wc))
 case first =>
  have H := HC11.out
  clear HC11
  by_cases c46 : (t226.length : Int) = 2
  ·
   rw [if_pos c46] at H
   have c46b0 : ((t226.length : Int) == 2) = true := beq_iff_eq.mpr c46
   have c46b1 : ((t226.length : Int) != 2) = false := bne_eq_false_iff_eq.mpr c46
   clear c46
   (first | rw [c46b0] | (simp only [i64_w, i32_w]; rw [c46b0]) | skip)
   have H' := Aside0.mk H
   clear H
   obtain ⟨Ao47, co47, eo47⟩ := Kd.S_slice HO228.out
   subst eo47
   obtain ⟨Ao48, co48, eo48⟩ := Kd.S_slice HO259.out
   subst eo48
   go_wp2
   go_meet
   case rel => exact ⟨_, (((t257.length : Int) != 2)), (by first | rfl | (simp; done) | (simp [*]; done)), H', ⟨by first | omega | exact Nat.le_refl _⟩, ⟨by (with_reducible repeat (first | apply Kd.R_alloc | apply Kd.R_drewN | apply Kd.R_drew)); exact Kd.R_mono HO221.out (fun _ hk => mm_ hk)⟩, ⟨by (with_reducible repeat (first | apply Kd.R_alloc | apply Kd.R_drewN | apply Kd.R_drew)); exact HO225.out⟩, ⟨by (with_reducible repeat (first | apply Kd.S_alloc | apply Kd.S_drewN | apply Kd.S_drew)); exact Kd.S_mono HO228.out (fun _ hk => mm_ hk)⟩, ⟨by (with_reducible repeat (first | apply Kd.S_alloc | apply Kd.S_drewN | apply Kd.S_drew)); exact Kd.S_mono HO234.out (fun _ hk => mm_ hk)⟩, ⟨by (with_reducible repeat (first | apply Kd.S_alloc | apply Kd.S_drewN | apply Kd.S_drew)); exact Kd.S_mono HO259.out (fun _ hk => mm_ hk)⟩, ⟨by (with_reducible repeat (first | refine blk_drewN ?_ _ | refine blk_drew ?_ | refine blk_alloc ?_ _)); exact BK222.out⟩, ⟨by repeat (first | (with_reducible exact HR264.out) | (with_reducible refine Kd.C_alloc ?_ _) | (with_reducible refine Kd.C_drewN ?_ _) | (with_reducible refine Kd.C_drew ?_) | exact HR264.out)⟩, ⟨by repeat (first | (with_reducible first | exact HB.out | apply below_alloc | apply pw_below_drewN | apply below_drew1 | refine below_set ?_ GE222.out) | exact HB.out)⟩⟩
  ·
   rw [if_neg c46] at H
   have c46b0 : ((t226.length : Int) == 2) = false := beq_eq_false_iff_ne.mpr c46
   have c46b1 : ((t226.length : Int) != 2) = true := bne_iff_ne.mpr c46
   (first | rw [c46b0] | (simp only [i64_w, i32_w]; rw [c46b0]) | skip)
   have H' := Aside0.mk H
   clear H
   obtain ⟨Ao49, co49, eo49⟩ := Kd.S_slice HO228.out
   subst eo49
   go_wp2
   go_meet
   case rel => exact ⟨_, (true), (by first | rfl | (simp; done) | (simp [*]; done)), H', ⟨by first | omega | exact Nat.le_refl _⟩, ⟨by (with_reducible repeat (first | apply Kd.R_alloc | apply Kd.R_drewN | apply Kd.R_drew)); exact Kd.R_mono HO221.out (fun _ hk => mm_ hk)⟩, ⟨by (with_reducible repeat (first | apply Kd.R_alloc | apply Kd.R_drewN | apply Kd.R_drew)); exact HO225.out⟩, ⟨by (with_reducible repeat (first | apply Kd.S_alloc | apply Kd.S_drewN | apply Kd.S_drew)); exact Kd.S_mono HO228.out (fun _ hk => mm_ hk)⟩, ⟨by (with_reducible repeat (first | apply Kd.S_alloc | apply Kd.S_drewN | apply Kd.S_drew)); exact Kd.S_mono HO234.out (fun _ hk => mm_ hk)⟩, ⟨by (with_reducible repeat (first | apply Kd.S_alloc | apply Kd.S_drewN | apply Kd.S_drew)); exact Kd.S_mono HO259.out (fun _ hk => mm_ hk)⟩, ⟨by (with_reducible repeat (first | refine blk_drewN ?_ _ | refine blk_drew ?_ | refine blk_alloc ?_ _)); exact BK222.out⟩, ⟨by repeat (first | (with_reducible exact HR264.out) | (with_reducible refine Kd.C_alloc ?_ _) | (with_reducible refine Kd.C_drewN ?_ _) | (with_reducible refine Kd.C_drew ?_) | exact HR264.out)⟩, ⟨by repeat (first | (with_reducible first | exact HB.out | apply below_alloc | apply pw_below_drewN | apply below_drew1 | refine below_set ?_ GE222.out) | exact HB.out)⟩⟩
 case rest =>
  clear HC11
  try clear c2
  try clear p2
  try clear c3
  try clear c4
  try clear q4
  try clear c33
  try clear q41
  try clear c46
  try clear c46b0
  try clear c46b1
  try clear q41
  obtain ⟨kq, x87_10, rfl, HA, HJ10, HO_1, HO_3, HO_4, HO_8, HO_14, BK222, HR264, HB⟩ := hcut
  cases kq with
  | zero => exact absurd HA.out (by simp [ambidexterlaw23_head.j0])
  | succ kj10 =>
   have H := HA.out
   clear HA
   simp only [ambidexterlaw23_head.j0] at H
   by_cases c50 : x87_10 = true
   ·
    subst c50
    have H1 : (some false) = some r := by rw [if_pos rfl] at H; exact H
    clear H
    have H := H1
    clear H1
    exact absurd HT.out (by rw [← Option.some.inj H]; decide)
   ·
    replace c50 := Bool.eq_false_iff.mpr c50
    subst c50
    have H1 : ((timetable_PositionsAt.f 1 2 3 0 0 0 t226 2000).bind fun bt272 => (if 0 < (y219.length : Int) then (if 2 < (y219.length : Int) then ((ambidexterref23_SameRuns.f kj10 t223 (([(⟨(⟨(rd_T63 y219 0).f0, (rd_T63 y219 0).f1, (rd_T63 y219 0).f2⟩ : S63), 2⟩ : S65), (⟨(⟨(rd_T63 y219 2).f0, (rd_T63 y219 2).f1, (rd_T63 y219 2).f2⟩ : S63), 1⟩ : S65)] : List (S65)))).bind fun t284 => (if t284 = true then (if t229 = 0 then (if t231 = true then (if 0 < (t226.length : Int) then (if ((rd_T67 t226 0).f1) = 0 then (if (((rd_T67 t226 0).f2).length : Int) = t230 then (if 1 < (t226.length : Int) then (if ((rd_T67 t226 1).f1) = t230 then (if (t232.length : Int) = 0 then (if t235 = 0 then ((timetable_Duration.f kj10 t232).bind fun t288 => (if t288 = 0 then (if t239 = 1 then (if t246 = 1 then (if t260 = 0 then (if 0 < (t257.length : Int) then (if ((rd_T67 t257 0).f1) = 0 then (if 1 < (t257.length : Int) then (if ((rd_T67 t257 1).f1) = 0 then (if ((rd_T67 t257 1).f0.f0.f0) = 1 then (if t271 = 1 then (if ((bt272.1 == 36 && (bt272.2.1 == 12 && (bt272.2.2.1 == 36))) && ((bt272.2.2.2.1 == 0 && (bt272.2.2.2.2.1 == 0 && (bt272.2.2.2.2.2 == 0))))) = true then ((profile_ValidLimits.f 8 4 2).bind fun t292 => (some t292)) else (some false)) else (some false)) else (some false)) else (some false)) else (none)) else (some false)) else (none)) else (some false)) else (some false)) else (some false)) else (some false))) else (some false)) else (some false)) else (some false)) else (none)) else (some false)) else (some false)) else (none)) else (some false)) else (some false)) else (some false))) else (none)) else (none))) = some r := by rw [if_neg (show ¬ (false = true) by decide)] at H; exact H
    clear H
    have H := H1
    clear H1
    replace H := Option.bind_eq_some_iff.mp H
    obtain ⟨⟨t272, t273, t274, t275, t276, t277⟩, A510, H⟩ := H
    replace H : (if 0 < (y219.length : Int) then (if 2 < (y219.length : Int) then ((ambidexterref23_SameRuns.f kj10 t223 (([(⟨(⟨(rd_T63 y219 0).f0, (rd_T63 y219 0).f1, (rd_T63 y219 0).f2⟩ : S63), 2⟩ : S65), (⟨(⟨(rd_T63 y219 2).f0, (rd_T63 y219 2).f1, (rd_T63 y219 2).f2⟩ : S63), 1⟩ : S65)] : List (S65)))).bind fun t284 => (if t284 = true then (if t229 = 0 then (if t231 = true then (if 0 < (t226.length : Int) then (if ((rd_T67 t226 0).f1) = 0 then (if (((rd_T67 t226 0).f2).length : Int) = t230 then (if 1 < (t226.length : Int) then (if ((rd_T67 t226 1).f1) = t230 then (if (t232.length : Int) = 0 then (if t235 = 0 then ((timetable_Duration.f kj10 t232).bind fun t288 => (if t288 = 0 then (if t239 = 1 then (if t246 = 1 then (if t260 = 0 then (if 0 < (t257.length : Int) then (if ((rd_T67 t257 0).f1) = 0 then (if 1 < (t257.length : Int) then (if ((rd_T67 t257 1).f1) = 0 then (if ((rd_T67 t257 1).f0.f0.f0) = 1 then (if t271 = 1 then (if ((t272 == 36 && (t273 == 12 && (t274 == 36))) && ((t275 == 0 && (t276 == 0 && (t277 == 0))))) = true then ((profile_ValidLimits.f 8 4 2).bind fun t292 => (some t292)) else (some false)) else (some false)) else (some false)) else (some false)) else (none)) else (some false)) else (none)) else (some false)) else (some false)) else (some false)) else (some false))) else (some false)) else (some false)) else (some false)) else (none)) else (some false)) else (some false)) else (none)) else (some false)) else (some false)) else (some false))) else (none)) else (none)) = some r := H
    have A51 := Aside0.mk A510
    clear A510
    by_cases c52 : 0 < (y219.length : Int)
    case neg =>
     rw [if_neg c52] at H
     exact absurd H (by simp)
    rw [if_pos c52] at H
    have c52b0 : decide (0 < (y219.length : Int)) = true := decide_eq_true c52
    have c52b1 : decide (0 < y219.length) = true := decide_eq_true (by omega)
    clear c52
    by_cases c53 : 2 < (y219.length : Int)
    case neg =>
     rw [if_neg c53] at H
     exact absurd H (by simp)
    rw [if_pos c53] at H
    have c53b0 : decide (2 < (y219.length : Int)) = true := decide_eq_true c53
    have c53b1 : decide (2 < y219.length) = true := decide_eq_true (by omega)
    clear c53
    obtain ⟨y281, hy281⟩ : ∃ y_ : List (S65), y_ = (([(⟨(⟨(rd_T63 y219 0).f0, (rd_T63 y219 0).f1, (rd_T63 y219 0).f2⟩ : S63), 2⟩ : S65), (⟨(⟨(rd_T63 y219 2).f0, (rd_T63 y219 2).f1, (rd_T63 y219 2).f2⟩ : S63), 1⟩ : S65)] : List (S65))) := ⟨_, rfl⟩
    replace H : ((ambidexterref23_SameRuns.f kj10 t223 y281).bind fun t284 => (if t284 = true then (if t229 = 0 then (if t231 = true then (if 0 < (t226.length : Int) then (if ((rd_T67 t226 0).f1) = 0 then (if (((rd_T67 t226 0).f2).length : Int) = t230 then (if 1 < (t226.length : Int) then (if ((rd_T67 t226 1).f1) = t230 then (if (t232.length : Int) = 0 then (if t235 = 0 then ((timetable_Duration.f kj10 t232).bind fun t288 => (if t288 = 0 then (if t239 = 1 then (if t246 = 1 then (if t260 = 0 then (if 0 < (t257.length : Int) then (if ((rd_T67 t257 0).f1) = 0 then (if 1 < (t257.length : Int) then (if ((rd_T67 t257 1).f1) = 0 then (if ((rd_T67 t257 1).f0.f0.f0) = 1 then (if t271 = 1 then (if ((t272 == 36 && (t273 == 12 && (t274 == 36))) && ((t275 == 0 && (t276 == 0 && (t277 == 0))))) = true then ((profile_ValidLimits.f 8 4 2).bind fun t292 => (some t292)) else (some false)) else (some false)) else (some false)) else (some false)) else (none)) else (some false)) else (none)) else (some false)) else (some false)) else (some false)) else (some false))) else (some false)) else (some false)) else (some false)) else (none)) else (some false)) else (some false)) else (none)) else (some false)) else (some false)) else (some false))) = some r := by first | (rw [hy281]; with_reducible exact H) | (have H2_ := (Option.bind_some _ _).symm.trans H; rw [hy281]; with_reducible exact H2_) | (have H2_ := (Option.bind_some _ _).symm.trans H; with_reducible exact H2_) | with_reducible exact H | (rw [hy281]; exact H) | exact H
    have Ny281 := Aside0.mk hy281
    clear hy281
    replace H := Option.bind_eq_some_iff.mp H
    obtain ⟨t284, A540, H⟩ := H
    replace H : (if t284 = true then (if t229 = 0 then (if t231 = true then (if 0 < (t226.length : Int) then (if ((rd_T67 t226 0).f1) = 0 then (if (((rd_T67 t226 0).f2).length : Int) = t230 then (if 1 < (t226.length : Int) then (if ((rd_T67 t226 1).f1) = t230 then (if (t232.length : Int) = 0 then (if t235 = 0 then ((timetable_Duration.f kj10 t232).bind fun t288 => (if t288 = 0 then (if t239 = 1 then (if t246 = 1 then (if t260 = 0 then (if 0 < (t257.length : Int) then (if ((rd_T67 t257 0).f1) = 0 then (if 1 < (t257.length : Int) then (if ((rd_T67 t257 1).f1) = 0 then (if ((rd_T67 t257 1).f0.f0.f0) = 1 then (if t271 = 1 then (if ((t272 == 36 && (t273 == 12 && (t274 == 36))) && ((t275 == 0 && (t276 == 0 && (t277 == 0))))) = true then ((profile_ValidLimits.f 8 4 2).bind fun t292 => (some t292)) else (some false)) else (some false)) else (some false)) else (some false)) else (none)) else (some false)) else (none)) else (some false)) else (some false)) else (some false)) else (some false))) else (some false)) else (some false)) else (some false)) else (none)) else (some false)) else (some false)) else (none)) else (some false)) else (some false)) else (some false)) = some r := H
    have A54 := Aside0.mk A540
    clear A540
    by_cases c55 : t284 = true
    case neg =>
     replace c55 := Bool.eq_false_iff.mpr c55
     subst c55
     have H1 : (some false) = some r := by rw [if_neg (show ¬ (false = true) by decide)] at H; exact H
     clear H
     have H := H1
     clear H1
     exact absurd HT.out (by rw [← Option.some.inj H]; decide)
    subst c55
    have H1 : (if t229 = 0 then (if t231 = true then (if 0 < (t226.length : Int) then (if ((rd_T67 t226 0).f1) = 0 then (if (((rd_T67 t226 0).f2).length : Int) = t230 then (if 1 < (t226.length : Int) then (if ((rd_T67 t226 1).f1) = t230 then (if (t232.length : Int) = 0 then (if t235 = 0 then ((timetable_Duration.f kj10 t232).bind fun t288 => (if t288 = 0 then (if t239 = 1 then (if t246 = 1 then (if t260 = 0 then (if 0 < (t257.length : Int) then (if ((rd_T67 t257 0).f1) = 0 then (if 1 < (t257.length : Int) then (if ((rd_T67 t257 1).f1) = 0 then (if ((rd_T67 t257 1).f0.f0.f0) = 1 then (if t271 = 1 then (if ((t272 == 36 && (t273 == 12 && (t274 == 36))) && ((t275 == 0 && (t276 == 0 && (t277 == 0))))) = true then ((profile_ValidLimits.f 8 4 2).bind fun t292 => (some t292)) else (some false)) else (some false)) else (some false)) else (some false)) else (none)) else (some false)) else (none)) else (some false)) else (some false)) else (some false)) else (some false))) else (some false)) else (some false)) else (some false)) else (none)) else (some false)) else (some false)) else (none)) else (some false)) else (some false)) = some r := by rw [if_pos rfl] at H; exact H
    clear H
    have H := H1
    clear H1
    by_cases c56 : t229 = 0
    case neg =>
     rw [if_neg c56] at H
     have c56b0 : (t229 == 0) = false := beq_eq_false_iff_ne.mpr c56
     have c56b1 : (t229 != 0) = true := bne_iff_ne.mpr c56
     exact absurd HT.out (by rw [← Option.some.inj H]; decide)
    rw [if_pos c56] at H
    have c56b0 : (t229 == 0) = true := beq_iff_eq.mpr c56
    have c56b1 : (t229 != 0) = false := bne_eq_false_iff_eq.mpr c56
    clear c56
    by_cases c57 : t231 = true
    case neg =>
     replace c57 := Bool.eq_false_iff.mpr c57
     subst c57
     have H1 : (some false) = some r := by rw [if_neg (show ¬ (false = true) by decide)] at H; exact H
     clear H
     have H := H1
     clear H1
     exact absurd HT.out (by rw [← Option.some.inj H]; decide)
    subst c57
    have H1 : (if 0 < (t226.length : Int) then (if ((rd_T67 t226 0).f1) = 0 then (if (((rd_T67 t226 0).f2).length : Int) = t230 then (if 1 < (t226.length : Int) then (if ((rd_T67 t226 1).f1) = t230 then (if (t232.length : Int) = 0 then (if t235 = 0 then ((timetable_Duration.f kj10 t232).bind fun t288 => (if t288 = 0 then (if t239 = 1 then (if t246 = 1 then (if t260 = 0 then (if 0 < (t257.length : Int) then (if ((rd_T67 t257 0).f1) = 0 then (if 1 < (t257.length : Int) then (if ((rd_T67 t257 1).f1) = 0 then (if ((rd_T67 t257 1).f0.f0.f0) = 1 then (if t271 = 1 then (if ((t272 == 36 && (t273 == 12 && (t274 == 36))) && ((t275 == 0 && (t276 == 0 && (t277 == 0))))) = true then ((profile_ValidLimits.f 8 4 2).bind fun t292 => (some t292)) else (some false)) else (some false)) else (some false)) else (some false)) else (none)) else (some false)) else (none)) else (some false)) else (some false)) else (some false)) else (some false))) else (some false)) else (some false)) else (some false)) else (none)) else (some false)) else (some false)) else (none)) = some r := by rw [if_pos rfl] at H; exact H
    clear H
    have H := H1
    clear H1
    by_cases c58 : 0 < (t226.length : Int)
    case neg =>
     rw [if_neg c58] at H
     exact absurd H (by simp)
    rw [if_pos c58] at H
    have c58b0 : decide (0 < (t226.length : Int)) = true := decide_eq_true c58
    have c58b1 : decide (0 < t226.length) = true := decide_eq_true (by omega)
    clear c58
    by_cases c59 : ((rd_T67 t226 0).f1) = 0
    case neg =>
     rw [if_neg c59] at H
     have c59b0 : (((rd_T67 t226 0).f1) == 0) = false := beq_eq_false_iff_ne.mpr c59
     have c59b1 : (((rd_T67 t226 0).f1) != 0) = true := bne_iff_ne.mpr c59
     exact absurd HT.out (by rw [← Option.some.inj H]; decide)
    rw [if_pos c59] at H
    have c59b0 : (((rd_T67 t226 0).f1) == 0) = true := beq_iff_eq.mpr c59
    have c59b1 : (((rd_T67 t226 0).f1) != 0) = false := bne_eq_false_iff_eq.mpr c59
    clear c59
    by_cases c60 : (((rd_T67 t226 0).f2).length : Int) = t230
    case neg =>
     rw [if_neg c60] at H
     have c60b0 : ((((rd_T67 t226 0).f2).length : Int) == t230) = false := beq_eq_false_iff_ne.mpr c60
     have c60b1 : ((((rd_T67 t226 0).f2).length : Int) != t230) = true := bne_iff_ne.mpr c60
     exact absurd HT.out (by rw [← Option.some.inj H]; decide)
    rw [if_pos c60] at H
    have c60b0 : ((((rd_T67 t226 0).f2).length : Int) == t230) = true := beq_iff_eq.mpr c60
    have c60b1 : ((((rd_T67 t226 0).f2).length : Int) != t230) = false := bne_eq_false_iff_eq.mpr c60
    clear c60
    by_cases c61 : 1 < (t226.length : Int)
    case neg =>
     rw [if_neg c61] at H
     exact absurd H (by simp)
    rw [if_pos c61] at H
    have c61b0 : decide (1 < (t226.length : Int)) = true := decide_eq_true c61
    have c61b1 : decide (1 < t226.length) = true := decide_eq_true (by omega)
    clear c61
    by_cases c62 : ((rd_T67 t226 1).f1) = t230
    case neg =>
     rw [if_neg c62] at H
     have c62b0 : (((rd_T67 t226 1).f1) == t230) = false := beq_eq_false_iff_ne.mpr c62
     have c62b1 : (((rd_T67 t226 1).f1) != t230) = true := bne_iff_ne.mpr c62
     exact absurd HT.out (by rw [← Option.some.inj H]; decide)
    rw [if_pos c62] at H
    have c62b0 : (((rd_T67 t226 1).f1) == t230) = true := beq_iff_eq.mpr c62
    have c62b1 : (((rd_T67 t226 1).f1) != t230) = false := bne_eq_false_iff_eq.mpr c62
    clear c62
    by_cases c63 : (t232.length : Int) = 0
    case neg =>
     rw [if_neg c63] at H
     have c63b0 : ((t232.length : Int) == 0) = false := beq_eq_false_iff_ne.mpr c63
     have c63b1 : ((t232.length : Int) != 0) = true := bne_iff_ne.mpr c63
     have c63b2 : ¬ (t232 = []) := fun h_ => c63 (by rw [h_]; rfl)
     exact absurd HT.out (by rw [← Option.some.inj H]; decide)
    rw [if_pos c63] at H
    have c63b0 : ((t232.length : Int) == 0) = true := beq_iff_eq.mpr c63
    have c63b1 : ((t232.length : Int) != 0) = false := bne_eq_false_iff_eq.mpr c63
    clear c63
    by_cases c64 : t235 = 0
    case neg =>
     rw [if_neg c64] at H
     have c64b0 : (t235 == 0) = false := beq_eq_false_iff_ne.mpr c64
     have c64b1 : (t235 != 0) = true := bne_iff_ne.mpr c64
     exact absurd HT.out (by rw [← Option.some.inj H]; decide)
    rw [if_pos c64] at H
    have c64b0 : (t235 == 0) = true := beq_iff_eq.mpr c64
    have c64b1 : (t235 != 0) = false := bne_eq_false_iff_eq.mpr c64
    clear c64
    replace H := Option.bind_eq_some_iff.mp H
    obtain ⟨t288, A650, H⟩ := H
    replace H : (if t288 = 0 then (if t239 = 1 then (if t246 = 1 then (if t260 = 0 then (if 0 < (t257.length : Int) then (if ((rd_T67 t257 0).f1) = 0 then (if 1 < (t257.length : Int) then (if ((rd_T67 t257 1).f1) = 0 then (if ((rd_T67 t257 1).f0.f0.f0) = 1 then (if t271 = 1 then (if ((t272 == 36 && (t273 == 12 && (t274 == 36))) && ((t275 == 0 && (t276 == 0 && (t277 == 0))))) = true then ((profile_ValidLimits.f 8 4 2).bind fun t292 => (some t292)) else (some false)) else (some false)) else (some false)) else (some false)) else (none)) else (some false)) else (none)) else (some false)) else (some false)) else (some false)) else (some false)) = some r := H
    have A65 := Aside0.mk A650
    clear A650
    by_cases c66 : t288 = 0
    case neg =>
     rw [if_neg c66] at H
     have c66b0 : (t288 == 0) = false := beq_eq_false_iff_ne.mpr c66
     have c66b1 : (t288 != 0) = true := bne_iff_ne.mpr c66
     exact absurd HT.out (by rw [← Option.some.inj H]; decide)
    rw [if_pos c66] at H
    have c66b0 : (t288 == 0) = true := beq_iff_eq.mpr c66
    have c66b1 : (t288 != 0) = false := bne_eq_false_iff_eq.mpr c66
    clear c66
    by_cases c67 : t239 = 1
    case neg =>
     rw [if_neg c67] at H
     have c67b0 : (t239 == 1) = false := beq_eq_false_iff_ne.mpr c67
     have c67b1 : (t239 != 1) = true := bne_iff_ne.mpr c67
     exact absurd HT.out (by rw [← Option.some.inj H]; decide)
    rw [if_pos c67] at H
    have c67b0 : (t239 == 1) = true := beq_iff_eq.mpr c67
    have c67b1 : (t239 != 1) = false := bne_eq_false_iff_eq.mpr c67
    clear c67
    by_cases c68 : t246 = 1
    case neg =>
     rw [if_neg c68] at H
     have c68b0 : (t246 == 1) = false := beq_eq_false_iff_ne.mpr c68
     have c68b1 : (t246 != 1) = true := bne_iff_ne.mpr c68
     exact absurd HT.out (by rw [← Option.some.inj H]; decide)
    rw [if_pos c68] at H
    have c68b0 : (t246 == 1) = true := beq_iff_eq.mpr c68
    have c68b1 : (t246 != 1) = false := bne_eq_false_iff_eq.mpr c68
    clear c68
    by_cases c69 : t260 = 0
    case neg =>
     rw [if_neg c69] at H
     have c69b0 : (t260 == 0) = false := beq_eq_false_iff_ne.mpr c69
     have c69b1 : (t260 != 0) = true := bne_iff_ne.mpr c69
     exact absurd HT.out (by rw [← Option.some.inj H]; decide)
    rw [if_pos c69] at H
    have c69b0 : (t260 == 0) = true := beq_iff_eq.mpr c69
    have c69b1 : (t260 != 0) = false := bne_eq_false_iff_eq.mpr c69
    clear c69
    by_cases c70 : 0 < (t257.length : Int)
    case neg =>
     rw [if_neg c70] at H
     exact absurd H (by simp)
    rw [if_pos c70] at H
    have c70b0 : decide (0 < (t257.length : Int)) = true := decide_eq_true c70
    have c70b1 : decide (0 < t257.length) = true := decide_eq_true (by omega)
    clear c70
    by_cases c71 : ((rd_T67 t257 0).f1) = 0
    case neg =>
     rw [if_neg c71] at H
     have c71b0 : (((rd_T67 t257 0).f1) == 0) = false := beq_eq_false_iff_ne.mpr c71
     have c71b1 : (((rd_T67 t257 0).f1) != 0) = true := bne_iff_ne.mpr c71
     exact absurd HT.out (by rw [← Option.some.inj H]; decide)
    rw [if_pos c71] at H
    have c71b0 : (((rd_T67 t257 0).f1) == 0) = true := beq_iff_eq.mpr c71
    have c71b1 : (((rd_T67 t257 0).f1) != 0) = false := bne_eq_false_iff_eq.mpr c71
    clear c71
    by_cases c72 : 1 < (t257.length : Int)
    case neg =>
     rw [if_neg c72] at H
     exact absurd H (by simp)
    rw [if_pos c72] at H
    have c72b0 : decide (1 < (t257.length : Int)) = true := decide_eq_true c72
    have c72b1 : decide (1 < t257.length) = true := decide_eq_true (by omega)
    clear c72
    by_cases c73 : ((rd_T67 t257 1).f1) = 0
    case neg =>
     rw [if_neg c73] at H
     have c73b0 : (((rd_T67 t257 1).f1) == 0) = false := beq_eq_false_iff_ne.mpr c73
     have c73b1 : (((rd_T67 t257 1).f1) != 0) = true := bne_iff_ne.mpr c73
     exact absurd HT.out (by rw [← Option.some.inj H]; decide)
    rw [if_pos c73] at H
    have c73b0 : (((rd_T67 t257 1).f1) == 0) = true := beq_iff_eq.mpr c73
    have c73b1 : (((rd_T67 t257 1).f1) != 0) = false := bne_eq_false_iff_eq.mpr c73
    clear c73
    by_cases c74 : ((rd_T67 t257 1).f0.f0.f0) = 1
    case neg =>
     rw [if_neg c74] at H
     have c74b0 : (((rd_T67 t257 1).f0.f0.f0) == 1) = false := beq_eq_false_iff_ne.mpr c74
     have c74b1 : (((rd_T67 t257 1).f0.f0.f0) != 1) = true := bne_iff_ne.mpr c74
     exact absurd HT.out (by rw [← Option.some.inj H]; decide)
    rw [if_pos c74] at H
    have c74b0 : (((rd_T67 t257 1).f0.f0.f0) == 1) = true := beq_iff_eq.mpr c74
    have c74b1 : (((rd_T67 t257 1).f0.f0.f0) != 1) = false := bne_eq_false_iff_eq.mpr c74
    clear c74
    by_cases c75 : t271 = 1
    case neg =>
     rw [if_neg c75] at H
     have c75b0 : (t271 == 1) = false := beq_eq_false_iff_ne.mpr c75
     have c75b1 : (t271 != 1) = true := bne_iff_ne.mpr c75
     exact absurd HT.out (by rw [← Option.some.inj H]; decide)
    rw [if_pos c75] at H
    have c75b0 : (t271 == 1) = true := beq_iff_eq.mpr c75
    have c75b1 : (t271 != 1) = false := bne_eq_false_iff_eq.mpr c75
    clear c75
    by_cases c76 : ((t272 == 36 && (t273 == 12 && (t274 == 36))) && ((t275 == 0 && (t276 == 0 && (t277 == 0))))) = true
    case neg =>
     rw [if_neg c76] at H
     have c76b0 : ((t272 == 36 && (t273 == 12 && (t274 == 36))) && ((t275 == 0 && (t276 == 0 && (t277 == 0))))) = false := by simpa using c76
     clear c76
     exact absurd HT.out (by rw [← Option.some.inj H]; decide)
    rw [if_pos c76] at H
    have c76b0 : ((t272 == 36 && (t273 == 12 && (t274 == 36))) && ((t275 == 0 && (t276 == 0 && (t277 == 0))))) = true := c76
    clear c76
    replace H := Option.bind_eq_some_iff.mp H
    obtain ⟨t292, A770, H⟩ := H
    replace H : (some t292) = some r := H
    have A77 := Aside0.mk A770
    clear A770
    obtain rfl := Option.some.inj H
    obtain ⟨Ao78, co78, eo78⟩ := Kd.S_slice HO_4.out
    subst eo78
    try go_wp2_with (first | ((with_reducible refine gate_callee (f := 30) rfl ?_); refine goesL_ (some 92) rfl rfl Try.func30 (by kernel_rfl) rfl #[.agg #[.int .i64 1, .int .i64 2, .int .i64 3, .int .i64 0, .int .i64 0, .int .i64 0], .slice Ao78 t226.length co78, .int .i64 2000] rfl (by (try simp only [List.map_toArray, List.map_cons, List.map_nil]); first | done | rfl | (simp only [List.length_drop, List.length_take]; rfl)) ?_; (with_reducible refine (timetable_PositionsAt.calls 1 2 3 0 0 0 _ _ t226 2000 t272 t273 t274 t275 t276 t277 _ ?side1 ?side2 A51.out).mono ?_); (case side1 => repeat (first | exact (Kd.S_reads' HO_4.out).2.2 | (with_reducible refine Kd.C_alloc ?_ _) | (with_reducible refine Kd.C_drewN ?_ _) | (with_reducible refine Kd.C_drew ?_))); (case side2 => exact (Kd.S_reads' HO_4.out).2.1); rintro e w79 ⟨rfl, hb⟩; refine ⟨_, rfl, ?_⟩; have n0_ := Aside0.mk (Kd.R_below (by (with_reducible repeat (first | apply Kd.R_alloc | apply Kd.R_drewN | apply Kd.R_drew)); exact HO_1.out) hb); have n1_ := Aside0.mk (Kd.R_below (by (with_reducible repeat (first | apply Kd.R_alloc | apply Kd.R_drewN | apply Kd.R_drew)); exact HO_3.out) hb); have n2_ := Aside0.mk (Kd.S_below (by (with_reducible repeat (first | apply Kd.S_alloc | apply Kd.S_drewN | apply Kd.S_drew)); exact HO_4.out) hb); have n3_ := Aside0.mk (Kd.S_below (by (with_reducible repeat (first | apply Kd.S_alloc | apply Kd.S_drewN | apply Kd.S_drew)); exact HO_8.out) hb); have n4_ := Aside0.mk (Kd.S_below (by (with_reducible repeat (first | apply Kd.S_alloc | apply Kd.S_drewN | apply Kd.S_drew)); exact HO_14.out) hb); have n5_ := Aside0.mk (blk_below (g := gb222) (o := .cells #[.int .i64 8, .int .i64 4, .int .i64 2] 25 (0, 0)) (by (with_reducible repeat (first | refine blk_drewN ?_ _ | refine blk_drew ?_ | refine blk_alloc ?_ _)); exact BK222.out) hb); have n6_ := Aside0.mk (Kd.C_below (by repeat (first | (with_reducible exact HR264.out) | (with_reducible refine Kd.C_alloc ?_ _) | (with_reducible refine Kd.C_drewN ?_ _) | (with_reducible refine Kd.C_drew ?_) | exact HR264.out)) hb); have n7_ := Aside0.mk (below_step (by repeat (first | (with_reducible first | exact HB.out | apply below_alloc | apply pw_below_drewN | apply below_drew1 | refine below_set ?_ GE222.out) | exact HB.out)) hb); clear HO_1; clear HO_3; clear HO_4; clear HO_8; clear HO_14; clear BK222; clear HR264; clear HB; have HO_1 := n0_; have HO_3 := n1_; have HO_4 := n2_; have HO_8 := n3_; have HO_14 := n4_; have BK222 := n5_; have HR264 := n6_; have HB := n7_; clear n0_ n1_ n2_ n3_ n4_ n5_ n6_ n7_; (try clear hb); (try clear hb2); (try clear hk); (try clear hi)) | ((with_reducible refine gate_dst (N := 18) rfl ?_); (try (refine gate_guard (by rfl) ?_; dsimp only)); refine box_event ?hg (N := 18) ?hd (cs := #[.int .i64 0, .int .i64 0, .int .i64 0, .int .i64 0, .int .i64 0, .int .i64 0]) (t := 69) ?hr ?_; (case hd => rfl); (case hg => rfl); (case hr => first | (go_simp; done) | (go_simp; rfl)); intro gb278 hg w80 hbox hb; have n0_ := Aside0.mk (Kd.R_below (by (with_reducible repeat (first | apply Kd.R_alloc | apply Kd.R_drewN | apply Kd.R_drew)); exact HO_1.out) hb); have n1_ := Aside0.mk (Kd.R_below (by (with_reducible repeat (first | apply Kd.R_alloc | apply Kd.R_drewN | apply Kd.R_drew)); exact HO_3.out) hb); have n2_ := Aside0.mk (Kd.S_below (by (with_reducible repeat (first | apply Kd.S_alloc | apply Kd.S_drewN | apply Kd.S_drew)); exact HO_4.out) hb); have n3_ := Aside0.mk (Kd.S_below (by (with_reducible repeat (first | apply Kd.S_alloc | apply Kd.S_drewN | apply Kd.S_drew)); exact HO_8.out) hb); have n4_ := Aside0.mk (Kd.S_below (by (with_reducible repeat (first | apply Kd.S_alloc | apply Kd.S_drewN | apply Kd.S_drew)); exact HO_14.out) hb); have n5_ := Aside0.mk (blk_below (g := gb222) (o := .cells #[.int .i64 8, .int .i64 4, .int .i64 2] 25 (0, 0)) (by (with_reducible repeat (first | refine blk_drewN ?_ _ | refine blk_drew ?_ | refine blk_alloc ?_ _)); exact BK222.out) hb); have n6_ := Aside0.mk (Kd.C_below (by repeat (first | (with_reducible exact HR264.out) | (with_reducible refine Kd.C_alloc ?_ _) | (with_reducible refine Kd.C_drewN ?_ _) | (with_reducible refine Kd.C_drew ?_) | exact HR264.out)) hb); have n7_ := Aside0.mk (below_step (by repeat (first | (with_reducible first | exact HB.out | apply below_alloc | apply pw_below_drewN | apply below_drew1 | refine below_set ?_ GE222.out) | exact HB.out)) hb); have n8_ := Aside0.mk (hbox); have n9_ := Aside0.mk ((by rw [hg]; exact (below_size (by repeat (first | (with_reducible first | exact HB.out | apply below_alloc | apply pw_below_drewN | apply below_drew1 | refine below_set ?_ GE222.out) | exact HB.out))) : w.heap.size ≤ gb278)); have n10_ := Aside0.mk ((by rw [hg]; exact (below_size (by repeat (first | (with_reducible first | exact HB.out | apply below_alloc | apply pw_below_drewN | apply below_drew1 | refine below_set ?_ GE222.out) | exact HB.out))) : w.heap.size ≤ gb278)); have n11_ := Aside0.mk ((by rw [hg]; exact Nat.ne_of_lt (blk_lt (g := gb222) (o := .cells #[.int .i64 8, .int .i64 4, .int .i64 2] 25 (0, 0)) (by (with_reducible repeat (first | refine blk_drewN ?_ _ | refine blk_drew ?_ | refine blk_alloc ?_ _)); exact BK222.out)) : gb222 ≠ gb278)); have n12_ := Aside0.mk ((by rw [hg]; exact Nat.ne_of_gt (blk_lt (g := gb222) (o := .cells #[.int .i64 8, .int .i64 4, .int .i64 2] 25 (0, 0)) (by (with_reducible repeat (first | refine blk_drewN ?_ _ | refine blk_drew ?_ | refine blk_alloc ?_ _)); exact BK222.out)) : gb278 ≠ gb222)); clear HO_1; clear HO_3; clear HO_4; clear HO_8; clear HO_14; clear BK222; clear HR264; clear HB; have HO_1 := n0_; have HO_3 := n1_; have HO_4 := n2_; have HO_8 := n3_; have HO_14 := n4_; have BK222 := n5_; have HR264 := n6_; have HB := n7_; have BK278 := n8_; have GW278 := n9_; have GE278 := n10_; have NB222_278 := n11_; have NB278_222 := n12_; clear n0_ n1_ n2_ n3_ n4_ n5_ n6_ n7_ n8_ n9_ n10_ n11_ n12_; clear hb hbox hg; have hnb81 := NB278_222.out; have hnc81 := NB222_278.out; have hcz82_0 : w80.cell? ⟨gb278, 0, none⟩ = some (.int .i64 0) := (blk_cell BK278.out 0).trans rfl; have hcz82_1 : w80.cell? ⟨gb278, 1, none⟩ = some (.int .i64 0) := (blk_cell BK278.out 1).trans rfl; have hcz82_2 : w80.cell? ⟨gb278, 2, none⟩ = some (.int .i64 0) := (blk_cell BK278.out 2).trans rfl; have hcz82_3 : w80.cell? ⟨gb278, 3, none⟩ = some (.int .i64 0) := (blk_cell BK278.out 3).trans rfl; have hcz82_4 : w80.cell? ⟨gb278, 4, none⟩ = some (.int .i64 0) := (blk_cell BK278.out 4).trans rfl; have hcz82_5 : w80.cell? ⟨gb278, 5, none⟩ = some (.int .i64 0) := (blk_cell BK278.out 5).trans rfl; have hfz82_0 := blk_frozen BK278.out 0; have hfz82_1 := blk_frozen BK278.out 1; have hfz82_2 := blk_frozen BK278.out 2; have hfz82_3 := blk_frozen BK278.out 3; have hfz82_4 := blk_frozen BK278.out 4; have hfz82_5 := blk_frozen BK278.out 5))
    have n0_ : Aside0 (Kd.R k63 63 ((((((w80.setCell ⟨gb278, 0, none⟩ (.int .i64 t272)).setCell ⟨gb278, 1, none⟩ (.int .i64 t273)).setCell ⟨gb278, 2, none⟩ (.int .i64 t274)).setCell ⟨gb278, 3, none⟩ (.int .i64 t275)).setCell ⟨gb278, 4, none⟩ (.int .i64 t276)).setCell ⟨gb278, 5, none⟩ (.int .i64 t277)) w.heap.size (fun _ => True) (.slice Ao16 y219.length co16) y219) := ⟨by (with_reducible repeat (first | apply Kd.R_alloc | apply Kd.R_drewN | apply Kd.R_drew)); exact Kd.R_mono (Kd.R_far (p := ⟨gb278, 5, none⟩) (Kd.R_far (p := ⟨gb278, 4, none⟩) (Kd.R_far (p := ⟨gb278, 3, none⟩) (Kd.R_far (p := ⟨gb278, 2, none⟩) (Kd.R_far (p := ⟨gb278, 1, none⟩) (Kd.R_far (p := ⟨gb278, 0, none⟩) (Kd.R_types HO_1.out BK278.out (by decide)) (fun _ hk => hk.2) (.int .i64 t272)) (fun _ hk => hk.2) (.int .i64 t273)) (fun _ hk => hk.2) (.int .i64 t274)) (fun _ hk => hk.2) (.int .i64 t275)) (fun _ hk => hk.2) (.int .i64 t276)) (fun _ hk => hk.2) (.int .i64 t277)) (fun _ hk => trivial)⟩
    have n1_ : Aside0 (Kd.R k65 65 ((((((w80.setCell ⟨gb278, 0, none⟩ (.int .i64 t272)).setCell ⟨gb278, 1, none⟩ (.int .i64 t273)).setCell ⟨gb278, 2, none⟩ (.int .i64 t274)).setCell ⟨gb278, 3, none⟩ (.int .i64 t275)).setCell ⟨gb278, 4, none⟩ (.int .i64 t276)).setCell ⟨gb278, 5, none⟩ (.int .i64 t277)) w.heap.size (fun _ => True) v224 t223) := ⟨by (with_reducible repeat (first | apply Kd.R_alloc | apply Kd.R_drewN | apply Kd.R_drew)); exact Kd.R_mono (Kd.R_far (p := ⟨gb278, 5, none⟩) (Kd.R_far (p := ⟨gb278, 4, none⟩) (Kd.R_far (p := ⟨gb278, 3, none⟩) (Kd.R_far (p := ⟨gb278, 2, none⟩) (Kd.R_far (p := ⟨gb278, 1, none⟩) (Kd.R_far (p := ⟨gb278, 0, none⟩) (Kd.R_types HO_3.out BK278.out (by decide)) (fun _ hk => hk.2) (.int .i64 t272)) (fun _ hk => hk.2) (.int .i64 t273)) (fun _ hk => hk.2) (.int .i64 t274)) (fun _ hk => hk.2) (.int .i64 t275)) (fun _ hk => hk.2) (.int .i64 t276)) (fun _ hk => hk.2) (.int .i64 t277)) (fun _ hk => trivial)⟩
    have n2_ : Aside0 (Kd.S k67 67 ((((((w80.setCell ⟨gb278, 0, none⟩ (.int .i64 t272)).setCell ⟨gb278, 1, none⟩ (.int .i64 t273)).setCell ⟨gb278, 2, none⟩ (.int .i64 t274)).setCell ⟨gb278, 3, none⟩ (.int .i64 t275)).setCell ⟨gb278, 4, none⟩ (.int .i64 t276)).setCell ⟨gb278, 5, none⟩ (.int .i64 t277)) w.heap.size (fun k_ => some k_ ≠ (v233 : Value).ownBlock ∧ True) (.slice Ao78 t226.length co78) t226) := ⟨by (with_reducible repeat (first | apply Kd.S_alloc | apply Kd.S_drewN | apply Kd.S_drew)); exact Kd.S_mono (Kd.S_far (p := ⟨gb278, 5, none⟩) (Kd.S_far (p := ⟨gb278, 4, none⟩) (Kd.S_far (p := ⟨gb278, 3, none⟩) (Kd.S_far (p := ⟨gb278, 2, none⟩) (Kd.S_far (p := ⟨gb278, 1, none⟩) (Kd.S_far (p := ⟨gb278, 0, none⟩) (Kd.S_types HO_4.out BK278.out (by decide)) (fun _ hk => hk.2) (.int .i64 t272)) (fun _ hk => hk.2) (.int .i64 t273)) (fun _ hk => hk.2) (.int .i64 t274)) (fun _ hk => hk.2) (.int .i64 t275)) (fun _ hk => hk.2) (.int .i64 t276)) (fun _ hk => hk.2) (.int .i64 t277)) (fun _ hk => ⟨hk.1.1, hk.1.2⟩)⟩
    have n3_ : Aside0 (Kd.S k67 67 ((((((w80.setCell ⟨gb278, 0, none⟩ (.int .i64 t272)).setCell ⟨gb278, 1, none⟩ (.int .i64 t273)).setCell ⟨gb278, 2, none⟩ (.int .i64 t274)).setCell ⟨gb278, 3, none⟩ (.int .i64 t275)).setCell ⟨gb278, 4, none⟩ (.int .i64 t276)).setCell ⟨gb278, 5, none⟩ (.int .i64 t277)) w.heap.size (fun k_ => some k_ ≠ (.slice Ao78 t226.length co78 : Value).ownBlock ∧ True) v233 t232) := ⟨by (with_reducible repeat (first | apply Kd.S_alloc | apply Kd.S_drewN | apply Kd.S_drew)); exact Kd.S_mono (Kd.S_far (p := ⟨gb278, 5, none⟩) (Kd.S_far (p := ⟨gb278, 4, none⟩) (Kd.S_far (p := ⟨gb278, 3, none⟩) (Kd.S_far (p := ⟨gb278, 2, none⟩) (Kd.S_far (p := ⟨gb278, 1, none⟩) (Kd.S_far (p := ⟨gb278, 0, none⟩) (Kd.S_types HO_8.out BK278.out (by decide)) (fun _ hk => hk.2) (.int .i64 t272)) (fun _ hk => hk.2) (.int .i64 t273)) (fun _ hk => hk.2) (.int .i64 t274)) (fun _ hk => hk.2) (.int .i64 t275)) (fun _ hk => hk.2) (.int .i64 t276)) (fun _ hk => hk.2) (.int .i64 t277)) (fun _ hk => ⟨hk.1.1, hk.1.2⟩)⟩
    have n4_ : Aside0 (Kd.S k67 67 ((((((w80.setCell ⟨gb278, 0, none⟩ (.int .i64 t272)).setCell ⟨gb278, 1, none⟩ (.int .i64 t273)).setCell ⟨gb278, 2, none⟩ (.int .i64 t274)).setCell ⟨gb278, 3, none⟩ (.int .i64 t275)).setCell ⟨gb278, 4, none⟩ (.int .i64 t276)).setCell ⟨gb278, 5, none⟩ (.int .i64 t277)) w.heap.size (fun k_ => some k_ ≠ (.slice Ao78 t226.length co78 : Value).ownBlock ∧ some k_ ≠ (v233 : Value).ownBlock) m13_ t257) := ⟨by (with_reducible repeat (first | apply Kd.S_alloc | apply Kd.S_drewN | apply Kd.S_drew)); exact Kd.S_mono (Kd.S_far (p := ⟨gb278, 5, none⟩) (Kd.S_far (p := ⟨gb278, 4, none⟩) (Kd.S_far (p := ⟨gb278, 3, none⟩) (Kd.S_far (p := ⟨gb278, 2, none⟩) (Kd.S_far (p := ⟨gb278, 1, none⟩) (Kd.S_far (p := ⟨gb278, 0, none⟩) (Kd.S_types HO_14.out BK278.out (by decide)) (fun _ hk => hk.2) (.int .i64 t272)) (fun _ hk => hk.2) (.int .i64 t273)) (fun _ hk => hk.2) (.int .i64 t274)) (fun _ hk => hk.2) (.int .i64 t275)) (fun _ hk => hk.2) (.int .i64 t276)) (fun _ hk => hk.2) (.int .i64 t277)) (fun _ hk => ⟨hk.1.1, hk.1.2⟩)⟩
    have n5_ : Aside0 (((((((w80.setCell ⟨gb278, 0, none⟩ (.int .i64 t272)).setCell ⟨gb278, 1, none⟩ (.int .i64 t273)).setCell ⟨gb278, 2, none⟩ (.int .i64 t274)).setCell ⟨gb278, 3, none⟩ (.int .i64 t275)).setCell ⟨gb278, 4, none⟩ (.int .i64 t276)).setCell ⟨gb278, 5, none⟩ (.int .i64 t277)).heap[gb222]? = some (.cells #[.int .i64 8, .int .i64 4, .int .i64 2] 25 (0, 0))) := ⟨by (with_reducible repeat (first | refine blk_drewN ?_ _ | refine blk_drew ?_ | refine blk_alloc ?_ _)); refine blk_far ?_ NB222_278.out _; (with_reducible repeat (first | refine blk_drewN ?_ _ | refine blk_drew ?_ | refine blk_alloc ?_ _)); refine blk_far ?_ NB222_278.out _; (with_reducible repeat (first | refine blk_drewN ?_ _ | refine blk_drew ?_ | refine blk_alloc ?_ _)); refine blk_far ?_ NB222_278.out _; (with_reducible repeat (first | refine blk_drewN ?_ _ | refine blk_drew ?_ | refine blk_alloc ?_ _)); refine blk_far ?_ NB222_278.out _; (with_reducible repeat (first | refine blk_drewN ?_ _ | refine blk_drew ?_ | refine blk_alloc ?_ _)); refine blk_far ?_ NB222_278.out _; (with_reducible repeat (first | refine blk_drewN ?_ _ | refine blk_drew ?_ | refine blk_alloc ?_ _)); refine blk_far ?_ NB222_278.out _; (with_reducible repeat (first | refine blk_drewN ?_ _ | refine blk_drew ?_ | refine blk_alloc ?_ _)); exact BK222.out⟩
    have n6_ : Aside0 (((((((w80.setCell ⟨gb278, 0, none⟩ (.int .i64 t272)).setCell ⟨gb278, 1, none⟩ (.int .i64 t273)).setCell ⟨gb278, 2, none⟩ (.int .i64 t274)).setCell ⟨gb278, 3, none⟩ (.int .i64 t275)).setCell ⟨gb278, 4, none⟩ (.int .i64 t276)).setCell ⟨gb278, 5, none⟩ (.int .i64 t277)).heap[gb278]? = some (.cells #[.int .i64 t272, .int .i64 t273, .int .i64 t274, .int .i64 t275, .int .i64 t276, .int .i64 t277] 69 (0, 0))) := ⟨by (with_reducible repeat (first | refine blk_drewN ?_ _ | refine blk_drew ?_ | refine blk_alloc ?_ _)); refine blk_put (cs := #[.int .i64 t272, .int .i64 t273, .int .i64 t274, .int .i64 t275, .int .i64 t276, .int .i64 0]) ?_ 5 _ rfl; (with_reducible repeat (first | refine blk_drewN ?_ _ | refine blk_drew ?_ | refine blk_alloc ?_ _)); refine blk_put (cs := #[.int .i64 t272, .int .i64 t273, .int .i64 t274, .int .i64 t275, .int .i64 0, .int .i64 0]) ?_ 4 _ rfl; (with_reducible repeat (first | refine blk_drewN ?_ _ | refine blk_drew ?_ | refine blk_alloc ?_ _)); refine blk_put (cs := #[.int .i64 t272, .int .i64 t273, .int .i64 t274, .int .i64 0, .int .i64 0, .int .i64 0]) ?_ 3 _ rfl; (with_reducible repeat (first | refine blk_drewN ?_ _ | refine blk_drew ?_ | refine blk_alloc ?_ _)); refine blk_put (cs := #[.int .i64 t272, .int .i64 t273, .int .i64 0, .int .i64 0, .int .i64 0, .int .i64 0]) ?_ 2 _ rfl; (with_reducible repeat (first | refine blk_drewN ?_ _ | refine blk_drew ?_ | refine blk_alloc ?_ _)); refine blk_put (cs := #[.int .i64 t272, .int .i64 0, .int .i64 0, .int .i64 0, .int .i64 0, .int .i64 0]) ?_ 1 _ rfl; (with_reducible repeat (first | refine blk_drewN ?_ _ | refine blk_drew ?_ | refine blk_alloc ?_ _)); refine blk_put (cs := #[.int .i64 0, .int .i64 0, .int .i64 0, .int .i64 0, .int .i64 0, .int .i64 0]) ?_ 0 _ rfl; (with_reducible repeat (first | refine blk_drewN ?_ _ | refine blk_drew ?_ | refine blk_alloc ?_ _)); exact BK278.out⟩
    have n7_ : Aside0 (Below w.heap.size w ((((((w80.setCell ⟨gb278, 0, none⟩ (.int .i64 t272)).setCell ⟨gb278, 1, none⟩ (.int .i64 t273)).setCell ⟨gb278, 2, none⟩ (.int .i64 t274)).setCell ⟨gb278, 3, none⟩ (.int .i64 t275)).setCell ⟨gb278, 4, none⟩ (.int .i64 t276)).setCell ⟨gb278, 5, none⟩ (.int .i64 t277))) := ⟨by repeat (first | (with_reducible first | exact HB.out | apply below_alloc | apply pw_below_drewN | apply below_drew1 | refine below_set ?_ GE222.out | refine below_set ?_ GE278.out) | exact HB.out)⟩
    (try clear HO_1)
    (try clear HO_3)
    (try clear HO_4)
    (try clear HO_8)
    (try clear HO_14)
    (try clear BK222)
    (try clear BK278)
    (try clear HB)
    generalize ((((((w80.setCell ⟨gb278, 0, none⟩ (.int .i64 t272)).setCell ⟨gb278, 1, none⟩ (.int .i64 t273)).setCell ⟨gb278, 2, none⟩ (.int .i64 t274)).setCell ⟨gb278, 3, none⟩ (.int .i64 t275)).setCell ⟨gb278, 4, none⟩ (.int .i64 t276)).setCell ⟨gb278, 5, none⟩ (.int .i64 t277)) = w83 at n0_ n1_ n2_ n3_ n4_ n5_ n6_ n7_ ⊢
    have HO_1 := n0_
    have HO_3 := n1_
    have HO_4 := n2_
    have HO_8 := n3_
    have HO_14 := n4_
    have BK222 := n5_
    have BK278 := n6_
    have HB := n7_
    clear n0_ n1_ n2_ n3_ n4_ n5_ n6_ n7_
    have n0_ := Aside0.mk (Kd.R_drew HO_1.out)
    have n1_ := Aside0.mk (Kd.R_drew HO_3.out)
    have n2_ := Aside0.mk (Kd.S_drew HO_4.out)
    have n3_ := Aside0.mk (Kd.S_drew HO_8.out)
    have n4_ := Aside0.mk (Kd.S_drew HO_14.out)
    have n5_ := Aside0.mk (blk_drew BK222.out)
    have n6_ := Aside0.mk (blk_drew BK278.out)
    have n7_ := Aside0.mk (below_drew1 HB.out)
    clear HO_1
    clear HO_3
    clear HO_4
    clear HO_8
    clear HO_14
    clear BK222
    clear BK278
    clear HB
    have HO_1 := n0_
    have HO_3 := n1_
    have HO_4 := n2_
    have HO_8 := n3_
    have HO_14 := n4_
    have BK222 := n5_
    have BK278 := n6_
    have HB := n7_
    clear n0_ n1_ n2_ n3_ n4_ n5_ n6_ n7_
    have p279 : 0 ≤ (0 : Int) := (by omega)
    have q279 : 0 < (y219.length : Int) := of_decide_eq_true (by first | (with_reducible assumption) | assumption)
    obtain ⟨ad279, e279, hx279_0, hx279_1, hx279_2⟩ := at_T63 (Kd.R_reads' HO_1.out).2.2 0 p279 q279
    cases e279
    have qi279 : (0 < y219.length) = True := eq_true (by omega)
    (try rw [show ((0 : Int)).toNat = 0 from rfl] at hx279_0)
    (try rw [show 0 * 3 = 0 from rfl] at hx279_0)
    (try rw [Addr.add_zero'] at hx279_0)
    (try rw [show ((0 : Int)).toNat = 0 from rfl] at hx279_1)
    (try rw [show 0 * 3 = 0 from rfl] at hx279_1)
    (try rw [Addr.add_zero'] at hx279_1)
    (try rw [show ((0 : Int)).toNat = 0 from rfl] at hx279_2)
    (try rw [show 0 * 3 = 0 from rfl] at hx279_2)
    (try rw [Addr.add_zero'] at hx279_2)
    replace p279 := eq_true p279
    replace q279 := eq_true q279
    have p280 : 0 ≤ (2 : Int) := (by omega)
    have q280 : 2 < (y219.length : Int) := of_decide_eq_true (by first | (with_reducible assumption) | assumption)
    obtain ⟨ad280, e280, hx280_0, hx280_1, hx280_2⟩ := at_T63 (Kd.R_reads' HO_1.out).2.2 2 p280 q280
    obtain rfl : ad279 = ad280 := (by injection e280)
    (try simp only [show (2 : Int).toNat = 2 from rfl, Nat.reduceMul, Nat.reduceEqDiff, Go.Addr.add, ↓reduceIte] at hx280_0)
    (try simp only [show (2 : Int).toNat = 2 from rfl, Nat.reduceMul, Nat.reduceEqDiff, Go.Addr.add, ↓reduceIte] at hx280_1)
    (try simp only [show (2 : Int).toNat = 2 from rfl, Nat.reduceMul, Nat.reduceEqDiff, Go.Addr.add, ↓reduceIte] at hx280_2)
    have qi280 : (2 < y219.length) = True := eq_true (by omega)
    (try rw [show ((2 : Int)).toNat = 2 from rfl] at hx280_0)
    (try rw [show 2 * 3 = 6 from rfl] at hx280_0)
    (try rw [show ((2 : Int)).toNat = 2 from rfl] at hx280_1)
    (try rw [show 2 * 3 = 6 from rfl] at hx280_1)
    (try rw [show ((2 : Int)).toNat = 2 from rfl] at hx280_2)
    (try rw [show 2 * 3 = 6 from rfl] at hx280_2)
    replace p280 := eq_true p280
    replace q280 := eq_true q280
    have p285 : 0 ≤ (0 : Int) := (by omega)
    have q285 : 0 < (t226.length : Int) := of_decide_eq_true (by first | (with_reducible assumption) | assumption)
    obtain ⟨ad285, A285_5, c285_5, e285, hx285_0, hx285_1, hx285_2, hx285_3, hx285_4, hx285_5, hl285_5, hi285_5⟩ := at_T67 (Kd.S_reads' HO_4.out).2.2 0 p285 q285
    cases e285
    obtain ⟨ce285, hce285, hMe285, hcc285⟩ := Kd.S_get HO_4.out z67 0 p285 (by first | exact q285 | exact of_decide_eq_true (by first | (with_reducible assumption) | assumption) | (have e_ := (Kd.S_reads' HO_4.out).1; omega))
    obtain ⟨ve285_5, rfl, ge285_5⟩ := k67_openM hMe285
    have hv285_5 := hcc285 5 _ rfl
    rw [add_field _ _ 5 (by omega)] at hv285_5
    replace hv285_5 := Option.some.inj (hv285_5.symm.trans hx285_5)
    rw [hv285_5] at ge285_5
    have HL285_5 := Aside0.mk (show Kd.R (Kd.int .i64) 3 _ _ _ _ ((rd_T67 t226 0).f2) from ge285_5)
    clear hv285_5 ge285_5
    clear hcc285 hce285
    have qi285 : (0 < t226.length) = True := eq_true (by omega)
    (try rw [show ((0 : Int)).toNat = 0 from rfl] at hx285_0)
    (try rw [show 0 * 6 = 0 from rfl] at hx285_0)
    (try rw [Addr.add_zero'] at hx285_0)
    (try rw [show ((0 : Int)).toNat = 0 from rfl] at hx285_1)
    (try rw [show 0 * 6 = 0 from rfl] at hx285_1)
    (try rw [Addr.add_zero'] at hx285_1)
    (try rw [show ((0 : Int)).toNat = 0 from rfl] at hx285_2)
    (try rw [show 0 * 6 = 0 from rfl] at hx285_2)
    (try rw [Addr.add_zero'] at hx285_2)
    (try rw [show ((0 : Int)).toNat = 0 from rfl] at hx285_3)
    (try rw [show 0 * 6 = 0 from rfl] at hx285_3)
    (try rw [Addr.add_zero'] at hx285_3)
    (try rw [show ((0 : Int)).toNat = 0 from rfl] at hx285_4)
    (try rw [show 0 * 6 = 0 from rfl] at hx285_4)
    (try rw [Addr.add_zero'] at hx285_4)
    (try rw [show ((0 : Int)).toNat = 0 from rfl] at hx285_5)
    (try rw [show 0 * 6 = 0 from rfl] at hx285_5)
    (try rw [Addr.add_zero'] at hx285_5)
    have HR285_5 := Aside0.mk hi285_5
    have HC285_5 := Aside0.mk hl285_5
    clear hi285_5 hl285_5
    replace p285 := eq_true p285
    replace q285 := eq_true q285
    have p286 : 0 ≤ (0 : Int) := (by omega)
    have q286 : 0 < (t226.length : Int) := of_decide_eq_true (by first | (with_reducible assumption) | assumption)
    obtain ⟨ad286, A286_5, c286_5, e286, hx286_0, hx286_1, hx286_2, hx286_3, hx286_4, hx286_5, hl286_5, hi286_5⟩ := at_T67 (Kd.S_reads' HO_4.out).2.2 0 p286 q286
    obtain rfl : ad285 = ad286 := (by injection e286)
    obtain ⟨ce286, hce286, hMe286, hcc286⟩ := Kd.S_get HO_4.out z67 0 p286 (by first | exact q286 | exact of_decide_eq_true (by first | (with_reducible assumption) | assumption) | (have e_ := (Kd.S_reads' HO_4.out).1; omega))
    obtain ⟨ve286_5, rfl, ge286_5⟩ := k67_openM hMe286
    have hv286_5 := hcc286 5 _ rfl
    rw [add_field _ _ 5 (by omega)] at hv286_5
    replace hv286_5 := Option.some.inj (hv286_5.symm.trans hx286_5)
    rw [hv286_5] at ge286_5
    have HL286_5 := Aside0.mk (show Kd.R (Kd.int .i64) 3 _ _ _ _ ((rd_T67 t226 0).f2) from ge286_5)
    clear hv286_5 ge286_5
    clear hcc286 hce286
    have qi286 : (0 < t226.length) = True := eq_true (by omega)
    (try rw [show ((0 : Int)).toNat = 0 from rfl] at hx286_0)
    (try rw [show 0 * 6 = 0 from rfl] at hx286_0)
    (try rw [Addr.add_zero'] at hx286_0)
    (try rw [show ((0 : Int)).toNat = 0 from rfl] at hx286_1)
    (try rw [show 0 * 6 = 0 from rfl] at hx286_1)
    (try rw [Addr.add_zero'] at hx286_1)
    (try rw [show ((0 : Int)).toNat = 0 from rfl] at hx286_2)
    (try rw [show 0 * 6 = 0 from rfl] at hx286_2)
    (try rw [Addr.add_zero'] at hx286_2)
    (try rw [show ((0 : Int)).toNat = 0 from rfl] at hx286_3)
    (try rw [show 0 * 6 = 0 from rfl] at hx286_3)
    (try rw [Addr.add_zero'] at hx286_3)
    (try rw [show ((0 : Int)).toNat = 0 from rfl] at hx286_4)
    (try rw [show 0 * 6 = 0 from rfl] at hx286_4)
    (try rw [Addr.add_zero'] at hx286_4)
    (try rw [show ((0 : Int)).toNat = 0 from rfl] at hx286_5)
    (try rw [show 0 * 6 = 0 from rfl] at hx286_5)
    (try rw [Addr.add_zero'] at hx286_5)
    have HR286_5 := Aside0.mk hi286_5
    have HC286_5 := Aside0.mk hl286_5
    clear hi286_5 hl286_5
    replace p286 := eq_true p286
    replace q286 := eq_true q286
    have ea_ := Option.some.inj (hx285_5.symm.trans hx286_5)
    injection ea_ with ea_ en_ ec_
    subst ea_
    subst ec_
    clear en_
    have p287 : 0 ≤ (1 : Int) := (by omega)
    have q287 : 1 < (t226.length : Int) := of_decide_eq_true (by first | (with_reducible assumption) | assumption)
    obtain ⟨ad287, A287_5, c287_5, e287, hx287_0, hx287_1, hx287_2, hx287_3, hx287_4, hx287_5, hl287_5, hi287_5⟩ := at_T67 (Kd.S_reads' HO_4.out).2.2 1 p287 q287
    obtain rfl : ad285 = ad287 := (by injection e287)
    obtain ⟨ce287, hce287, hMe287, hcc287⟩ := Kd.S_get HO_4.out z67 1 p287 (by first | exact q287 | exact of_decide_eq_true (by first | (with_reducible assumption) | assumption) | (have e_ := (Kd.S_reads' HO_4.out).1; omega))
    obtain ⟨ve287_5, rfl, ge287_5⟩ := k67_openM hMe287
    have hv287_5 := hcc287 5 _ rfl
    rw [add_field _ _ 5 (by omega)] at hv287_5
    replace hv287_5 := Option.some.inj (hv287_5.symm.trans hx287_5)
    rw [hv287_5] at ge287_5
    have HL287_5 := Aside0.mk (show Kd.R (Kd.int .i64) 3 _ _ _ _ ((rd_T67 t226 1).f2) from ge287_5)
    clear hv287_5 ge287_5
    clear hcc287 hce287
    (try simp only [show (1 : Int).toNat = 1 from rfl, Nat.reduceMul, Nat.reduceEqDiff, Go.Addr.add, ↓reduceIte] at hx287_0)
    (try simp only [show (1 : Int).toNat = 1 from rfl, Nat.reduceMul, Nat.reduceEqDiff, Go.Addr.add, ↓reduceIte] at hx287_1)
    (try simp only [show (1 : Int).toNat = 1 from rfl, Nat.reduceMul, Nat.reduceEqDiff, Go.Addr.add, ↓reduceIte] at hx287_2)
    (try simp only [show (1 : Int).toNat = 1 from rfl, Nat.reduceMul, Nat.reduceEqDiff, Go.Addr.add, ↓reduceIte] at hx287_3)
    (try simp only [show (1 : Int).toNat = 1 from rfl, Nat.reduceMul, Nat.reduceEqDiff, Go.Addr.add, ↓reduceIte] at hx287_4)
    (try simp only [show (1 : Int).toNat = 1 from rfl, Nat.reduceMul, Nat.reduceEqDiff, Go.Addr.add, ↓reduceIte] at hx287_5)
    have qi287 : (1 < t226.length) = True := eq_true (by omega)
    (try rw [show ((1 : Int)).toNat = 1 from rfl] at hx287_0)
    (try rw [show 1 * 6 = 6 from rfl] at hx287_0)
    (try rw [show ((1 : Int)).toNat = 1 from rfl] at hx287_1)
    (try rw [show 1 * 6 = 6 from rfl] at hx287_1)
    (try rw [show ((1 : Int)).toNat = 1 from rfl] at hx287_2)
    (try rw [show 1 * 6 = 6 from rfl] at hx287_2)
    (try rw [show ((1 : Int)).toNat = 1 from rfl] at hx287_3)
    (try rw [show 1 * 6 = 6 from rfl] at hx287_3)
    (try rw [show ((1 : Int)).toNat = 1 from rfl] at hx287_4)
    (try rw [show 1 * 6 = 6 from rfl] at hx287_4)
    (try rw [show ((1 : Int)).toNat = 1 from rfl] at hx287_5)
    (try rw [show 1 * 6 = 6 from rfl] at hx287_5)
    have HR287_5 := Aside0.mk hi287_5
    have HC287_5 := Aside0.mk hl287_5
    clear hi287_5 hl287_5
    replace p287 := eq_true p287
    replace q287 := eq_true q287
    obtain ⟨AoE_, coE_, eoE_⟩ := Kd.S_slice HO_14.out
    subst eoE_
    have p289 : 0 ≤ (0 : Int) := (by omega)
    have q289 : 0 < (t257.length : Int) := of_decide_eq_true (by first | (with_reducible assumption) | assumption)
    obtain ⟨ad289, A289_5, c289_5, e289, hx289_0, hx289_1, hx289_2, hx289_3, hx289_4, hx289_5, hl289_5, hi289_5⟩ := at_T67 (Kd.S_reads' HO_14.out).2.2 0 p289 q289
    cases e289
    obtain ⟨ce289, hce289, hMe289, hcc289⟩ := Kd.S_get HO_14.out z67 0 p289 (by first | exact q289 | exact of_decide_eq_true (by first | (with_reducible assumption) | assumption) | (have e_ := (Kd.S_reads' HO_14.out).1; omega))
    obtain ⟨ve289_5, rfl, ge289_5⟩ := k67_openM hMe289
    have hv289_5 := hcc289 5 _ rfl
    rw [add_field _ _ 5 (by omega)] at hv289_5
    replace hv289_5 := Option.some.inj (hv289_5.symm.trans hx289_5)
    rw [hv289_5] at ge289_5
    have HL289_5 := Aside0.mk (show Kd.R (Kd.int .i64) 3 _ _ _ _ ((rd_T67 t257 0).f2) from ge289_5)
    clear hv289_5 ge289_5
    clear hcc289 hce289
    have qi289 : (0 < t257.length) = True := eq_true (by omega)
    (try rw [show ((0 : Int)).toNat = 0 from rfl] at hx289_0)
    (try rw [show 0 * 6 = 0 from rfl] at hx289_0)
    (try rw [Addr.add_zero'] at hx289_0)
    (try rw [show ((0 : Int)).toNat = 0 from rfl] at hx289_1)
    (try rw [show 0 * 6 = 0 from rfl] at hx289_1)
    (try rw [Addr.add_zero'] at hx289_1)
    (try rw [show ((0 : Int)).toNat = 0 from rfl] at hx289_2)
    (try rw [show 0 * 6 = 0 from rfl] at hx289_2)
    (try rw [Addr.add_zero'] at hx289_2)
    (try rw [show ((0 : Int)).toNat = 0 from rfl] at hx289_3)
    (try rw [show 0 * 6 = 0 from rfl] at hx289_3)
    (try rw [Addr.add_zero'] at hx289_3)
    (try rw [show ((0 : Int)).toNat = 0 from rfl] at hx289_4)
    (try rw [show 0 * 6 = 0 from rfl] at hx289_4)
    (try rw [Addr.add_zero'] at hx289_4)
    (try rw [show ((0 : Int)).toNat = 0 from rfl] at hx289_5)
    (try rw [show 0 * 6 = 0 from rfl] at hx289_5)
    (try rw [Addr.add_zero'] at hx289_5)
    have HR289_5 := Aside0.mk hi289_5
    have HC289_5 := Aside0.mk hl289_5
    clear hi289_5 hl289_5
    replace p289 := eq_true p289
    replace q289 := eq_true q289
    have p290 : 0 ≤ (1 : Int) := (by omega)
    have q290 : 1 < (t257.length : Int) := of_decide_eq_true (by first | (with_reducible assumption) | assumption)
    obtain ⟨ad290, A290_5, c290_5, e290, hx290_0, hx290_1, hx290_2, hx290_3, hx290_4, hx290_5, hl290_5, hi290_5⟩ := at_T67 (Kd.S_reads' HO_14.out).2.2 1 p290 q290
    obtain rfl : ad289 = ad290 := (by injection e290)
    obtain ⟨ce290, hce290, hMe290, hcc290⟩ := Kd.S_get HO_14.out z67 1 p290 (by first | exact q290 | exact of_decide_eq_true (by first | (with_reducible assumption) | assumption) | (have e_ := (Kd.S_reads' HO_14.out).1; omega))
    obtain ⟨ve290_5, rfl, ge290_5⟩ := k67_openM hMe290
    have hv290_5 := hcc290 5 _ rfl
    rw [add_field _ _ 5 (by omega)] at hv290_5
    replace hv290_5 := Option.some.inj (hv290_5.symm.trans hx290_5)
    rw [hv290_5] at ge290_5
    have HL290_5 := Aside0.mk (show Kd.R (Kd.int .i64) 3 _ _ _ _ ((rd_T67 t257 1).f2) from ge290_5)
    clear hv290_5 ge290_5
    clear hcc290 hce290
    (try simp only [show (1 : Int).toNat = 1 from rfl, Nat.reduceMul, Nat.reduceEqDiff, Go.Addr.add, ↓reduceIte] at hx290_0)
    (try simp only [show (1 : Int).toNat = 1 from rfl, Nat.reduceMul, Nat.reduceEqDiff, Go.Addr.add, ↓reduceIte] at hx290_1)
    (try simp only [show (1 : Int).toNat = 1 from rfl, Nat.reduceMul, Nat.reduceEqDiff, Go.Addr.add, ↓reduceIte] at hx290_2)
    (try simp only [show (1 : Int).toNat = 1 from rfl, Nat.reduceMul, Nat.reduceEqDiff, Go.Addr.add, ↓reduceIte] at hx290_3)
    (try simp only [show (1 : Int).toNat = 1 from rfl, Nat.reduceMul, Nat.reduceEqDiff, Go.Addr.add, ↓reduceIte] at hx290_4)
    (try simp only [show (1 : Int).toNat = 1 from rfl, Nat.reduceMul, Nat.reduceEqDiff, Go.Addr.add, ↓reduceIte] at hx290_5)
    have qi290 : (1 < t257.length) = True := eq_true (by omega)
    (try rw [show ((1 : Int)).toNat = 1 from rfl] at hx290_0)
    (try rw [show 1 * 6 = 6 from rfl] at hx290_0)
    (try rw [show ((1 : Int)).toNat = 1 from rfl] at hx290_1)
    (try rw [show 1 * 6 = 6 from rfl] at hx290_1)
    (try rw [show ((1 : Int)).toNat = 1 from rfl] at hx290_2)
    (try rw [show 1 * 6 = 6 from rfl] at hx290_2)
    (try rw [show ((1 : Int)).toNat = 1 from rfl] at hx290_3)
    (try rw [show 1 * 6 = 6 from rfl] at hx290_3)
    (try rw [show ((1 : Int)).toNat = 1 from rfl] at hx290_4)
    (try rw [show 1 * 6 = 6 from rfl] at hx290_4)
    (try rw [show ((1 : Int)).toNat = 1 from rfl] at hx290_5)
    (try rw [show 1 * 6 = 6 from rfl] at hx290_5)
    have HR290_5 := Aside0.mk hi290_5
    have HC290_5 := Aside0.mk hl290_5
    clear hi290_5 hl290_5
    replace p290 := eq_true p290
    replace q290 := eq_true q290
    have p291 : 0 ≤ (1 : Int) := (by omega)
    have q291 : 1 < (t257.length : Int) := of_decide_eq_true (by first | (with_reducible assumption) | assumption)
    obtain ⟨ad291, A291_5, c291_5, e291, hx291_0, hx291_1, hx291_2, hx291_3, hx291_4, hx291_5, hl291_5, hi291_5⟩ := at_T67 (Kd.S_reads' HO_14.out).2.2 1 p291 q291
    obtain rfl : ad289 = ad291 := (by injection e291)
    obtain ⟨ce291, hce291, hMe291, hcc291⟩ := Kd.S_get HO_14.out z67 1 p291 (by first | exact q291 | exact of_decide_eq_true (by first | (with_reducible assumption) | assumption) | (have e_ := (Kd.S_reads' HO_14.out).1; omega))
    obtain ⟨ve291_5, rfl, ge291_5⟩ := k67_openM hMe291
    have hv291_5 := hcc291 5 _ rfl
    rw [add_field _ _ 5 (by omega)] at hv291_5
    replace hv291_5 := Option.some.inj (hv291_5.symm.trans hx291_5)
    rw [hv291_5] at ge291_5
    have HL291_5 := Aside0.mk (show Kd.R (Kd.int .i64) 3 _ _ _ _ ((rd_T67 t257 1).f2) from ge291_5)
    clear hv291_5 ge291_5
    clear hcc291 hce291
    (try simp only [show (1 : Int).toNat = 1 from rfl, Nat.reduceMul, Nat.reduceEqDiff, Go.Addr.add, ↓reduceIte] at hx291_0)
    (try simp only [show (1 : Int).toNat = 1 from rfl, Nat.reduceMul, Nat.reduceEqDiff, Go.Addr.add, ↓reduceIte] at hx291_1)
    (try simp only [show (1 : Int).toNat = 1 from rfl, Nat.reduceMul, Nat.reduceEqDiff, Go.Addr.add, ↓reduceIte] at hx291_2)
    (try simp only [show (1 : Int).toNat = 1 from rfl, Nat.reduceMul, Nat.reduceEqDiff, Go.Addr.add, ↓reduceIte] at hx291_3)
    (try simp only [show (1 : Int).toNat = 1 from rfl, Nat.reduceMul, Nat.reduceEqDiff, Go.Addr.add, ↓reduceIte] at hx291_4)
    (try simp only [show (1 : Int).toNat = 1 from rfl, Nat.reduceMul, Nat.reduceEqDiff, Go.Addr.add, ↓reduceIte] at hx291_5)
    have qi291 : (1 < t257.length) = True := eq_true (by omega)
    (try rw [show ((1 : Int)).toNat = 1 from rfl] at hx291_0)
    (try rw [show 1 * 6 = 6 from rfl] at hx291_0)
    (try rw [show ((1 : Int)).toNat = 1 from rfl] at hx291_1)
    (try rw [show 1 * 6 = 6 from rfl] at hx291_1)
    (try rw [show ((1 : Int)).toNat = 1 from rfl] at hx291_2)
    (try rw [show 1 * 6 = 6 from rfl] at hx291_2)
    (try rw [show ((1 : Int)).toNat = 1 from rfl] at hx291_3)
    (try rw [show 1 * 6 = 6 from rfl] at hx291_3)
    (try rw [show ((1 : Int)).toNat = 1 from rfl] at hx291_4)
    (try rw [show 1 * 6 = 6 from rfl] at hx291_4)
    (try rw [show ((1 : Int)).toNat = 1 from rfl] at hx291_5)
    (try rw [show 1 * 6 = 6 from rfl] at hx291_5)
    have HR291_5 := Aside0.mk hi291_5
    have HC291_5 := Aside0.mk hl291_5
    clear hi291_5 hl291_5
    replace p291 := eq_true p291
    replace q291 := eq_true q291
    have ea_ := Option.some.inj (hx290_5.symm.trans hx291_5)
    injection ea_ with ea_ en_ ec_
    subst ea_
    subst ec_
    clear en_
    refine start_ (n := 107) (S := fun w' => w'.cell? ⟨gb278, 0, none⟩ = some (.int .i64 t272) ∧ w'.cell? ⟨gb278, 1, none⟩ = some (.int .i64 t273) ∧ w'.cell? ⟨gb278, 2, none⟩ = some (.int .i64 t274) ∧ w'.cell? ⟨gb278, 3, none⟩ = some (.int .i64 t275) ∧ w'.cell? ⟨gb278, 4, none⟩ = some (.int .i64 t276) ∧ w'.cell? ⟨gb278, 5, none⟩ = some (.int .i64 t277) ∧ w'.cell? ⟨gb222, 0, none⟩ = some (.int .i64 8) ∧ w'.cell? ⟨gb222, 1, none⟩ = some (.int .i64 4) ∧ w'.cell? ⟨gb222, 2, none⟩ = some (.int .i64 2) ∧ w'.cell? ad279 = some (.int .i64 ((rd_T63 y219 0).f0)) ∧ w'.cell? ⟨ad279.block, ad279.off + 1, none⟩ = some (.int .i64 ((rd_T63 y219 0).f1)) ∧ w'.cell? ⟨ad279.block, ad279.off + 2, none⟩ = some (.int .i64 ((rd_T63 y219 0).f2)) ∧ w'.cell? ⟨ad279.block, ad279.off + 6, none⟩ = some (.int .i64 ((rd_T63 y219 2).f0)) ∧ w'.cell? ⟨ad279.block, ad279.off + 6 + 1, none⟩ = some (.int .i64 ((rd_T63 y219 2).f1)) ∧ w'.cell? ⟨ad279.block, ad279.off + 6 + 2, none⟩ = some (.int .i64 ((rd_T63 y219 2).f2)) ∧ w'.cell? ad285 = some (.int .i64 ((rd_T67 t226 0).f0.f0.f0)) ∧ w'.cell? ⟨ad285.block, ad285.off + 1, none⟩ = some (.int .i64 ((rd_T67 t226 0).f0.f0.f1)) ∧ w'.cell? ⟨ad285.block, ad285.off + 2, none⟩ = some (.int .i64 ((rd_T67 t226 0).f0.f0.f2)) ∧ w'.cell? ⟨ad285.block, ad285.off + 3, none⟩ = some (.int .i64 ((rd_T67 t226 0).f0.f1)) ∧ w'.cell? ⟨ad285.block, ad285.off + 4, none⟩ = some (.int .i64 ((rd_T67 t226 0).f1)) ∧ w'.cell? ⟨ad285.block, ad285.off + 5, none⟩ = some (.slice A285_5 ((rd_T67 t226 0).f2).length c285_5) ∧ w'.cell? ad285 = some (.int .i64 ((rd_T67 t226 0).f0.f0.f0)) ∧ w'.cell? ⟨ad285.block, ad285.off + 1, none⟩ = some (.int .i64 ((rd_T67 t226 0).f0.f0.f1)) ∧ w'.cell? ⟨ad285.block, ad285.off + 2, none⟩ = some (.int .i64 ((rd_T67 t226 0).f0.f0.f2)) ∧ w'.cell? ⟨ad285.block, ad285.off + 3, none⟩ = some (.int .i64 ((rd_T67 t226 0).f0.f1)) ∧ w'.cell? ⟨ad285.block, ad285.off + 4, none⟩ = some (.int .i64 ((rd_T67 t226 0).f1)) ∧ w'.cell? ⟨ad285.block, ad285.off + 5, none⟩ = some (.slice A285_5 ((rd_T67 t226 0).f2).length c285_5) ∧ w'.cell? ⟨ad285.block, ad285.off + 6, none⟩ = some (.int .i64 ((rd_T67 t226 1).f0.f0.f0)) ∧ w'.cell? ⟨ad285.block, ad285.off + 6 + 1, none⟩ = some (.int .i64 ((rd_T67 t226 1).f0.f0.f1)) ∧ w'.cell? ⟨ad285.block, ad285.off + 6 + 2, none⟩ = some (.int .i64 ((rd_T67 t226 1).f0.f0.f2)) ∧ w'.cell? ⟨ad285.block, ad285.off + 6 + 3, none⟩ = some (.int .i64 ((rd_T67 t226 1).f0.f1)) ∧ w'.cell? ⟨ad285.block, ad285.off + 6 + 4, none⟩ = some (.int .i64 ((rd_T67 t226 1).f1)) ∧ w'.cell? ⟨ad285.block, ad285.off + 6 + 5, none⟩ = some (.slice A287_5 ((rd_T67 t226 1).f2).length c287_5) ∧ w'.cell? ad289 = some (.int .i64 ((rd_T67 t257 0).f0.f0.f0)) ∧ w'.cell? ⟨ad289.block, ad289.off + 1, none⟩ = some (.int .i64 ((rd_T67 t257 0).f0.f0.f1)) ∧ w'.cell? ⟨ad289.block, ad289.off + 2, none⟩ = some (.int .i64 ((rd_T67 t257 0).f0.f0.f2)) ∧ w'.cell? ⟨ad289.block, ad289.off + 3, none⟩ = some (.int .i64 ((rd_T67 t257 0).f0.f1)) ∧ w'.cell? ⟨ad289.block, ad289.off + 4, none⟩ = some (.int .i64 ((rd_T67 t257 0).f1)) ∧ w'.cell? ⟨ad289.block, ad289.off + 5, none⟩ = some (.slice A289_5 ((rd_T67 t257 0).f2).length c289_5) ∧ w'.cell? ⟨ad289.block, ad289.off + 6, none⟩ = some (.int .i64 ((rd_T67 t257 1).f0.f0.f0)) ∧ w'.cell? ⟨ad289.block, ad289.off + 6 + 1, none⟩ = some (.int .i64 ((rd_T67 t257 1).f0.f0.f1)) ∧ w'.cell? ⟨ad289.block, ad289.off + 6 + 2, none⟩ = some (.int .i64 ((rd_T67 t257 1).f0.f0.f2)) ∧ w'.cell? ⟨ad289.block, ad289.off + 6 + 3, none⟩ = some (.int .i64 ((rd_T67 t257 1).f0.f1)) ∧ w'.cell? ⟨ad289.block, ad289.off + 6 + 4, none⟩ = some (.int .i64 ((rd_T67 t257 1).f1)) ∧ w'.cell? ⟨ad289.block, ad289.off + 6 + 5, none⟩ = some (.slice A290_5 ((rd_T67 t257 1).f2).length c290_5) ∧ w'.cell? ⟨ad289.block, ad289.off + 6, none⟩ = some (.int .i64 ((rd_T67 t257 1).f0.f0.f0)) ∧ w'.cell? ⟨ad289.block, ad289.off + 6 + 1, none⟩ = some (.int .i64 ((rd_T67 t257 1).f0.f0.f1)) ∧ w'.cell? ⟨ad289.block, ad289.off + 6 + 2, none⟩ = some (.int .i64 ((rd_T67 t257 1).f0.f0.f2)) ∧ w'.cell? ⟨ad289.block, ad289.off + 6 + 3, none⟩ = some (.int .i64 ((rd_T67 t257 1).f0.f1)) ∧ w'.cell? ⟨ad289.block, ad289.off + 6 + 4, none⟩ = some (.int .i64 ((rd_T67 t257 1).f1)) ∧ w'.cell? ⟨ad289.block, ad289.off + 6 + 5, none⟩ = some (.slice A290_5 ((rd_T67 t257 1).f2).length c290_5)) (ds := []) #[O,O,O,O,O,O,O,O,O,O,O,O,O,O,O,O,O,O,O,O,O,O,O,O,O,O,O,O,O,O,O,O,O,O,O,O,O,O,O,O,O,O,O,O,O,O,O,O,O,O,O,O,O,O,O,O,O,O,O,O,O,O,O,O,O,O,O,O,O,O,O,O,O,O,O,O,O,O,O,O,O,O,O,O,O,O,O,O,O,O,O,O,O,O,O,O,O,O,O,O,O,O,O,O,O,O,O] (by kernel_rfl) rfl rfl ⟨(blk_cell BK278.out 0).trans rfl, (blk_cell BK278.out 1).trans rfl, (blk_cell BK278.out 2).trans rfl, (blk_cell BK278.out 3).trans rfl, (blk_cell BK278.out 4).trans rfl, (blk_cell BK278.out 5).trans rfl, (blk_cell BK222.out 0).trans rfl, (blk_cell BK222.out 1).trans rfl, (blk_cell BK222.out 2).trans rfl, hx279_0, hx279_1, hx279_2, hx280_0, hx280_1, hx280_2, hx285_0, hx285_1, hx285_2, hx285_3, hx285_4, hx285_5, hx286_0, hx286_1, hx286_2, hx286_3, hx286_4, hx286_5, hx287_0, hx287_1, hx287_2, hx287_3, hx287_4, hx287_5, hx289_0, hx289_1, hx289_2, hx289_3, hx289_4, hx289_5, hx290_0, hx290_1, hx290_2, hx290_3, hx290_4, hx290_5, hx291_0, hx291_1, hx291_2, hx291_3, hx291_4, hx291_5⟩ (fun hHeld => ?_); refine with_tabW ambidexterlaw23_head.tab14 ambidexterlaw23_head.bits14 (fun HT_ HW_ => ?_)
    generalize w83.drew = w84 at HO_1 HO_3 HO_4 HO_8 HO_14 BK222 BK278 HB HL285_5 HL286_5 HL287_5 HL289_5 HL290_5 HL291_5 HR285_5 HR286_5 HR287_5 HR289_5 HR290_5 HR291_5 hx279_0 hx279_1 hx279_2 hx280_0 hx280_1 hx280_2 hx285_0 hx285_1 hx285_2 hx285_3 hx285_4 hx285_5 hx286_0 hx286_1 hx286_2 hx286_3 hx286_4 hx286_5 hx287_0 hx287_1 hx287_2 hx287_3 hx287_4 hx287_5 hx289_0 hx289_1 hx289_2 hx289_3 hx289_4 hx289_5 hx290_0 hx290_1 hx290_2 hx290_3 hx290_4 hx290_5 hx291_0 hx291_1 hx291_2 hx291_3 hx291_4 hx291_5 hHeld ⊢
    refine pq_ (i := 0) (N := some 93) (m_ 107 1) HT_ ?_
    refine pq_ (i := 1) (N := some 94) (m_ 107 3) HT_ ?_
    refine pq_ (i := 2) (N := some 95) (m_ 107 7) HT_ ?_
    refine pq_ (i := 5) (N := some 98) (m_ 107 39) HT_ ?_
    refine pq_ (i := 6) (N := some 99) (m_ 107 103) HT_ ?_
    refine take_ (i := 3) (N := some 96) (v := ?_) (a' := ?_) (m_ 107 111) rfl rfl (take_ofW HT_.out HW_.out (by kernel_rfl)) (fun _ _ _ h => h) (Or.inl ⟨by rfl, ?_⟩) hHeld ?_ ?_
    rotate_left
    ·
     rintro w' ⟨s0, s1, s2, s3, s4, s5, s6, s7, s8, s9, s10, s11, s12, s13, s14, s15, s16, s17, s18, s19, s20, s21, s22, s23, s24, s25, s26, s27, s28, s29, s30, s31, s32, s33, s34, s35, s36, s37, s38, s39, s40, s41, s42, s43, s44, s45, s46, s47, s48, s49, s50⟩
     go_simp
     with_reducible rfl
    rotate_left; · (simp only [Act.put, List.setIfInBounds_toArray, List.set_cons_zero, List.set_cons_succ, i64_w, i32_w]; rfl)
    refine pq_ (i := 4) (N := some 97) (m_ 107 127) HT_ ?_
    refine take_ (i := 7) (N := some 100) (v := ?_) (a' := ?_) (m_ 107 255) rfl rfl (take_ofW HT_.out HW_.out (by kernel_rfl)) (fun _ _ _ h => h) (Or.inl ⟨by rfl, ?_⟩) hHeld ?_ ?_
    rotate_left
    ·
     rintro w' ⟨s0, s1, s2, s3, s4, s5, s6, s7, s8, s9, s10, s11, s12, s13, s14, s15, s16, s17, s18, s19, s20, s21, s22, s23, s24, s25, s26, s27, s28, s29, s30, s31, s32, s33, s34, s35, s36, s37, s38, s39, s40, s41, s42, s43, s44, s45, s46, s47, s48, s49, s50⟩
     go_simp
     with_reducible rfl
    rotate_left; · (simp only [Act.put, List.setIfInBounds_toArray, List.set_cons_zero, List.set_cons_succ, i64_w, i32_w]; rfl)
    refine pq_ (i := 8) (N := some 101) (m_ 107 511) HT_ ?_
    refine one_ (i := 9) (N := some 102) (m_ 107 1023) rfl rfl (one_of HT_.out (by kernel_rfl)) (by decide) (fun K hK => ?_)
    refine Kd.R_lit_step k65 _ 65 ?hg (N := 102) ?hd (xs := ([(⟨(⟨(rd_T63 y219 0).f0, (rd_T63 y219 0).f1, (rd_T63 y219 0).f2⟩ : S63), 2⟩ : S65), (⟨(⟨(rd_T63 y219 2).f0, (rd_T63 y219 2).f1, (rd_T63 y219 2).f2⟩ : S63), 1⟩ : S65)] : List (S65))) (inner := [.int .i64 ((rd_T63 y219 0).f0), .int .i64 ((rd_T63 y219 0).f1), .int .i64 ((rd_T63 y219 0).f2), .int .i64 2, .int .i64 ((rd_T63 y219 2).f0), .int .i64 ((rd_T63 y219 2).f1), .int .i64 ((rd_T63 y219 2).f2), .int .i64 1]) (ok := fun _ => True) (okp := fun _ => True) ?hr ?hp (fun _ hk => hk) trivial (Below.refl _ _) (Nat.le_refl _) (by simp) ?_; (case hd => rfl); (case hg => rfl); (case hr => first | (go_simp; done) | (go_simp; rfl)); (case hp => exact (Reps.c4 (show Kd.M k65 _ _ _ (⟨(⟨(rd_T63 y219 0).f0, (rd_T63 y219 0).f1, (rd_T63 y219 0).f2⟩ : S63), 2⟩ : S65) [.int .i64 ((rd_T63 y219 0).f0), .int .i64 ((rd_T63 y219 0).f1), .int .i64 ((rd_T63 y219 0).f2), .int .i64 2] from (k65_mkM _ _ _ (⟨(⟨(rd_T63 y219 0).f0, (rd_T63 y219 0).f1, (rd_T63 y219 0).f2⟩ : S63), 2⟩ : S65) )) (Reps.c4 (show Kd.M k65 _ _ _ (⟨(⟨(rd_T63 y219 2).f0, (rd_T63 y219 2).f1, (rd_T63 y219 2).f2⟩ : S63), 1⟩ : S65) [.int .i64 ((rd_T63 y219 2).f0), .int .i64 ((rd_T63 y219 2).f1), .int .i64 ((rd_T63 y219 2).f2), .int .i64 1] from (k65_mkM _ _ _ (⟨(⟨(rd_T63 y219 2).f0, (rd_T63 y219 2).f1, (rd_T63 y219 2).f2⟩ : S63), 1⟩ : S65) )) (Reps.none _ _))))
    intro v282 w85 ho86 hb hg_ hnew_
    have HS9_ := hsb_ hb hHeld.2.2.2.2.2.2.2.2.2.1
    have HS10_ := hsb_ hb hHeld.2.2.2.2.2.2.2.2.2.2.1
    have HS11_ := hsb_ hb hHeld.2.2.2.2.2.2.2.2.2.2.2.1
    have HS12_ := hsb_ hb hHeld.2.2.2.2.2.2.2.2.2.2.2.2.1
    have HS13_ := hsb_ hb hHeld.2.2.2.2.2.2.2.2.2.2.2.2.2.1
    have HS14_ := hsb_ hb hHeld.2.2.2.2.2.2.2.2.2.2.2.2.2.2.1
    have HS15_ := hsb_ hb hHeld.2.2.2.2.2.2.2.2.2.2.2.2.2.2.2.1
    have HS16_ := hsb_ hb hHeld.2.2.2.2.2.2.2.2.2.2.2.2.2.2.2.2.1
    have HS17_ := hsb_ hb hHeld.2.2.2.2.2.2.2.2.2.2.2.2.2.2.2.2.2.1
    have HS18_ := hsb_ hb hHeld.2.2.2.2.2.2.2.2.2.2.2.2.2.2.2.2.2.2.1
    have HS19_ := hsb_ hb hHeld.2.2.2.2.2.2.2.2.2.2.2.2.2.2.2.2.2.2.2.1
    have HS20_ := hsb_ hb hHeld.2.2.2.2.2.2.2.2.2.2.2.2.2.2.2.2.2.2.2.2.1
    have HS21_ := hsb_ hb hHeld.2.2.2.2.2.2.2.2.2.2.2.2.2.2.2.2.2.2.2.2.2.1
    have HS22_ := hsb_ hb hHeld.2.2.2.2.2.2.2.2.2.2.2.2.2.2.2.2.2.2.2.2.2.2.1
    have HS23_ := hsb_ hb hHeld.2.2.2.2.2.2.2.2.2.2.2.2.2.2.2.2.2.2.2.2.2.2.2.1
    have HS24_ := hsb_ hb hHeld.2.2.2.2.2.2.2.2.2.2.2.2.2.2.2.2.2.2.2.2.2.2.2.2.1
    have HS25_ := hsb_ hb hHeld.2.2.2.2.2.2.2.2.2.2.2.2.2.2.2.2.2.2.2.2.2.2.2.2.2.1
    have HS26_ := hsb_ hb hHeld.2.2.2.2.2.2.2.2.2.2.2.2.2.2.2.2.2.2.2.2.2.2.2.2.2.2.1
    have HS27_ := hsb_ hb hHeld.2.2.2.2.2.2.2.2.2.2.2.2.2.2.2.2.2.2.2.2.2.2.2.2.2.2.2.1
    have HS28_ := hsb_ hb hHeld.2.2.2.2.2.2.2.2.2.2.2.2.2.2.2.2.2.2.2.2.2.2.2.2.2.2.2.2.1
    have HS29_ := hsb_ hb hHeld.2.2.2.2.2.2.2.2.2.2.2.2.2.2.2.2.2.2.2.2.2.2.2.2.2.2.2.2.2.1
    have HS30_ := hsb_ hb hHeld.2.2.2.2.2.2.2.2.2.2.2.2.2.2.2.2.2.2.2.2.2.2.2.2.2.2.2.2.2.2.1
    have HS31_ := hsb_ hb hHeld.2.2.2.2.2.2.2.2.2.2.2.2.2.2.2.2.2.2.2.2.2.2.2.2.2.2.2.2.2.2.2.1
    have HS32_ := hsb_ hb hHeld.2.2.2.2.2.2.2.2.2.2.2.2.2.2.2.2.2.2.2.2.2.2.2.2.2.2.2.2.2.2.2.2.1
    have HS33_ := hsb_ hb hHeld.2.2.2.2.2.2.2.2.2.2.2.2.2.2.2.2.2.2.2.2.2.2.2.2.2.2.2.2.2.2.2.2.2.1
    have HS34_ := hsb_ hb hHeld.2.2.2.2.2.2.2.2.2.2.2.2.2.2.2.2.2.2.2.2.2.2.2.2.2.2.2.2.2.2.2.2.2.2.1
    have HS35_ := hsb_ hb hHeld.2.2.2.2.2.2.2.2.2.2.2.2.2.2.2.2.2.2.2.2.2.2.2.2.2.2.2.2.2.2.2.2.2.2.2.1
    have HS36_ := hsb_ hb hHeld.2.2.2.2.2.2.2.2.2.2.2.2.2.2.2.2.2.2.2.2.2.2.2.2.2.2.2.2.2.2.2.2.2.2.2.2.1
    have HS37_ := hsb_ hb hHeld.2.2.2.2.2.2.2.2.2.2.2.2.2.2.2.2.2.2.2.2.2.2.2.2.2.2.2.2.2.2.2.2.2.2.2.2.2.1
    have HS38_ := hsb_ hb hHeld.2.2.2.2.2.2.2.2.2.2.2.2.2.2.2.2.2.2.2.2.2.2.2.2.2.2.2.2.2.2.2.2.2.2.2.2.2.2.1
    have HS39_ := hsb_ hb hHeld.2.2.2.2.2.2.2.2.2.2.2.2.2.2.2.2.2.2.2.2.2.2.2.2.2.2.2.2.2.2.2.2.2.2.2.2.2.2.2.1
    have HS40_ := hsb_ hb hHeld.2.2.2.2.2.2.2.2.2.2.2.2.2.2.2.2.2.2.2.2.2.2.2.2.2.2.2.2.2.2.2.2.2.2.2.2.2.2.2.2.1
    have HS41_ := hsb_ hb hHeld.2.2.2.2.2.2.2.2.2.2.2.2.2.2.2.2.2.2.2.2.2.2.2.2.2.2.2.2.2.2.2.2.2.2.2.2.2.2.2.2.2.1
    have HS42_ := hsb_ hb hHeld.2.2.2.2.2.2.2.2.2.2.2.2.2.2.2.2.2.2.2.2.2.2.2.2.2.2.2.2.2.2.2.2.2.2.2.2.2.2.2.2.2.2.1
    have HS43_ := hsb_ hb hHeld.2.2.2.2.2.2.2.2.2.2.2.2.2.2.2.2.2.2.2.2.2.2.2.2.2.2.2.2.2.2.2.2.2.2.2.2.2.2.2.2.2.2.2.1
    have HS44_ := hsb_ hb hHeld.2.2.2.2.2.2.2.2.2.2.2.2.2.2.2.2.2.2.2.2.2.2.2.2.2.2.2.2.2.2.2.2.2.2.2.2.2.2.2.2.2.2.2.2.1
    have HS45_ := hsb_ hb hHeld.2.2.2.2.2.2.2.2.2.2.2.2.2.2.2.2.2.2.2.2.2.2.2.2.2.2.2.2.2.2.2.2.2.2.2.2.2.2.2.2.2.2.2.2.2.1
    have HS46_ := hsb_ hb hHeld.2.2.2.2.2.2.2.2.2.2.2.2.2.2.2.2.2.2.2.2.2.2.2.2.2.2.2.2.2.2.2.2.2.2.2.2.2.2.2.2.2.2.2.2.2.2.1
    have HS47_ := hsb_ hb hHeld.2.2.2.2.2.2.2.2.2.2.2.2.2.2.2.2.2.2.2.2.2.2.2.2.2.2.2.2.2.2.2.2.2.2.2.2.2.2.2.2.2.2.2.2.2.2.2.1
    have HS48_ := hsb_ hb hHeld.2.2.2.2.2.2.2.2.2.2.2.2.2.2.2.2.2.2.2.2.2.2.2.2.2.2.2.2.2.2.2.2.2.2.2.2.2.2.2.2.2.2.2.2.2.2.2.2.1
    have HS49_ := hsb_ hb hHeld.2.2.2.2.2.2.2.2.2.2.2.2.2.2.2.2.2.2.2.2.2.2.2.2.2.2.2.2.2.2.2.2.2.2.2.2.2.2.2.2.2.2.2.2.2.2.2.2.2.1
    have HS50_ := hsb_ hb hHeld.2.2.2.2.2.2.2.2.2.2.2.2.2.2.2.2.2.2.2.2.2.2.2.2.2.2.2.2.2.2.2.2.2.2.2.2.2.2.2.2.2.2.2.2.2.2.2.2.2.2
    clear hg_ hnew_
    (first | rw [← Ny281.out] at ho86 | (simp only [Int.reduceToNat] at ho86; rw [← Ny281.out] at ho86))
    have n0_ := Aside0.mk (Kd.R_below (by (with_reducible repeat (first | apply Kd.R_alloc | apply Kd.R_drewN | apply Kd.R_drew)); exact HO_1.out) hb)
    have n1_ := Aside0.mk (Kd.R_elder' (by (with_reducible repeat (first | apply Kd.R_alloc | apply Kd.R_drewN | apply Kd.R_drew)); exact HO_3.out) (Kd.R_base ho86) hb)
    have n2_ := Aside0.mk (Kd.S_below (by (with_reducible repeat (first | apply Kd.S_alloc | apply Kd.S_drewN | apply Kd.S_drew)); exact HO_4.out) hb)
    have n3_ := Aside0.mk (Kd.S_below (by (with_reducible repeat (first | apply Kd.S_alloc | apply Kd.S_drewN | apply Kd.S_drew)); exact HO_8.out) hb)
    have n4_ := Aside0.mk (Kd.S_below (by (with_reducible repeat (first | apply Kd.S_alloc | apply Kd.S_drewN | apply Kd.S_drew)); exact HO_14.out) hb)
    have n5_ := Aside0.mk (Kd.R_lower (Kd.R_new' ho86 (Kd.R_lt (by (with_reducible repeat (first | apply Kd.R_alloc | apply Kd.R_drewN | apply Kd.R_drew)); exact HO_3.out))) (below_size (by repeat (first | (with_reducible first | exact HB.out | apply below_alloc | apply pw_below_drewN | apply below_drew1 | refine below_set ?_ GE222.out | refine below_set ?_ GE278.out) | exact HB.out))))
    have n6_ := Aside0.mk (blk_below (g := gb222) (o := .cells #[.int .i64 8, .int .i64 4, .int .i64 2] 25 (0, 0)) (by (with_reducible repeat (first | refine blk_drewN ?_ _ | refine blk_drew ?_ | refine blk_alloc ?_ _)); exact BK222.out) hb)
    have n7_ := Aside0.mk (blk_below (g := gb278) (o := .cells #[.int .i64 t272, .int .i64 t273, .int .i64 t274, .int .i64 t275, .int .i64 t276, .int .i64 t277] 69 (0, 0)) (by (with_reducible repeat (first | refine blk_drewN ?_ _ | refine blk_drew ?_ | refine blk_alloc ?_ _)); exact BK278.out) hb)
    have n8_ := Aside0.mk (below_step (by repeat (first | (with_reducible first | exact HB.out | apply below_alloc | apply pw_below_drewN | apply below_drew1 | refine below_set ?_ GE222.out | refine below_set ?_ GE278.out) | exact HB.out)) hb)
    clear HO_1
    clear HO_3
    clear HO_4
    clear HO_8
    clear HO_14
    clear BK222
    clear BK278
    clear HB
    have HO_1 := n0_
    have HO_3 := n1_
    have HO_4 := n2_
    have HO_8 := n3_
    have HO_14 := n4_
    have HO283 := n5_
    have BK222 := n6_
    have BK278 := n7_
    have HB := n8_
    clear n0_ n1_ n2_ n3_ n4_ n5_ n6_ n7_ n8_
    clear hb ho86
    obtain ⟨Ao87, co87, eo87⟩ := Kd.R_slice HO_3.out
    (first | subst eo87 | (injection eo87 with f1_ f2_ f3_; have f4_ := f1_.symm; have f5_ := f3_.symm; clear f1_ f2_ f3_; subst f4_; subst f5_))
    obtain ⟨Ao88, co88, eo88⟩ := Kd.R_slice HO283.out
    (first | subst eo88 | (injection eo88 with f1_ f2_ f3_; have f4_ := f1_.symm; have f5_ := f3_.symm; clear f1_ f2_ f3_; subst f4_; subst f5_))
    refine hK.out _ _ ⟨(blk_cell BK278.out 0).trans rfl, (blk_cell BK278.out 1).trans rfl, (blk_cell BK278.out 2).trans rfl, (blk_cell BK278.out 3).trans rfl, (blk_cell BK278.out 4).trans rfl, (blk_cell BK278.out 5).trans rfl, (blk_cell BK222.out 0).trans rfl, (blk_cell BK222.out 1).trans rfl, (blk_cell BK222.out 2).trans rfl, HS9_, HS10_, HS11_, HS12_, HS13_, HS14_, HS15_, HS16_, HS17_, HS18_, HS19_, HS20_, HS21_, HS22_, HS23_, HS24_, HS25_, HS26_, HS27_, HS28_, HS29_, HS30_, HS31_, HS32_, HS33_, HS34_, HS35_, HS36_, HS37_, HS38_, HS39_, HS40_, HS41_, HS42_, HS43_, HS44_, HS45_, HS46_, HS47_, HS48_, HS49_, HS50_⟩ (fun hHeld => ?_)
    clear hK K
    refine norm_ (a' := ?_) ?_ ?_
    rotate_left
    ·
     show Act.put _ (some 102) _ = _
     simp only [Act.put, List.setIfInBounds_toArray, List.set_cons_zero, List.set_cons_succ, i64_w, i32_w]
     rfl
    refine one_ (i := 10) (N := some 103) (m_ 107 2047) rfl rfl (one_of HT_.out (by kernel_rfl)) (by decide) (fun K hK => ?_)
    refine goes_ Try.func36 (by kernel_rfl) rfl #[.slice Ao87 t223.length co87, .slice Ao88 y281.length co88] (by rfl) rfl rfl (by (try simp only [List.map_toArray, List.map_cons, List.map_nil]); first | done | rfl | (simp only [List.length_drop, List.length_take]; rfl)) ?_
    with_reducible refine (ambidexterref23_SameRuns.calls kj10 _ _ t223 _ _ y281 true _ ?side1 ?side2 ?side3 ?side4 A54.out).mono ?_
    (case side1 => repeat (first | exact (Kd.R_reads' HO_3.out).2.2 | (with_reducible refine Kd.C_alloc ?_ _) | (with_reducible refine Kd.C_drewN ?_ _) | (with_reducible refine Kd.C_drew ?_)))
    (case side2 => exact (Kd.R_reads' HO_3.out).2.1)
    (case side3 => repeat (first | exact (Kd.R_reads' HO283.out).2.2 | (with_reducible refine Kd.C_alloc ?_ _) | (with_reducible refine Kd.C_drewN ?_ _) | (with_reducible refine Kd.C_drew ?_)))
    (case side4 => exact (Kd.R_reads' HO283.out).2.1)
    rintro e w' ⟨rfl, ⟨nd, rfl⟩⟩
    refine ⟨_, rfl, ?_⟩
    obtain ⟨Ao89, co89, eo89⟩ := Kd.S_slice HO_8.out
    (first | subst eo89 | (injection eo89 with f1_ f2_ f3_; have f4_ := f1_.symm; have f5_ := f3_.symm; clear f1_ f2_ f3_; subst f4_; subst f5_))
    refine hK.out _ _ ⟨(blk_cell BK278.out 0).trans rfl, (blk_cell BK278.out 1).trans rfl, (blk_cell BK278.out 2).trans rfl, (blk_cell BK278.out 3).trans rfl, (blk_cell BK278.out 4).trans rfl, (blk_cell BK278.out 5).trans rfl, (blk_cell BK222.out 0).trans rfl, (blk_cell BK222.out 1).trans rfl, (blk_cell BK222.out 2).trans rfl, hHeld.2.2.2.2.2.2.2.2.2.1, hHeld.2.2.2.2.2.2.2.2.2.2.1, hHeld.2.2.2.2.2.2.2.2.2.2.2.1, hHeld.2.2.2.2.2.2.2.2.2.2.2.2.1, hHeld.2.2.2.2.2.2.2.2.2.2.2.2.2.1, hHeld.2.2.2.2.2.2.2.2.2.2.2.2.2.2.1, hHeld.2.2.2.2.2.2.2.2.2.2.2.2.2.2.2.1, hHeld.2.2.2.2.2.2.2.2.2.2.2.2.2.2.2.2.1, hHeld.2.2.2.2.2.2.2.2.2.2.2.2.2.2.2.2.2.1, hHeld.2.2.2.2.2.2.2.2.2.2.2.2.2.2.2.2.2.2.1, hHeld.2.2.2.2.2.2.2.2.2.2.2.2.2.2.2.2.2.2.2.1, hHeld.2.2.2.2.2.2.2.2.2.2.2.2.2.2.2.2.2.2.2.2.1, hHeld.2.2.2.2.2.2.2.2.2.2.2.2.2.2.2.2.2.2.2.2.2.1, hHeld.2.2.2.2.2.2.2.2.2.2.2.2.2.2.2.2.2.2.2.2.2.2.1, hHeld.2.2.2.2.2.2.2.2.2.2.2.2.2.2.2.2.2.2.2.2.2.2.2.1, hHeld.2.2.2.2.2.2.2.2.2.2.2.2.2.2.2.2.2.2.2.2.2.2.2.2.1, hHeld.2.2.2.2.2.2.2.2.2.2.2.2.2.2.2.2.2.2.2.2.2.2.2.2.2.1, hHeld.2.2.2.2.2.2.2.2.2.2.2.2.2.2.2.2.2.2.2.2.2.2.2.2.2.2.1, hHeld.2.2.2.2.2.2.2.2.2.2.2.2.2.2.2.2.2.2.2.2.2.2.2.2.2.2.2.1, hHeld.2.2.2.2.2.2.2.2.2.2.2.2.2.2.2.2.2.2.2.2.2.2.2.2.2.2.2.2.1, hHeld.2.2.2.2.2.2.2.2.2.2.2.2.2.2.2.2.2.2.2.2.2.2.2.2.2.2.2.2.2.1, hHeld.2.2.2.2.2.2.2.2.2.2.2.2.2.2.2.2.2.2.2.2.2.2.2.2.2.2.2.2.2.2.1, hHeld.2.2.2.2.2.2.2.2.2.2.2.2.2.2.2.2.2.2.2.2.2.2.2.2.2.2.2.2.2.2.2.1, hHeld.2.2.2.2.2.2.2.2.2.2.2.2.2.2.2.2.2.2.2.2.2.2.2.2.2.2.2.2.2.2.2.2.1, hHeld.2.2.2.2.2.2.2.2.2.2.2.2.2.2.2.2.2.2.2.2.2.2.2.2.2.2.2.2.2.2.2.2.2.1, hHeld.2.2.2.2.2.2.2.2.2.2.2.2.2.2.2.2.2.2.2.2.2.2.2.2.2.2.2.2.2.2.2.2.2.2.1, hHeld.2.2.2.2.2.2.2.2.2.2.2.2.2.2.2.2.2.2.2.2.2.2.2.2.2.2.2.2.2.2.2.2.2.2.2.1, hHeld.2.2.2.2.2.2.2.2.2.2.2.2.2.2.2.2.2.2.2.2.2.2.2.2.2.2.2.2.2.2.2.2.2.2.2.2.1, hHeld.2.2.2.2.2.2.2.2.2.2.2.2.2.2.2.2.2.2.2.2.2.2.2.2.2.2.2.2.2.2.2.2.2.2.2.2.2.1, hHeld.2.2.2.2.2.2.2.2.2.2.2.2.2.2.2.2.2.2.2.2.2.2.2.2.2.2.2.2.2.2.2.2.2.2.2.2.2.2.1, hHeld.2.2.2.2.2.2.2.2.2.2.2.2.2.2.2.2.2.2.2.2.2.2.2.2.2.2.2.2.2.2.2.2.2.2.2.2.2.2.2.1, hHeld.2.2.2.2.2.2.2.2.2.2.2.2.2.2.2.2.2.2.2.2.2.2.2.2.2.2.2.2.2.2.2.2.2.2.2.2.2.2.2.2.1, hHeld.2.2.2.2.2.2.2.2.2.2.2.2.2.2.2.2.2.2.2.2.2.2.2.2.2.2.2.2.2.2.2.2.2.2.2.2.2.2.2.2.2.1, hHeld.2.2.2.2.2.2.2.2.2.2.2.2.2.2.2.2.2.2.2.2.2.2.2.2.2.2.2.2.2.2.2.2.2.2.2.2.2.2.2.2.2.2.1, hHeld.2.2.2.2.2.2.2.2.2.2.2.2.2.2.2.2.2.2.2.2.2.2.2.2.2.2.2.2.2.2.2.2.2.2.2.2.2.2.2.2.2.2.2.1, hHeld.2.2.2.2.2.2.2.2.2.2.2.2.2.2.2.2.2.2.2.2.2.2.2.2.2.2.2.2.2.2.2.2.2.2.2.2.2.2.2.2.2.2.2.2.1, hHeld.2.2.2.2.2.2.2.2.2.2.2.2.2.2.2.2.2.2.2.2.2.2.2.2.2.2.2.2.2.2.2.2.2.2.2.2.2.2.2.2.2.2.2.2.2.1, hHeld.2.2.2.2.2.2.2.2.2.2.2.2.2.2.2.2.2.2.2.2.2.2.2.2.2.2.2.2.2.2.2.2.2.2.2.2.2.2.2.2.2.2.2.2.2.2.1, hHeld.2.2.2.2.2.2.2.2.2.2.2.2.2.2.2.2.2.2.2.2.2.2.2.2.2.2.2.2.2.2.2.2.2.2.2.2.2.2.2.2.2.2.2.2.2.2.2.1, hHeld.2.2.2.2.2.2.2.2.2.2.2.2.2.2.2.2.2.2.2.2.2.2.2.2.2.2.2.2.2.2.2.2.2.2.2.2.2.2.2.2.2.2.2.2.2.2.2.2.1, hHeld.2.2.2.2.2.2.2.2.2.2.2.2.2.2.2.2.2.2.2.2.2.2.2.2.2.2.2.2.2.2.2.2.2.2.2.2.2.2.2.2.2.2.2.2.2.2.2.2.2.1, hHeld.2.2.2.2.2.2.2.2.2.2.2.2.2.2.2.2.2.2.2.2.2.2.2.2.2.2.2.2.2.2.2.2.2.2.2.2.2.2.2.2.2.2.2.2.2.2.2.2.2.2⟩ (fun hHeld => ?_)
    clear hK K
    refine norm_ (a' := ?_) ?_ ?_
    rotate_left
    ·
     show Act.put _ (some 103) _ = _
     simp only [Act.put, List.setIfInBounds_toArray, List.set_cons_zero, List.set_cons_succ, i64_w, i32_w]
     rfl
    refine pq_ (i := 11) (N := some 104) (m_ 107 4095) HT_ ?_
    refine pq_ (i := 12) (N := some 105) (m_ 107 8191) HT_ ?_
    refine pq_ (i := 13) (N := some 106) (m_ 107 16383) HT_ ?_
    refine pq_ (i := 14) (N := some 107) (m_ 107 32767) HT_ ?_
    refine pq_ (i := 15) (N := some 108) (m_ 107 65535) HT_ ?_
    refine pq_ (i := 16) (N := some 109) (m_ 107 131071) HT_ ?_
    refine pq_ (i := 17) (N := some 110) (m_ 107 262143) HT_ ?_
    refine pq_ (i := 18) (N := some 111) (m_ 107 524287) HT_ ?_
    refine pq_ (i := 19) (N := some 112) (m_ 107 1048575) HT_ ?_
    refine pq_ (i := 20) (N := some 113) (m_ 107 2097151) HT_ ?_
    refine pq_ (i := 21) (N := some 114) (m_ 107 4194303) HT_ ?_
    refine take_ (i := 22) (N := some 115) (v := ?_) (a' := ?_) (m_ 107 8388607) rfl rfl (take_ofW HT_.out HW_.out (by kernel_rfl)) (fun _ _ _ h => h) (Or.inl ⟨by rfl, ?_⟩) hHeld ?_ ?_
    rotate_left
    ·
     rintro w' ⟨s0, s1, s2, s3, s4, s5, s6, s7, s8, s9, s10, s11, s12, s13, s14, s15, s16, s17, s18, s19, s20, s21, s22, s23, s24, s25, s26, s27, s28, s29, s30, s31, s32, s33, s34, s35, s36, s37, s38, s39, s40, s41, s42, s43, s44, s45, s46, s47, s48, s49, s50⟩
     go_simp
     with_reducible rfl
    rotate_left; · (simp only [Act.put, List.setIfInBounds_toArray, List.set_cons_zero, List.set_cons_succ, i64_w, i32_w]; rfl)
    refine pq_ (i := 23) (N := some 116) (m_ 107 16777215) HT_ ?_
    refine pq_ (i := 24) (N := some 117) (m_ 107 33554431) HT_ ?_
    refine pq_ (i := 25) (N := some 118) (m_ 107 67108863) HT_ ?_
    refine pq_ (i := 26) (N := some 119) (m_ 107 134217727) HT_ ?_
    refine pq_ (i := 27) (N := some 120) (m_ 107 268435455) HT_ ?_
    refine pq_ (i := 28) (N := some 121) (m_ 107 536870911) HT_ ?_
    refine pq_ (i := 31) (N := some 124) (m_ 107 2684354559) HT_ ?_
    refine take_ (i := 29) (N := some 122) (v := ?_) (a' := ?_) (m_ 107 3221225471) rfl rfl (take_ofW HT_.out HW_.out (by kernel_rfl)) (fun _ _ _ h => h) (Or.inl ⟨by rfl, ?_⟩) hHeld ?_ ?_
    rotate_left
    ·
     rintro w' ⟨s0, s1, s2, s3, s4, s5, s6, s7, s8, s9, s10, s11, s12, s13, s14, s15, s16, s17, s18, s19, s20, s21, s22, s23, s24, s25, s26, s27, s28, s29, s30, s31, s32, s33, s34, s35, s36, s37, s38, s39, s40, s41, s42, s43, s44, s45, s46, s47, s48, s49, s50⟩
     go_simp
     with_reducible rfl
    rotate_left; · (simp only [Act.put, List.setIfInBounds_toArray, List.set_cons_zero, List.set_cons_succ, i64_w, i32_w]; rfl)
    refine pq_ (i := 30) (N := some 123) (m_ 107 4294967295) HT_ ?_
    refine pq_ (i := 32) (N := some 125) (m_ 107 8589934591) HT_ ?_
    refine pq_ (i := 33) (N := some 126) (m_ 107 17179869183) HT_ ?_
    refine pq_ (i := 34) (N := some 127) (m_ 107 34359738367) HT_ ?_
    refine pq_ (i := 35) (N := some 128) (m_ 107 68719476735) HT_ ?_
    refine pq_ (i := 36) (N := some 129) (m_ 107 137438953471) HT_ ?_
    refine pq_ (i := 37) (N := some 130) (m_ 107 274877906943) HT_ ?_
    refine pq_ (i := 39) (N := some 132) (m_ 107 824633720831) HT_ ?_
    refine take_ (i := 38) (N := some 131) (v := ?_) (a' := ?_) (m_ 107 1099511627775) rfl rfl (take_ofW HT_.out HW_.out (by kernel_rfl)) (fun _ _ _ h => h) (Or.inl ⟨by rfl, ?_⟩) hHeld ?_ ?_
    rotate_left
    ·
     rintro w' ⟨s0, s1, s2, s3, s4, s5, s6, s7, s8, s9, s10, s11, s12, s13, s14, s15, s16, s17, s18, s19, s20, s21, s22, s23, s24, s25, s26, s27, s28, s29, s30, s31, s32, s33, s34, s35, s36, s37, s38, s39, s40, s41, s42, s43, s44, s45, s46, s47, s48, s49, s50⟩
     go_simp
     with_reducible rfl
    rotate_left; · (simp only [Act.put, List.setIfInBounds_toArray, List.set_cons_zero, List.set_cons_succ, i64_w, i32_w]; rfl)
    refine pq_ (i := 40) (N := some 133) (m_ 107 2199023255551) HT_ ?_
    refine pq_ (i := 41) (N := some 134) (m_ 107 4398046511103) HT_ ?_
    refine pq_ (i := 42) (N := some 135) (m_ 107 8796093022207) HT_ ?_
    refine pq_ (i := 43) (N := some 136) (m_ 107 17592186044415) HT_ ?_
    refine pq_ (i := 44) (N := some 137) (m_ 107 35184372088831) HT_ ?_
    refine pq_ (i := 45) (N := some 138) (m_ 107 70368744177663) HT_ ?_
    refine pq_ (i := 46) (N := some 139) (m_ 107 140737488355327) HT_ ?_
    refine pq_ (i := 47) (N := some 140) (m_ 107 281474976710655) HT_ ?_
    refine pq_ (i := 48) (N := some 141) (m_ 107 562949953421311) HT_ ?_
    refine pq_ (i := 49) (N := some 142) (m_ 107 1125899906842623) HT_ ?_
    refine pq_ (i := 50) (N := some 143) (m_ 107 2251799813685247) HT_ ?_
    refine pq_ (i := 51) (N := some 144) (m_ 107 4503599627370495) HT_ ?_
    refine pq_ (i := 52) (N := some 145) (m_ 107 9007199254740991) HT_ ?_
    refine one_ (i := 53) (N := some 146) (m_ 107 18014398509481983) rfl rfl (one_of HT_.out (by kernel_rfl)) (by decide) (fun K hK => ?_)
    refine goes_ Try.func29 (by kernel_rfl) rfl #[.slice Ao89 t232.length co89] (by rfl) rfl rfl (by (try simp only [List.map_toArray, List.map_cons, List.map_nil]); first | done | rfl | (simp only [List.length_drop, List.length_take]; rfl)) ?_
    with_reducible refine (timetable_Duration.calls kj10 _ _ t232 t288 _ ?side1 ?side2 A65.out).mono ?_
    (case side1 => repeat (first | exact (Kd.S_reads' HO_8.out).2.2 | (with_reducible refine Kd.C_alloc ?_ _) | (with_reducible refine Kd.C_drewN ?_ _) | (with_reducible refine Kd.C_drew ?_)))
    (case side2 => exact (Kd.S_reads' HO_8.out).2.1)
    rintro e w90 ⟨rfl, hb⟩
    have HS9_ := hsb_ hb hHeld.2.2.2.2.2.2.2.2.2.1
    have HS10_ := hsb_ hb hHeld.2.2.2.2.2.2.2.2.2.2.1
    have HS11_ := hsb_ hb hHeld.2.2.2.2.2.2.2.2.2.2.2.1
    have HS12_ := hsb_ hb hHeld.2.2.2.2.2.2.2.2.2.2.2.2.1
    have HS13_ := hsb_ hb hHeld.2.2.2.2.2.2.2.2.2.2.2.2.2.1
    have HS14_ := hsb_ hb hHeld.2.2.2.2.2.2.2.2.2.2.2.2.2.2.1
    have HS15_ := hsb_ hb hHeld.2.2.2.2.2.2.2.2.2.2.2.2.2.2.2.1
    have HS16_ := hsb_ hb hHeld.2.2.2.2.2.2.2.2.2.2.2.2.2.2.2.2.1
    have HS17_ := hsb_ hb hHeld.2.2.2.2.2.2.2.2.2.2.2.2.2.2.2.2.2.1
    have HS18_ := hsb_ hb hHeld.2.2.2.2.2.2.2.2.2.2.2.2.2.2.2.2.2.2.1
    have HS19_ := hsb_ hb hHeld.2.2.2.2.2.2.2.2.2.2.2.2.2.2.2.2.2.2.2.1
    have HS20_ := hsb_ hb hHeld.2.2.2.2.2.2.2.2.2.2.2.2.2.2.2.2.2.2.2.2.1
    have HS21_ := hsb_ hb hHeld.2.2.2.2.2.2.2.2.2.2.2.2.2.2.2.2.2.2.2.2.2.1
    have HS22_ := hsb_ hb hHeld.2.2.2.2.2.2.2.2.2.2.2.2.2.2.2.2.2.2.2.2.2.2.1
    have HS23_ := hsb_ hb hHeld.2.2.2.2.2.2.2.2.2.2.2.2.2.2.2.2.2.2.2.2.2.2.2.1
    have HS24_ := hsb_ hb hHeld.2.2.2.2.2.2.2.2.2.2.2.2.2.2.2.2.2.2.2.2.2.2.2.2.1
    have HS25_ := hsb_ hb hHeld.2.2.2.2.2.2.2.2.2.2.2.2.2.2.2.2.2.2.2.2.2.2.2.2.2.1
    have HS26_ := hsb_ hb hHeld.2.2.2.2.2.2.2.2.2.2.2.2.2.2.2.2.2.2.2.2.2.2.2.2.2.2.1
    have HS27_ := hsb_ hb hHeld.2.2.2.2.2.2.2.2.2.2.2.2.2.2.2.2.2.2.2.2.2.2.2.2.2.2.2.1
    have HS28_ := hsb_ hb hHeld.2.2.2.2.2.2.2.2.2.2.2.2.2.2.2.2.2.2.2.2.2.2.2.2.2.2.2.2.1
    have HS29_ := hsb_ hb hHeld.2.2.2.2.2.2.2.2.2.2.2.2.2.2.2.2.2.2.2.2.2.2.2.2.2.2.2.2.2.1
    have HS30_ := hsb_ hb hHeld.2.2.2.2.2.2.2.2.2.2.2.2.2.2.2.2.2.2.2.2.2.2.2.2.2.2.2.2.2.2.1
    have HS31_ := hsb_ hb hHeld.2.2.2.2.2.2.2.2.2.2.2.2.2.2.2.2.2.2.2.2.2.2.2.2.2.2.2.2.2.2.2.1
    have HS32_ := hsb_ hb hHeld.2.2.2.2.2.2.2.2.2.2.2.2.2.2.2.2.2.2.2.2.2.2.2.2.2.2.2.2.2.2.2.2.1
    have HS33_ := hsb_ hb hHeld.2.2.2.2.2.2.2.2.2.2.2.2.2.2.2.2.2.2.2.2.2.2.2.2.2.2.2.2.2.2.2.2.2.1
    have HS34_ := hsb_ hb hHeld.2.2.2.2.2.2.2.2.2.2.2.2.2.2.2.2.2.2.2.2.2.2.2.2.2.2.2.2.2.2.2.2.2.2.1
    have HS35_ := hsb_ hb hHeld.2.2.2.2.2.2.2.2.2.2.2.2.2.2.2.2.2.2.2.2.2.2.2.2.2.2.2.2.2.2.2.2.2.2.2.1
    have HS36_ := hsb_ hb hHeld.2.2.2.2.2.2.2.2.2.2.2.2.2.2.2.2.2.2.2.2.2.2.2.2.2.2.2.2.2.2.2.2.2.2.2.2.1
    have HS37_ := hsb_ hb hHeld.2.2.2.2.2.2.2.2.2.2.2.2.2.2.2.2.2.2.2.2.2.2.2.2.2.2.2.2.2.2.2.2.2.2.2.2.2.1
    have HS38_ := hsb_ hb hHeld.2.2.2.2.2.2.2.2.2.2.2.2.2.2.2.2.2.2.2.2.2.2.2.2.2.2.2.2.2.2.2.2.2.2.2.2.2.2.1
    have HS39_ := hsb_ hb hHeld.2.2.2.2.2.2.2.2.2.2.2.2.2.2.2.2.2.2.2.2.2.2.2.2.2.2.2.2.2.2.2.2.2.2.2.2.2.2.2.1
    have HS40_ := hsb_ hb hHeld.2.2.2.2.2.2.2.2.2.2.2.2.2.2.2.2.2.2.2.2.2.2.2.2.2.2.2.2.2.2.2.2.2.2.2.2.2.2.2.2.1
    have HS41_ := hsb_ hb hHeld.2.2.2.2.2.2.2.2.2.2.2.2.2.2.2.2.2.2.2.2.2.2.2.2.2.2.2.2.2.2.2.2.2.2.2.2.2.2.2.2.2.1
    have HS42_ := hsb_ hb hHeld.2.2.2.2.2.2.2.2.2.2.2.2.2.2.2.2.2.2.2.2.2.2.2.2.2.2.2.2.2.2.2.2.2.2.2.2.2.2.2.2.2.2.1
    have HS43_ := hsb_ hb hHeld.2.2.2.2.2.2.2.2.2.2.2.2.2.2.2.2.2.2.2.2.2.2.2.2.2.2.2.2.2.2.2.2.2.2.2.2.2.2.2.2.2.2.2.1
    have HS44_ := hsb_ hb hHeld.2.2.2.2.2.2.2.2.2.2.2.2.2.2.2.2.2.2.2.2.2.2.2.2.2.2.2.2.2.2.2.2.2.2.2.2.2.2.2.2.2.2.2.2.1
    have HS45_ := hsb_ hb hHeld.2.2.2.2.2.2.2.2.2.2.2.2.2.2.2.2.2.2.2.2.2.2.2.2.2.2.2.2.2.2.2.2.2.2.2.2.2.2.2.2.2.2.2.2.2.1
    have HS46_ := hsb_ hb hHeld.2.2.2.2.2.2.2.2.2.2.2.2.2.2.2.2.2.2.2.2.2.2.2.2.2.2.2.2.2.2.2.2.2.2.2.2.2.2.2.2.2.2.2.2.2.2.1
    have HS47_ := hsb_ hb hHeld.2.2.2.2.2.2.2.2.2.2.2.2.2.2.2.2.2.2.2.2.2.2.2.2.2.2.2.2.2.2.2.2.2.2.2.2.2.2.2.2.2.2.2.2.2.2.2.1
    have HS48_ := hsb_ hb hHeld.2.2.2.2.2.2.2.2.2.2.2.2.2.2.2.2.2.2.2.2.2.2.2.2.2.2.2.2.2.2.2.2.2.2.2.2.2.2.2.2.2.2.2.2.2.2.2.2.1
    have HS49_ := hsb_ hb hHeld.2.2.2.2.2.2.2.2.2.2.2.2.2.2.2.2.2.2.2.2.2.2.2.2.2.2.2.2.2.2.2.2.2.2.2.2.2.2.2.2.2.2.2.2.2.2.2.2.2.1
    have HS50_ := hsb_ hb hHeld.2.2.2.2.2.2.2.2.2.2.2.2.2.2.2.2.2.2.2.2.2.2.2.2.2.2.2.2.2.2.2.2.2.2.2.2.2.2.2.2.2.2.2.2.2.2.2.2.2.2
    refine ⟨_, rfl, ?_⟩
    have n0_ := Aside0.mk (Kd.R_below (by (with_reducible repeat (first | apply Kd.R_alloc | apply Kd.R_drewN | apply Kd.R_drew)); exact HO_1.out) hb)
    have n1_ := Aside0.mk (Kd.R_below (by (with_reducible repeat (first | apply Kd.R_alloc | apply Kd.R_drewN | apply Kd.R_drew)); exact HO_3.out) hb)
    have n2_ := Aside0.mk (Kd.S_below (by (with_reducible repeat (first | apply Kd.S_alloc | apply Kd.S_drewN | apply Kd.S_drew)); exact HO_4.out) hb)
    have n3_ := Aside0.mk (Kd.S_below (by (with_reducible repeat (first | apply Kd.S_alloc | apply Kd.S_drewN | apply Kd.S_drew)); exact HO_8.out) hb)
    have n4_ := Aside0.mk (Kd.S_below (by (with_reducible repeat (first | apply Kd.S_alloc | apply Kd.S_drewN | apply Kd.S_drew)); exact HO_14.out) hb)
    have n5_ := Aside0.mk (Kd.R_below (by (with_reducible repeat (first | apply Kd.R_alloc | apply Kd.R_drewN | apply Kd.R_drew)); exact HO283.out) hb)
    have n9_ := Aside0.mk (blk_below (g := gb222) (o := .cells #[.int .i64 8, .int .i64 4, .int .i64 2] 25 (0, 0)) (by (with_reducible repeat (first | refine blk_drewN ?_ _ | refine blk_drew ?_ | refine blk_alloc ?_ _)); exact BK222.out) hb)
    have n10_ := Aside0.mk (blk_below (g := gb278) (o := .cells #[.int .i64 t272, .int .i64 t273, .int .i64 t274, .int .i64 t275, .int .i64 t276, .int .i64 t277] 69 (0, 0)) (by (with_reducible repeat (first | refine blk_drewN ?_ _ | refine blk_drew ?_ | refine blk_alloc ?_ _)); exact BK278.out) hb)
    have n14_ := Aside0.mk (below_step (by repeat (first | (with_reducible first | exact HB.out | apply below_alloc | apply pw_below_drewN | apply below_drew1 | refine below_set ?_ GE222.out | refine below_set ?_ GE278.out) | exact HB.out)) hb)
    clear HO_1
    clear HO_3
    clear HO_4
    clear HO_8
    clear HO_14
    clear HO283
    clear BK222
    clear BK278
    clear HB
    have HO_1 := n0_
    have HO_3 := n1_
    have HO_4 := n2_
    have HO_8 := n3_
    have HO_14 := n4_
    have HO283 := n5_
    have BK222 := n9_
    have BK278 := n10_
    have HB := n14_
    clear n0_ n1_ n2_ n3_ n4_ n5_ n9_ n10_ n14_
    (try clear hb)
    (try clear hb2)
    (try clear hk)
    (try clear hi)
    obtain ⟨Ao91, co91, eo91⟩ := Kd.S_slice HO_14.out
    (first | subst eo91 | (injection eo91 with f1_ f2_ f3_; have f4_ := f1_.symm; have f5_ := f3_.symm; clear f1_ f2_ f3_; subst f4_; subst f5_))
    refine hK.out _ _ ⟨(blk_cell BK278.out 0).trans rfl, (blk_cell BK278.out 1).trans rfl, (blk_cell BK278.out 2).trans rfl, (blk_cell BK278.out 3).trans rfl, (blk_cell BK278.out 4).trans rfl, (blk_cell BK278.out 5).trans rfl, (blk_cell BK222.out 0).trans rfl, (blk_cell BK222.out 1).trans rfl, (blk_cell BK222.out 2).trans rfl, HS9_, HS10_, HS11_, HS12_, HS13_, HS14_, HS15_, HS16_, HS17_, HS18_, HS19_, HS20_, HS21_, HS22_, HS23_, HS24_, HS25_, HS26_, HS27_, HS28_, HS29_, HS30_, HS31_, HS32_, HS33_, HS34_, HS35_, HS36_, HS37_, HS38_, HS39_, HS40_, HS41_, HS42_, HS43_, HS44_, HS45_, HS46_, HS47_, HS48_, HS49_, HS50_⟩ (fun hHeld => ?_)
    clear hK K
    refine norm_ (a' := ?_) ?_ ?_
    rotate_left
    ·
     show Act.put _ (some 146) _ = _
     simp only [Act.put, List.setIfInBounds_toArray, List.set_cons_zero, List.set_cons_succ, i64_w, i32_w]
     rfl
    refine pq_ (i := 54) (N := some 147) (m_ 107 36028797018963967) HT_ ?_
    refine pq_ (i := 55) (N := some 148) (m_ 107 72057594037927935) HT_ ?_
    refine pq_ (i := 56) (N := some 149) (m_ 107 144115188075855871) HT_ ?_
    refine pq_ (i := 57) (N := some 150) (m_ 107 288230376151711743) HT_ ?_
    refine pq_ (i := 58) (N := some 151) (m_ 107 576460752303423487) HT_ ?_
    refine pq_ (i := 59) (N := some 152) (m_ 107 1152921504606846975) HT_ ?_
    refine pq_ (i := 60) (N := some 153) (m_ 107 2305843009213693951) HT_ ?_
    refine pq_ (i := 61) (N := some 154) (m_ 107 4611686018427387903) HT_ ?_
    refine pq_ (i := 62) (N := some 155) (m_ 107 9223372036854775807) HT_ ?_
    refine pq_ (i := 63) (N := some 156) (m_ 107 18446744073709551615) HT_ ?_
    refine pq_ (i := 64) (N := some 157) (m_ 107 36893488147419103231) HT_ ?_
    refine pq_ (i := 65) (N := some 158) (m_ 107 73786976294838206463) HT_ ?_
    refine pq_ (i := 66) (N := some 159) (m_ 107 147573952589676412927) HT_ ?_
    refine pq_ (i := 67) (N := some 160) (m_ 107 295147905179352825855) HT_ ?_
    refine pq_ (i := 68) (N := some 161) (m_ 107 590295810358705651711) HT_ ?_
    refine pq_ (i := 69) (N := some 162) (m_ 107 1180591620717411303423) HT_ ?_
    refine pq_ (i := 70) (N := some 163) (m_ 107 2361183241434822606847) HT_ ?_
    refine pq_ (i := 71) (N := some 164) (m_ 107 4722366482869645213695) HT_ ?_
    refine take_ (i := 72) (N := some 165) (v := ?_) (a' := ?_) (m_ 107 9444732965739290427391) rfl rfl (take_ofW HT_.out HW_.out (by kernel_rfl)) (fun _ _ _ h => h) (Or.inl ⟨by rfl, ?_⟩) hHeld ?_ ?_
    rotate_left
    ·
     rintro w' ⟨s0, s1, s2, s3, s4, s5, s6, s7, s8, s9, s10, s11, s12, s13, s14, s15, s16, s17, s18, s19, s20, s21, s22, s23, s24, s25, s26, s27, s28, s29, s30, s31, s32, s33, s34, s35, s36, s37, s38, s39, s40, s41, s42, s43, s44, s45, s46, s47, s48, s49, s50⟩
     go_simp
     with_reducible rfl
    rotate_left; · (simp only [Act.put, List.setIfInBounds_toArray, List.set_cons_zero, List.set_cons_succ, i64_w, i32_w]; rfl)
    refine pq_ (i := 73) (N := some 166) (m_ 107 18889465931478580854783) HT_ ?_
    refine pq_ (i := 74) (N := some 167) (m_ 107 37778931862957161709567) HT_ ?_
    refine pq_ (i := 75) (N := some 168) (m_ 107 75557863725914323419135) HT_ ?_
    refine pq_ (i := 76) (N := some 169) (m_ 107 151115727451828646838271) HT_ ?_
    refine pq_ (i := 77) (N := some 170) (m_ 107 302231454903657293676543) HT_ ?_
    refine pq_ (i := 78) (N := some 171) (m_ 107 604462909807314587353087) HT_ ?_
    refine take_ (i := 79) (N := some 172) (v := ?_) (a' := ?_) (m_ 107 1208925819614629174706175) rfl rfl (take_ofW HT_.out HW_.out (by kernel_rfl)) (fun _ _ _ h => h) (Or.inl ⟨by rfl, ?_⟩) hHeld ?_ ?_
    rotate_left
    ·
     rintro w' ⟨s0, s1, s2, s3, s4, s5, s6, s7, s8, s9, s10, s11, s12, s13, s14, s15, s16, s17, s18, s19, s20, s21, s22, s23, s24, s25, s26, s27, s28, s29, s30, s31, s32, s33, s34, s35, s36, s37, s38, s39, s40, s41, s42, s43, s44, s45, s46, s47, s48, s49, s50⟩
     go_simp
     with_reducible rfl
    rotate_left; · (simp only [Act.put, List.setIfInBounds_toArray, List.set_cons_zero, List.set_cons_succ, i64_w, i32_w]; rfl)
    refine pq_ (i := 80) (N := some 173) (m_ 107 2417851639229258349412351) HT_ ?_
    refine pq_ (i := 81) (N := some 174) (m_ 107 4835703278458516698824703) HT_ ?_
    refine pq_ (i := 82) (N := some 175) (m_ 107 9671406556917033397649407) HT_ ?_
    refine pq_ (i := 83) (N := some 176) (m_ 107 19342813113834066795298815) HT_ ?_
    refine pq_ (i := 84) (N := some 177) (m_ 107 38685626227668133590597631) HT_ ?_
    refine pq_ (i := 85) (N := some 178) (m_ 107 77371252455336267181195263) HT_ ?_
    refine pq_ (i := 86) (N := some 179) (m_ 107 154742504910672534362390527) HT_ ?_
    refine pq_ (i := 87) (N := some 180) (m_ 107 309485009821345068724781055) HT_ ?_
    refine take_ (i := 88) (N := some 181) (v := ?_) (a' := ?_) (m_ 107 618970019642690137449562111) rfl rfl (take_ofW HT_.out HW_.out (by kernel_rfl)) (fun _ _ _ h => h) (Or.inl ⟨by rfl, ?_⟩) hHeld ?_ ?_
    rotate_left
    ·
     rintro w' ⟨s0, s1, s2, s3, s4, s5, s6, s7, s8, s9, s10, s11, s12, s13, s14, s15, s16, s17, s18, s19, s20, s21, s22, s23, s24, s25, s26, s27, s28, s29, s30, s31, s32, s33, s34, s35, s36, s37, s38, s39, s40, s41, s42, s43, s44, s45, s46, s47, s48, s49, s50⟩
     go_simp
     with_reducible rfl
    rotate_left; · (simp only [Act.put, List.setIfInBounds_toArray, List.set_cons_zero, List.set_cons_succ, i64_w, i32_w]; rfl)
    refine pq_ (i := 89) (N := some 182) (m_ 107 1237940039285380274899124223) HT_ ?_
    refine pq_ (i := 90) (N := some 183) (m_ 107 2475880078570760549798248447) HT_ ?_
    refine pq_ (i := 91) (N := some 184) (m_ 107 4951760157141521099596496895) HT_ ?_
    refine pq_ (i := 92) (N := some 185) (m_ 107 9903520314283042199192993791) HT_ ?_
    refine pq_ (i := 93) (N := some 186) (m_ 107 19807040628566084398385987583) HT_ ?_
    refine pq_ (i := 94) (N := some 187) (m_ 107 39614081257132168796771975167) HT_ ?_
    refine pq_ (i := 95) (N := some 188) (m_ 107 79228162514264337593543950335) HT_ ?_
    refine pq_ (i := 97) (N := some 190) (m_ 107 237684487542793012780631851007) HT_ ?_
    refine pq_ (i := 98) (N := some 191) (m_ 107 554597137599850363154807652351) HT_ ?_
    refine pq_ (i := 99) (N := some 192) (m_ 107 1188422437713965063903159255039) HT_ ?_
    refine take_ (i := 96) (N := some 189) (v := ?_) (a' := ?_) (m_ 107 1267650600228229401496703205375) rfl rfl (take_ofW HT_.out HW_.out (by kernel_rfl)) (fun _ _ _ h => h) (Or.inl ⟨by rfl, ?_⟩) hHeld ?_ ?_
    rotate_left
    ·
     rintro w' ⟨s0, s1, s2, s3, s4, s5, s6, s7, s8, s9, s10, s11, s12, s13, s14, s15, s16, s17, s18, s19, s20, s21, s22, s23, s24, s25, s26, s27, s28, s29, s30, s31, s32, s33, s34, s35, s36, s37, s38, s39, s40, s41, s42, s43, s44, s45, s46, s47, s48, s49, s50⟩
     go_simp
     with_reducible rfl
    rotate_left; · (simp only [Act.put, List.setIfInBounds_toArray, List.set_cons_zero, List.set_cons_succ, i64_w, i32_w]; rfl)
    refine pq_ (i := 100) (N := some 193) (m_ 107 2535301200456458802993406410751) HT_ ?_
    refine pq_ (i := 101) (N := some 194) (m_ 107 5070602400912917605986812821503) HT_ ?_
    refine pq_ (i := 102) (N := some 195) (m_ 107 10141204801825835211973625643007) HT_ ?_
    refine take_ (i := 103) (N := some 196) (v := ?_) (a' := ?_) (m_ 107 20282409603651670423947251286015) rfl rfl (take_ofW HT_.out HW_.out (by kernel_rfl)) (fun _ _ _ h => h) (Or.inl ⟨by rfl, ?_⟩) hHeld ?_ ?_
    rotate_left
    ·
     rintro w' ⟨s0, s1, s2, s3, s4, s5, s6, s7, s8, s9, s10, s11, s12, s13, s14, s15, s16, s17, s18, s19, s20, s21, s22, s23, s24, s25, s26, s27, s28, s29, s30, s31, s32, s33, s34, s35, s36, s37, s38, s39, s40, s41, s42, s43, s44, s45, s46, s47, s48, s49, s50⟩
     go_simp
     with_reducible rfl
    rotate_left; · (simp only [Act.put, List.setIfInBounds_toArray, List.set_cons_zero, List.set_cons_succ, i64_w, i32_w]; rfl)
    refine one_ (i := 104) (N := some 197) (m_ 107 40564819207303340847894502572031) rfl rfl (one_of HT_.out (by kernel_rfl)) (by decide) (fun K hK => ?_)
    refine goes_ Try.func48 (by kernel_rfl) rfl #[.agg #[.int .i64 8, .int .i64 4, .int .i64 2]] (by rfl) rfl rfl (by (try simp only [List.map_toArray, List.map_cons, List.map_nil]); first | done | rfl | (simp only [List.length_drop, List.length_take]; rfl)) ?_
    with_reducible refine (profile_ValidLimits.calls 8 4 2 t292 _ A77.out).mono ?_
    rintro e w92 ⟨rfl, hb⟩
    have HS9_ := hsb_ hb hHeld.2.2.2.2.2.2.2.2.2.1
    have HS10_ := hsb_ hb hHeld.2.2.2.2.2.2.2.2.2.2.1
    have HS11_ := hsb_ hb hHeld.2.2.2.2.2.2.2.2.2.2.2.1
    have HS12_ := hsb_ hb hHeld.2.2.2.2.2.2.2.2.2.2.2.2.1
    have HS13_ := hsb_ hb hHeld.2.2.2.2.2.2.2.2.2.2.2.2.2.1
    have HS14_ := hsb_ hb hHeld.2.2.2.2.2.2.2.2.2.2.2.2.2.2.1
    have HS15_ := hsb_ hb hHeld.2.2.2.2.2.2.2.2.2.2.2.2.2.2.2.1
    have HS16_ := hsb_ hb hHeld.2.2.2.2.2.2.2.2.2.2.2.2.2.2.2.2.1
    have HS17_ := hsb_ hb hHeld.2.2.2.2.2.2.2.2.2.2.2.2.2.2.2.2.2.1
    have HS18_ := hsb_ hb hHeld.2.2.2.2.2.2.2.2.2.2.2.2.2.2.2.2.2.2.1
    have HS19_ := hsb_ hb hHeld.2.2.2.2.2.2.2.2.2.2.2.2.2.2.2.2.2.2.2.1
    have HS20_ := hsb_ hb hHeld.2.2.2.2.2.2.2.2.2.2.2.2.2.2.2.2.2.2.2.2.1
    have HS21_ := hsb_ hb hHeld.2.2.2.2.2.2.2.2.2.2.2.2.2.2.2.2.2.2.2.2.2.1
    have HS22_ := hsb_ hb hHeld.2.2.2.2.2.2.2.2.2.2.2.2.2.2.2.2.2.2.2.2.2.2.1
    have HS23_ := hsb_ hb hHeld.2.2.2.2.2.2.2.2.2.2.2.2.2.2.2.2.2.2.2.2.2.2.2.1
    have HS24_ := hsb_ hb hHeld.2.2.2.2.2.2.2.2.2.2.2.2.2.2.2.2.2.2.2.2.2.2.2.2.1
    have HS25_ := hsb_ hb hHeld.2.2.2.2.2.2.2.2.2.2.2.2.2.2.2.2.2.2.2.2.2.2.2.2.2.1
    have HS26_ := hsb_ hb hHeld.2.2.2.2.2.2.2.2.2.2.2.2.2.2.2.2.2.2.2.2.2.2.2.2.2.2.1
    have HS27_ := hsb_ hb hHeld.2.2.2.2.2.2.2.2.2.2.2.2.2.2.2.2.2.2.2.2.2.2.2.2.2.2.2.1
    have HS28_ := hsb_ hb hHeld.2.2.2.2.2.2.2.2.2.2.2.2.2.2.2.2.2.2.2.2.2.2.2.2.2.2.2.2.1
    have HS29_ := hsb_ hb hHeld.2.2.2.2.2.2.2.2.2.2.2.2.2.2.2.2.2.2.2.2.2.2.2.2.2.2.2.2.2.1
    have HS30_ := hsb_ hb hHeld.2.2.2.2.2.2.2.2.2.2.2.2.2.2.2.2.2.2.2.2.2.2.2.2.2.2.2.2.2.2.1
    have HS31_ := hsb_ hb hHeld.2.2.2.2.2.2.2.2.2.2.2.2.2.2.2.2.2.2.2.2.2.2.2.2.2.2.2.2.2.2.2.1
    have HS32_ := hsb_ hb hHeld.2.2.2.2.2.2.2.2.2.2.2.2.2.2.2.2.2.2.2.2.2.2.2.2.2.2.2.2.2.2.2.2.1
    have HS33_ := hsb_ hb hHeld.2.2.2.2.2.2.2.2.2.2.2.2.2.2.2.2.2.2.2.2.2.2.2.2.2.2.2.2.2.2.2.2.2.1
    have HS34_ := hsb_ hb hHeld.2.2.2.2.2.2.2.2.2.2.2.2.2.2.2.2.2.2.2.2.2.2.2.2.2.2.2.2.2.2.2.2.2.2.1
    have HS35_ := hsb_ hb hHeld.2.2.2.2.2.2.2.2.2.2.2.2.2.2.2.2.2.2.2.2.2.2.2.2.2.2.2.2.2.2.2.2.2.2.2.1
    have HS36_ := hsb_ hb hHeld.2.2.2.2.2.2.2.2.2.2.2.2.2.2.2.2.2.2.2.2.2.2.2.2.2.2.2.2.2.2.2.2.2.2.2.2.1
    have HS37_ := hsb_ hb hHeld.2.2.2.2.2.2.2.2.2.2.2.2.2.2.2.2.2.2.2.2.2.2.2.2.2.2.2.2.2.2.2.2.2.2.2.2.2.1
    have HS38_ := hsb_ hb hHeld.2.2.2.2.2.2.2.2.2.2.2.2.2.2.2.2.2.2.2.2.2.2.2.2.2.2.2.2.2.2.2.2.2.2.2.2.2.2.1
    have HS39_ := hsb_ hb hHeld.2.2.2.2.2.2.2.2.2.2.2.2.2.2.2.2.2.2.2.2.2.2.2.2.2.2.2.2.2.2.2.2.2.2.2.2.2.2.2.1
    have HS40_ := hsb_ hb hHeld.2.2.2.2.2.2.2.2.2.2.2.2.2.2.2.2.2.2.2.2.2.2.2.2.2.2.2.2.2.2.2.2.2.2.2.2.2.2.2.2.1
    have HS41_ := hsb_ hb hHeld.2.2.2.2.2.2.2.2.2.2.2.2.2.2.2.2.2.2.2.2.2.2.2.2.2.2.2.2.2.2.2.2.2.2.2.2.2.2.2.2.2.1
    have HS42_ := hsb_ hb hHeld.2.2.2.2.2.2.2.2.2.2.2.2.2.2.2.2.2.2.2.2.2.2.2.2.2.2.2.2.2.2.2.2.2.2.2.2.2.2.2.2.2.2.1
    have HS43_ := hsb_ hb hHeld.2.2.2.2.2.2.2.2.2.2.2.2.2.2.2.2.2.2.2.2.2.2.2.2.2.2.2.2.2.2.2.2.2.2.2.2.2.2.2.2.2.2.2.1
    have HS44_ := hsb_ hb hHeld.2.2.2.2.2.2.2.2.2.2.2.2.2.2.2.2.2.2.2.2.2.2.2.2.2.2.2.2.2.2.2.2.2.2.2.2.2.2.2.2.2.2.2.2.1
    have HS45_ := hsb_ hb hHeld.2.2.2.2.2.2.2.2.2.2.2.2.2.2.2.2.2.2.2.2.2.2.2.2.2.2.2.2.2.2.2.2.2.2.2.2.2.2.2.2.2.2.2.2.2.1
    have HS46_ := hsb_ hb hHeld.2.2.2.2.2.2.2.2.2.2.2.2.2.2.2.2.2.2.2.2.2.2.2.2.2.2.2.2.2.2.2.2.2.2.2.2.2.2.2.2.2.2.2.2.2.2.1
    have HS47_ := hsb_ hb hHeld.2.2.2.2.2.2.2.2.2.2.2.2.2.2.2.2.2.2.2.2.2.2.2.2.2.2.2.2.2.2.2.2.2.2.2.2.2.2.2.2.2.2.2.2.2.2.2.1
    have HS48_ := hsb_ hb hHeld.2.2.2.2.2.2.2.2.2.2.2.2.2.2.2.2.2.2.2.2.2.2.2.2.2.2.2.2.2.2.2.2.2.2.2.2.2.2.2.2.2.2.2.2.2.2.2.2.1
    have HS49_ := hsb_ hb hHeld.2.2.2.2.2.2.2.2.2.2.2.2.2.2.2.2.2.2.2.2.2.2.2.2.2.2.2.2.2.2.2.2.2.2.2.2.2.2.2.2.2.2.2.2.2.2.2.2.2.1
    have HS50_ := hsb_ hb hHeld.2.2.2.2.2.2.2.2.2.2.2.2.2.2.2.2.2.2.2.2.2.2.2.2.2.2.2.2.2.2.2.2.2.2.2.2.2.2.2.2.2.2.2.2.2.2.2.2.2.2
    refine ⟨_, rfl, ?_⟩
    have n0_ := Aside0.mk (Kd.R_below (by (with_reducible repeat (first | apply Kd.R_alloc | apply Kd.R_drewN | apply Kd.R_drew)); exact HO_1.out) hb)
    have n1_ := Aside0.mk (Kd.R_below (by (with_reducible repeat (first | apply Kd.R_alloc | apply Kd.R_drewN | apply Kd.R_drew)); exact HO_3.out) hb)
    have n2_ := Aside0.mk (Kd.S_below (by (with_reducible repeat (first | apply Kd.S_alloc | apply Kd.S_drewN | apply Kd.S_drew)); exact HO_4.out) hb)
    have n3_ := Aside0.mk (Kd.S_below (by (with_reducible repeat (first | apply Kd.S_alloc | apply Kd.S_drewN | apply Kd.S_drew)); exact HO_8.out) hb)
    have n4_ := Aside0.mk (Kd.S_below (by (with_reducible repeat (first | apply Kd.S_alloc | apply Kd.S_drewN | apply Kd.S_drew)); exact HO_14.out) hb)
    have n5_ := Aside0.mk (Kd.R_below (by (with_reducible repeat (first | apply Kd.R_alloc | apply Kd.R_drewN | apply Kd.R_drew)); exact HO283.out) hb)
    have n12_ := Aside0.mk (blk_below (g := gb222) (o := .cells #[.int .i64 8, .int .i64 4, .int .i64 2] 25 (0, 0)) (by (with_reducible repeat (first | refine blk_drewN ?_ _ | refine blk_drew ?_ | refine blk_alloc ?_ _)); exact BK222.out) hb)
    have n13_ := Aside0.mk (blk_below (g := gb278) (o := .cells #[.int .i64 t272, .int .i64 t273, .int .i64 t274, .int .i64 t275, .int .i64 t276, .int .i64 t277] 69 (0, 0)) (by (with_reducible repeat (first | refine blk_drewN ?_ _ | refine blk_drew ?_ | refine blk_alloc ?_ _)); exact BK278.out) hb)
    have n20_ := Aside0.mk (below_step (by repeat (first | (with_reducible first | exact HB.out | apply below_alloc | apply pw_below_drewN | apply below_drew1 | refine below_set ?_ GE222.out | refine below_set ?_ GE278.out) | exact HB.out)) hb)
    clear HO_1
    clear HO_3
    clear HO_4
    clear HO_8
    clear HO_14
    clear HO283
    clear BK222
    clear BK278
    clear HB
    have HO_1 := n0_
    have HO_3 := n1_
    have HO_4 := n2_
    have HO_8 := n3_
    have HO_14 := n4_
    have HO283 := n5_
    have BK222 := n12_
    have BK278 := n13_
    have HB := n20_
    clear n0_ n1_ n2_ n3_ n4_ n5_ n12_ n13_ n20_
    (try clear hb)
    (try clear hb2)
    (try clear hk)
    (try clear hi)
    refine hK.out _ _ ⟨(blk_cell BK278.out 0).trans rfl, (blk_cell BK278.out 1).trans rfl, (blk_cell BK278.out 2).trans rfl, (blk_cell BK278.out 3).trans rfl, (blk_cell BK278.out 4).trans rfl, (blk_cell BK278.out 5).trans rfl, (blk_cell BK222.out 0).trans rfl, (blk_cell BK222.out 1).trans rfl, (blk_cell BK222.out 2).trans rfl, HS9_, HS10_, HS11_, HS12_, HS13_, HS14_, HS15_, HS16_, HS17_, HS18_, HS19_, HS20_, HS21_, HS22_, HS23_, HS24_, HS25_, HS26_, HS27_, HS28_, HS29_, HS30_, HS31_, HS32_, HS33_, HS34_, HS35_, HS36_, HS37_, HS38_, HS39_, HS40_, HS41_, HS42_, HS43_, HS44_, HS45_, HS46_, HS47_, HS48_, HS49_, HS50_⟩ (fun hHeld => ?_)
    clear hK K
    refine norm_ (a' := ?_) ?_ ?_
    rotate_left
    ·
     show Act.put _ (some 197) _ = _
     simp only [Act.put, List.setIfInBounds_toArray, List.set_cons_zero, List.set_cons_succ, i64_w, i32_w]
     rfl
    refine pq_ (i := 105) (N := some 198) (m_ 107 81129638414606681695789005144063) HT_ ?_
    refine pq_ (i := 106) (N := some 0) (m_ 107 162259276829213363391578010288127) HT_ ?_
    refine done_ (done_of HT_.out (by kernel_rfl)) ?_
    try go_wp2
    go_ret
    exact ⟨by first | rfl | (simp [errW_none, errW_some] <;> rfl) | (simp [*, errW_none, errW_some] <;> rfl), by repeat (first | (with_reducible first | exact HB.out | apply below_alloc | apply pw_below_drewN | apply below_drew1 | refine below_set ?_ GE222.out | refine below_set ?_ GE278.out) | exact HB.out)⟩
theorem ambidexterlaw23_head.is_true (k : Nat) {r : Bool} (h : ambidexterlaw23_head.f k = some r) : r = true := by
 obtain ⟨k2_, e⟩ := Pure.head23
 have h1 := at_rounds ambidexterlaw23_head.mono (Nat.le_max_left k k2_) h
 have h2 := at_rounds ambidexterlaw23_head.mono (Nat.le_max_right k k2_) e
 rw [h1] at h2
 exact Option.some.inj h2
theorem ambidexterlaw23_head.calls (k : Nat)  (r : Bool) (w : World) (h : ambidexterlaw23_head.f k  = some r) :
  Calls Try.prog 31 #[] w fun e w' => e = .returned (.bool r) ∧ Below w.heap.size w w' := ambidexterlaw23_head.calls0 k r w h (ambidexterlaw23_head.is_true k h)

end Go.Proofs.Ytmmaodlngnjmlaa.P
