/- The head of the laws of 23: its examples hold. -/
import Derived.Test.YtmmaodlngnjmlaaXTime23
import Derived.Test.YtmmaodlngnjmlaaP20
namespace Go.Proofs.Ytmmaodlngnjmlaa.Pure
set_option linter.unusedSimpArgs false
set_option linter.unusedVariables false
open Go Go.RowKit Go.Proofs.Ytmmaodlngnjmlaa.P Go.Proofs.YtmmaodlngnjmlaaW.PrintWords Go.Proofs.YtmmaodlngnjmlaaW.PrintLast Go.Proofs.YtmmaodlngnjmlaaW.PrintMore Go.Proofs.Ytmmaodlngnjmlaa.Motion
def L8 : Lm := ⟨8, 4, 2⟩
theorem ok8 : ok L8 := by unfold ok L8; decide
theorem path12 : Path L8 12 zero [2, 0, -2, -2, 0, 2] (goal 12) := by
  simp [Path, may, tick, zero, goal, L8]
theorem path24 : Path L8 24 zero [1, 2, -1, -2, -1, -2, 1, 2] (goal 24) := by
  simp [Path, may, tick, zero, goal, L8]
theorem len12 {l : List Int} (h : Best L8 12 l) : 0 < l.length ∧ l.length ≤ 6 := by
  constructor
  · cases l with
    | nil =>
      have e : zero = goal 12 := h.1
      exact absurd (congrArg Mo.p e) (by decide)
    | cons a l => simp
  · exact (h.2 _ path12).1
theorem len24 {l : List Int} (h : Best L8 24 l) : 0 < l.length ∧ l.length ≤ 8 := by
  constructor
  · cases l with
    | nil =>
      have e : zero = goal 24 := h.1
      exact absurd (congrArg Mo.p e) (by decide)
    | cons a l => simp
  · exact (h.2 _ path24).1
theorem gone_end {d : Int} (d0 : 0 ≤ d) (d1 : d ≤ 420) {l : List Int} (hB : Best L8 d l) (hl : l.length ≤ 8) (s : Sg) (hs : s.f2 = l) (h1 : 0 ≤ s.f1) (h2 : s.f1 ≤ 100) : Gone.gP 2000 s = d := by
  have hg : Gone.gN 2000 s = l.length := by
    unfold Gone.gN mn
    rw [hs, if_pos (by omega), k64 (by omega) (by omega)]
    split <;> omega
  unfold Gone.gP
  rw [hg, hs, List.take_of_length_le (Nat.le_refl _)]
  have hz := may_zero ok8 d0
  have h3 := tr_path ok8 d1 hz hB.1
  have h4 : Ticks.tr 0 0 0 l = pz zero l := h3
  rw [h4]
  have h5 : Ticks.lastOf 0 0 0 (pz zero l) = ((run zero l).p, (run zero l).v, (run zero l).a) := pz_last l zero
  rw [h5, hB.1.run]
  rfl
theorem head23 : ∃ k, ambidexterlaw23_head.f k = some true := by
  obtain ⟨K, hK⟩ := pr_all ok8
  obtain ⟨f1, b1, _⟩ := hK 1 (by decide) (by decide)
  obtain ⟨f2, b2, _⟩ := hK 2 (by decide) (by decide)
  have b1' : Best L8 12 (pr L8 1) := b1
  have b2' : Best L8 24 (pr L8 2) := b2
  have l1 := len12 b1'
  have l2 := len24 b2'
  have g1 : ∀ a : Int, 0 ≤ a → a ≤ 100 → ∀ r : Rn, Gone.gP 2000 (⟨r, a, pr L8 1⟩ : Sg) = 12 := fun a h0 h1 r => gone_end (by decide) (by decide) b1' (by omega) _ rfl h0 h1
  have g2 : ∀ a : Int, 0 ≤ a → a ≤ 100 → ∀ r : Rn, Gone.gP 2000 (⟨r, a, pr L8 2⟩ : Sg) = 24 := fun a h0 h1 r => gone_end (by decide) (by decide) b2' (by omega) _ rfl h0 h1
  generalize hP1 : pr L8 1 = P1 at *
  generalize hP2 : pr L8 2 = P2 at *
  refine ⟨K + 100, ?_⟩
  have e1 : timetable_GroupMoves.f (K + 100) [(⟨0, 0, 1⟩ : Mv), (⟨0, 0, 1⟩ : Mv), (⟨0, 1, (-1)⟩ : Mv)] = some [(⟨⟨0, 0, 1⟩, 2⟩ : Rn), (⟨⟨0, 1, (-1)⟩, 1⟩ : Rn)] := by
    rw [group_ok (by decide) (by simp <;> omega)]
    rfl
  have t2 : tab L8 0 [(⟨⟨0, 0, 1⟩, 2⟩ : Rn), (⟨⟨0, 1, (-1)⟩, 1⟩ : Rn)] = some [(⟨⟨⟨0, 0, 1⟩, 2⟩, 0, P2⟩ : Sg), (⟨⟨⟨0, 1, (-1)⟩, 1⟩, (P2.length : Int), P1⟩ : Sg)] := by
    simp only [tab, hP1, hP2, Int.zero_add]
    rw [if_pos ⟨by decide, by omega⟩, if_pos ⟨by decide, by omega⟩]
    rfl
  have e2 : timetable_Sequential.f (K + 100) 8 4 2 [(⟨0, 0, 1⟩ : Mv), (⟨0, 0, 1⟩ : Mv), (⟨0, 1, (-1)⟩ : Mv)] = some ([(⟨⟨⟨0, 0, 1⟩, 2⟩, 0, P2⟩ : Sg), (⟨⟨⟨0, 1, (-1)⟩, 1⟩, (P2.length : Int), P1⟩ : Sg)], 0) := by
    have h := seq_ok ok8 hK (l := [(⟨0, 0, 1⟩ : Mv), (⟨0, 0, 1⟩ : Mv), (⟨0, 1, (-1)⟩ : Mv)]) (by decide) (k := K + 100) (by simp <;> omega)
    have hr : runsL [(⟨0, 0, 1⟩ : Mv), (⟨0, 0, 1⟩ : Mv), (⟨0, 1, (-1)⟩ : Mv)] = [(⟨⟨0, 0, 1⟩, 2⟩ : Rn), (⟨⟨0, 1, (-1)⟩, 1⟩ : Rn)] := rfl
    rw [if_pos (by decide), hr, t2] at h
    exact h
  have e3 : mintime_Duration.f (K + 100) 8 4 2 24 = some ((P2.length : Int), true) := duration (L := L8) (f2 _ (by omega))
  have e4 : timetable_Sequential.f (K + 100) 8 4 2 [] = some ([], 0) := by
    have h := seq_ok ok8 hK (l := []) (by decide) (k := K + 100) (by simp <;> omega)
    exact h
  have e5 : ∀ l : List Mv, timetable_Sequential.f (K + 100) 9 4 2 l = some ([], 1) := by
    intro l
    have hv : profile_ValidLimits.f 9 4 2 = some false := by kernel_rfl
    unfold timetable_Sequential.f
    rw [hv]
    rfl
  have e6 : timetable_Sequential.f (K + 100) 8 4 2 [(⟨0, 3, 1⟩ : Mv)] = some ([], 1) := by
    have h := seq_ok ok8 hK (l := [(⟨0, 3, 1⟩ : Mv)]) (by decide) (k := K + 100) (by simp <;> omega)
    rw [if_neg (by decide)] at h
    exact h
  have e7 : ∀ k, K ≤ k → timetable_Coordinated.f k 8 4 2 8 4 2 [(⟨0, 0, 1⟩ : Mv)] [(⟨1, 0, 1⟩ : Mv)] [(⟨true, true⟩ : S91)] = some ([(⟨⟨⟨0, 0, 1⟩, 1⟩, 0, P1⟩ : Sg), (⟨⟨⟨1, 0, 1⟩, 1⟩, 0, P1⟩ : Sg)], 0) := by
    intro k hk
    have hp : mintime_Profile.f k 8 4 2 12 = some (P1, true) := f1 k hk
    unfold timetable_Coordinated.f
    rw [if_pos (by decide), hp, Option.bind_some, if_pos (by simp; omega)]
  have e8 : ∀ k, timetable_Coordinated.f k 8 4 2 8 4 2 [(⟨0, 0, 1⟩ : Mv)] [] [(⟨false, false⟩ : S91), (⟨true, false⟩ : S91)] = some ([], 1) := by
    intro k
    unfold timetable_Coordinated.f
    rw [if_neg (by decide), if_pos (by decide)]
  have e9 : timetable_PositionsAt.f 1 2 3 0 0 0 [(⟨⟨⟨0, 0, 1⟩, 2⟩, 0, P2⟩ : Sg), (⟨⟨⟨0, 1, (-1)⟩, 1⟩, (P2.length : Int), P1⟩ : Sg)] 2000 = some (36, 12, 36, 0, 0, 0) := by
    have hok : timetable_PositionsAt.ok [(⟨⟨⟨0, 0, 1⟩, 2⟩, 0, P2⟩ : Sg), (⟨⟨⟨0, 1, (-1)⟩, 1⟩, (P2.length : Int), P1⟩ : Sg)] 2000 = true := by
      have w1 : wrap64 2000 = 2000 := by unfold wrap64; omega
      have w2 : wrap64 (2000 - (P2.length : Int)) = 2000 - (P2.length : Int) := k64 (by omega) (by omega)
      simp [timetable_PositionsAt.ok, Gone.goodB, w1, w2]
      omega
    have ho : timetable_PositionsAt.o 1 2 3 0 0 0 [(⟨⟨⟨0, 0, 1⟩, 2⟩, 0, P2⟩ : Sg), (⟨⟨⟨0, 1, (-1)⟩, 1⟩, (P2.length : Int), P1⟩ : Sg)] 2000 = Gone.add6 (Gone.add6 (fun k => wrap64 (timetable_PositionsAt.q 1 2 3 0 0 0 k * 12)) ((0, 0, 1), 24)) ((0, 1, -1), 12) := by
      unfold timetable_PositionsAt.o
      simp only [List.map_cons, List.map_nil, List.foldl_cons, List.foldl_nil, Gone.gOf]
      rw [g2 0 (by decide) (by decide), g1 (P2.length : Int) (by omega) (by omega)]
    unfold timetable_PositionsAt.f
    have hv : (Gone.add6 (Gone.add6 (fun k => wrap64 (timetable_PositionsAt.q 1 2 3 0 0 0 k * 12)) ((0, 0, 1), 24)) ((0, 1, -1), 12) 0, Gone.add6 (Gone.add6 (fun k => wrap64 (timetable_PositionsAt.q 1 2 3 0 0 0 k * 12)) ((0, 0, 1), 24)) ((0, 1, -1), 12) 1, Gone.add6 (Gone.add6 (fun k => wrap64 (timetable_PositionsAt.q 1 2 3 0 0 0 k * 12)) ((0, 0, 1), 24)) ((0, 1, -1), 12) 2, Gone.add6 (Gone.add6 (fun k => wrap64 (timetable_PositionsAt.q 1 2 3 0 0 0 k * 12)) ((0, 0, 1), 24)) ((0, 1, -1), 12) 3, Gone.add6 (Gone.add6 (fun k => wrap64 (timetable_PositionsAt.q 1 2 3 0 0 0 k * 12)) ((0, 0, 1), 24)) ((0, 1, -1), 12) 4, Gone.add6 (Gone.add6 (fun k => wrap64 (timetable_PositionsAt.q 1 2 3 0 0 0 k * 12)) ((0, 0, 1), 24)) ((0, 1, -1), 12) 5) = ((36, 12, 36, 0, 0, 0) : Int × Int × Int × Int × Int × Int) := by kernel_rfl
    rw [if_pos hok, ho, hv]
  have e10 : ∀ k, 5 ≤ k → ambidexterref23_SameRuns.f k [(⟨⟨0, 0, 1⟩, 2⟩ : Rn), (⟨⟨0, 1, (-1)⟩, 1⟩ : Rn)] [(⟨⟨0, 0, 1⟩, 2⟩ : Rn), (⟨⟨0, 1, (-1)⟩, 1⟩ : Rn)] = some true := fun k hk =>
    at_rounds (ambidexterref23_SameRuns.mono _ _) hk (by kernel_rfl)
  have e11 : ∀ k, 5 ≤ k → timetable_Duration.f k [] = some 0 := fun k hk => at_rounds (timetable_Duration.mono _) hk (by kernel_rfl)
  unfold ambidexterlaw23_head.f
  rw [Option.bind_some, e1, Option.bind_some, e2, Option.bind_some, e3, Option.bind_some, e4, Option.bind_some, e5, Option.bind_some, e6, Option.bind_some, if_pos (by decide)]
  have e12 : profile_ValidLimits.f 8 4 2 = some true := by kernel_rfl
  have e10' : ambidexterref23_SameRuns.f (K + 99) [(⟨⟨0, 0, 1⟩, 2⟩ : Rn), (⟨⟨0, 1, (-1)⟩, 1⟩ : Rn)] [(⟨(⟨(rd_T63 [(⟨0, 0, 1⟩ : Mv), (⟨0, 0, 1⟩ : Mv), (⟨0, 1, (-1)⟩ : Mv)] 0).f0, (rd_T63 [(⟨0, 0, 1⟩ : Mv), (⟨0, 0, 1⟩ : Mv), (⟨0, 1, (-1)⟩ : Mv)] 0).f1, (rd_T63 [(⟨0, 0, 1⟩ : Mv), (⟨0, 0, 1⟩ : Mv), (⟨0, 1, (-1)⟩ : Mv)] 0).f2⟩ : Mv), 2⟩ : Rn), (⟨(⟨(rd_T63 [(⟨0, 0, 1⟩ : Mv), (⟨0, 0, 1⟩ : Mv), (⟨0, 1, (-1)⟩ : Mv)] 2).f0, (rd_T63 [(⟨0, 0, 1⟩ : Mv), (⟨0, 0, 1⟩ : Mv), (⟨0, 1, (-1)⟩ : Mv)] 2).f1, (rd_T63 [(⟨0, 0, 1⟩ : Mv), (⟨0, 0, 1⟩ : Mv), (⟨0, 1, (-1)⟩ : Mv)] 2).f2⟩ : Mv), 1⟩ : Rn)] = some true := e10 (K + 99) (by omega)
  have e7' := e7 (K + 100) (by omega)
  rw [show List.take 1 [(⟨0, 0, 1⟩ : Mv), (⟨0, 0, 1⟩ : Mv), (⟨0, 1, (-1)⟩ : Mv)] = [(⟨0, 0, 1⟩ : Mv)] from rfl, e7', Option.bind_some, e8, Option.bind_some, if_pos (by first | rfl | decide | simp)]
  show ambidexterlaw23_head.j0 (K + 99 + 1) _ _ [(⟨⟨⟨0, 0, 1⟩, 2⟩, 0, P2⟩ : Sg), (⟨⟨⟨0, 1, (-1)⟩, 1⟩, (P2.length : Int), P1⟩ : Sg)] 0 (P2.length : Int) true [] 0 1 1 [(⟨⟨⟨0, 0, 1⟩, 1⟩, 0, P1⟩ : Sg), (⟨⟨⟨1, 0, 1⟩, 1⟩, 0, P1⟩ : Sg)] 0 1 false 8 4 2 = some true
  rw [ambidexterlaw23_head.j0, if_neg (by decide), e9, Option.bind_some, if_pos (by first | rfl | decide | simp), if_pos (by first | rfl | decide | simp), e10', Option.bind_some, if_pos (by first | rfl | decide | simp), if_pos (by first | rfl | decide | simp), if_pos (by first | rfl | decide | simp), if_pos (by first | rfl | decide | simp), if_pos (by first | rfl | decide | simp), if_pos (by first | rfl | decide | simp), if_pos (by first | rfl | decide | simp), if_pos (by first | rfl | decide | simp), if_pos (by first | rfl | decide | simp), if_pos (by first | rfl | decide | simp), e11 _ (by omega), Option.bind_some, if_pos (by first | rfl | decide | simp), if_pos (by first | rfl | decide | simp), if_pos (by first | rfl | decide | simp), if_pos (by first | rfl | decide | simp), if_pos (by first | rfl | decide | simp), if_pos (by first | rfl | decide | simp), if_pos (by first | rfl | decide | simp), if_pos (by first | rfl | decide | simp), if_pos (by first | rfl | decide | simp), if_pos (by first | rfl | decide | simp), if_pos (by first | rfl | decide | simp), e12, Option.bind_some]
end Go.Proofs.Ytmmaodlngnjmlaa.Pure
