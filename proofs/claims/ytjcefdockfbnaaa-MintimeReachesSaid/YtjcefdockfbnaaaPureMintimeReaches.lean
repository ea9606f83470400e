/- The sequence reaches the distance within the limits, between 0 and the distance; there is one but for distance 1 at jerk 1. -/
import Derived.Test.YtjcefdockfbnaaaXLims22
import Derived.Test.YtjcefdockfbnaaaXPlay22
import Derived.Test.YtjcefdockfbnaaaP11
namespace Go.Proofs.Ytjcefdockfbnaaa.Pure
set_option linter.unusedSimpArgs false
set_option linter.unusedVariables false
open Go.RowKit Go.Proofs.Ytjcefdockfbnaaa.P Go.Proofs.YtjcefdockfbnaaaW.PrintWords Go.Proofs.YtjcefdockfbnaaaW.PrintLast Go.Proofs.YtjcefdockfbnaaaW.PrintMore Go.Proofs.Ytjcefdockfbnaaa.Motion
theorem reaches_l0 {d : Int} (d1 : d ≤ 420) {l : List Int} (hl : l.length ≤ 1000000) {T : List Mo} (hT : ∀ x ∈ T, 0 ≤ x.p ∧ x.p ≤ d) (hTl : T.length ≤ 1000000) (hf : profile_Final.f 0 0 0 l = some ((goal d).p, (goal d).v, (goal d).a)) (hd : d > 0 ∨ l.length = 0) :
    ∀ (n i : Nat), i + n = T.length → ambidexterlaw22_MintimeReaches.l0 (n + 1) true d l l.length true (T.map fun x => (⟨x.p, x.v, x.a⟩ : S37)) (i : Int) = some true
  | 0, i, h => by
    rw [ambidexterlaw22_MintimeReaches.l0, if_neg (by simp; omega), if_pos rfl, hf]
    simp only [Option.bind_some]
    rw [if_pos (motion_beq d), if_pos trivial, if_pos trivial]
    rcases hd with hd | hd
    · rw [if_pos hd]
    · rw [hd]
      by_cases c : d > 0
      · rw [if_pos c]
      · rw [if_neg c]; rfl
  | n + 1, i, h => by
    have hi : i < T.length := by omega
    have e : rd_T37 (T.map fun x => (⟨x.p, x.v, x.a⟩ : S37)) (i : Int) = ⟨T[i].p, T[i].v, T[i].a⟩ := by
      unfold rd_T37
      rw [Int.toNat_natCast, List.getD_eq_getElem?_getD, List.getElem?_map, List.getElem?_eq_getElem hi]
      rfl
    have hx := hT T[i] (List.getElem_mem hi)
    rw [ambidexterlaw22_MintimeReaches.l0, if_pos (by simp; omega), if_pos (by omega), e, if_neg (by show ¬ T[i].p < 0; omega), if_neg (by show ¬ T[i].p > d; omega), w64 (by omega) (by omega)]
    exact reaches_l0 d1 hl hT hTl hf hd n (i + 1) (by omega)
theorem MintimeReaches : ∀ (x0 : S32) (a1 : Int), ok32 x0 → (Lit.int .u16 a1).wf = true → ∃ k, ambidexterlaw22_MintimeReaches.f k x0.f0 x0.f1 x0.f2 a1 = some true := by
  intro x a hx ha
  obtain ⟨L, eL, hL⟩ := lims hx
  obtain ⟨d, ed, d0, d1⟩ := dist22 ha
  have hz := may_zero hL d0
  rcases profile_ok hL d0 d1 with ⟨l, K, hK, hB⟩ | ⟨⟨K, hK⟩, hno⟩
  · have hlen := best_len hL d0 d1 hB
    have hT : ∀ y ∈ trace zero l, 0 ≤ y.p ∧ y.p ≤ d := fun y hy => by
      have := (path_iff.1 hB.1).2.1 y hy
      unfold may at this
      omega
    have hd : d > 0 ∨ l.length = 0 := by
      by_cases c : d > 0
      · exact .inl c
      · obtain rfl : d = 0 := by omega
        have := (hB.2 [] rfl).1
        exact .inr (by simpa using this)
    have hs : profile_Simulate.f 0 0 0 l = _ := simulate_path hL d1 (by omega) hz hB.1
    have hw : profile_Within.f L.v L.a L.j 0 0 0 l = some true := within_path hL d1 (by omega) hz hB.1
    have hf : profile_Final.f 0 0 0 l = _ := final_path hL d1 (by omega) hz hB.1
    have htl := trace_length l zero
    have hl0 := reaches_l0 d1 (by omega) hT (by omega) hf hd (trace zero l).length 0 (by omega)
    refine ⟨max (max 2000 K) ((trace zero l).length + 1 + 1), ?_⟩
    obtain ⟨q, hq⟩ : ∃ q, max (max 2000 K) ((trace zero l).length + 1 + 1) = q + 1 := ⟨max (max 2000 K) ((trace zero l).length + 1 + 1) - 1, by omega⟩
    unfold ambidexterlaw22_MintimeReaches.f
    rw [head22 (by omega), eL, ed]
    simp only [Option.bind_some]
    rw [hK _ (by omega), duration (hK _ (by omega))]
    simp only [Option.bind_some]
    rw [if_pos trivial, hs]
    simp only [Option.bind_some, List.length_map]
    rw [if_pos (by omega), hw]
    simp only [Option.bind_some]
    rw [hq, ambidexterlaw22_MintimeReaches.j0, if_neg (by decide)]
    exact at_rounds (fun k' => (ambidexterlaw22_MintimeReaches.mono_l k').2 _ _ _ _ _ _ _) (show (trace zero l).length + 1 ≤ q by omega) hl0
  · have hd : d = 1 ∧ L.j = 1 := by
      have hb := hL
      unfold ok at hb
      by_cases c : d = 1
      · refine ⟨c, ?_⟩
        by_cases c2 : L.j = 1
        · exact c2
        · exact absurd (path_exists L d hL d0 (fun e => by omega)) hno
      · exact absurd (path_exists L d hL d0 (fun e => absurd e c)) hno
    refine ⟨max 2000 K, ?_⟩
    unfold ambidexterlaw22_MintimeReaches.f
    rw [head22 (by omega), eL, ed]
    simp only [Option.bind_some]
    rw [hK _ (by omega), duration (hK _ (by omega))]
    simp only [Option.bind_some]
    rw [if_neg (by decide), if_pos trivial, if_pos hd.1, if_pos hd.2]
    rfl
end Go.Proofs.Ytjcefdockfbnaaa.Pure
