/- The reversed jerks lead to the distance, too. -/
import Derived.Test.YtjcefdockfbnaaaXLims22
import Derived.Test.YtjcefdockfbnaaaXLeads22
import Derived.Test.YtjcefdockfbnaaaP8
namespace Go.Proofs.Ytjcefdockfbnaaa.Pure
set_option linter.unusedSimpArgs false
set_option linter.unusedVariables false
open Go.RowKit Go.Proofs.Ytjcefdockfbnaaa.P Go.Proofs.YtjcefdockfbnaaaW.PrintWords Go.Proofs.YtjcefdockfbnaaaW.PrintLast Go.Proofs.YtjcefdockfbnaaaW.PrintMore Go.Proofs.Ytjcefdockfbnaaa.Motion
theorem reversed_l0 {L : Lm} (hL : ok L) {d : Int} (d0 : 0 ≤ d) (d1 : d ≤ 420) {l : List Int} (hl : l.length ≤ 1000000) (hp : Path L d zero l.reverse (goal d)) : ∀ (m i : Nat), i + m = l.length → ambidexterlaw22_MintimeReversed.l0 (m + 1 + (2 * l.length + 1)) true d l (l.reverse.take i) ((m : Int) - 1) L.v L.a L.j = some true
  | 0, i, e => by
    have et : l.reverse.take i = l.reverse := List.take_of_length_le (by simp; omega)
    rw [show 0 + 1 + (2 * l.length + 1) = (2 * l.length + 1) + 1 by omega, ambidexterlaw22_MintimeReversed.l0, if_neg (by omega), if_pos rfl, et, leads hL d0 d1 (by simpa using hl) hp (by simp)]
    rfl
  | m + 1, i, e => by
    have hi : i < l.reverse.length := by simp; omega
    have hm : m < l.length := by omega
    have ei : l.reverse[i] = l[m] := by rw [List.getElem_reverse]; congr 1; omega
    have e1 : l.reverse.take i ++ [l[m]] = l.reverse.take (i + 1) := by
      rw [List.take_add_one, List.getElem?_eq_getElem hi, ei]
      rfl
    have ec : ((m + 1 : Nat) : Int) - 1 = (m : Int) := by omega
    rw [show m + 1 + 1 + (2 * l.length + 1) = (m + 1 + (2 * l.length + 1)) + 1 by omega, ambidexterlaw22_MintimeReversed.l0, ec, if_pos (by omega), if_pos (by omega), if_pos (by omega), if_pos (by simp; omega), rd_at hm, e1, w64 (by omega) (by omega)]
    exact reversed_l0 hL d0 d1 hl hp m (i + 1) (by omega)
theorem MintimeReversed : ∀ (x0 : S32) (a1 : Int), ok32 x0 → (Lit.int .u16 a1).wf = true → ∃ k, ambidexterlaw22_MintimeReversed.f k x0.f0 x0.f1 x0.f2 a1 = some true := by
  intro x a hx ha
  obtain ⟨L, eL, hL⟩ := lims hx
  obtain ⟨d, ed, d0, d1⟩ := dist22 ha
  rcases profile_ok hL d0 d1 with ⟨l, K, hK, hB⟩ | ⟨⟨K, hK⟩, hno⟩
  · have hlen : l.length ≤ 1000000 := by
      have := best_len hL d0 d1 hB
      omega
    refine ⟨max (max 2000 K) (l.length + 1 + (2 * l.length + 1)), ?_⟩
    unfold ambidexterlaw22_MintimeReversed.f
    rw [head22 (by omega), eL, ed]
    simp only [Option.bind_some]
    rw [hK _ (by omega)]
    simp only [Option.bind_some]
    rw [if_pos trivial, w64 (by omega) (by omega)]
    have := reversed_l0 hL d0 d1 hlen (Path.reverse_goal d0 hL hB.1) l.length 0 (by omega)
    exact at_rounds (fun k' => ambidexterlaw22_MintimeReversed.mono_l k' _ _ _ _ _ _ _ _) (by omega) this
  · have hd : d = 1 := by
      by_cases c : d = 1
      · exact c
      · exact absurd (path_exists L d hL d0 (fun e => absurd e c)) hno
    refine ⟨max 2000 K, ?_⟩
    unfold ambidexterlaw22_MintimeReversed.f
    rw [head22 (by omega), eL, ed]
    simp only [Option.bind_some]
    rw [hK _ (by omega)]
    simp only [Option.bind_some]
    rw [if_neg (by decide), if_pos trivial, hd]
    rfl
end Go.Proofs.Ytjcefdockfbnaaa.Pure
