/- The ticks are at least the distance over the speed; one tick more suffices for a distance larger by a speed that the motion passes through. -/
import Derived.Test.YtjcefdockfbnaaaXLims22
import Derived.Test.YtjcefdockfbnaaaXPlay22
import Derived.Test.YtjcefdockfbnaaaP10
namespace Go.Proofs.Ytjcefdockfbnaaa.Pure
set_option linter.unusedSimpArgs false
set_option linter.unusedVariables false
open Go.RowKit Go.Proofs.Ytjcefdockfbnaaa.P Go.Proofs.YtjcefdockfbnaaaW.PrintWords Go.Proofs.YtjcefdockfbnaaaW.PrintLast Go.Proofs.YtjcefdockfbnaaaW.PrintMore Go.Proofs.Ytjcefdockfbnaaa.Motion
/-- One tick more, at the place where the acceleration is 0. -/
theorem more_path {L : Lm} (hL : ok L) {d : Int} (d0 : 0 ≤ d) {l : List Int} (h : Path L d zero l (goal d)) (i : Nat) (hv : 1 ≤ (run zero (l.take (i + 1))).v) (ha : (run zero (l.take (i + 1))).a = 0) :
    ∃ l', l'.length = l.length + 1 ∧ Path L (d + (run zero (l.take (i + 1))).v) zero l' (goal (d + (run zero (l.take (i + 1))).v)) := by
  have hb := hL
  unfold ok at hb
  have e : l = l.take (i + 1) ++ l.drop (i + 1) := (List.take_append_drop _ _).symm
  rw [e] at h
  obtain ⟨h1, h2⟩ := h.split
  rw [List.take_append_drop] at *
  have hm := Path.may_end (may_zero hL d0) h1
  generalize hx : run zero (l.take (i + 1)) = x at *
  have et : tick x 0 = shift x.v x := by
    cases x
    simp only [tick, shift, Mo.mk.injEq] at *
    omega
  refine ⟨l.take (i + 1) ++ 0 :: l.drop (i + 1), by simp; omega, Path.trans (h1.longer (by omega)) ⟨by omega, by omega, ?_, ?_⟩⟩
  · rw [et]
    unfold may at hm ⊢
    simp only [shift]
    omega
  · rw [et]
    have := h2.shift (s := x.v) (by omega)
    exact this
theorem bound_l0 {L : Lm} (hL : ok L) {d : Int} (d0 : 0 ≤ d) (d1 : d ≤ 420) {l : List Int} (hl : l.length ≤ 1000000) (h : Path L d zero l (goal d)) :
    ∀ (n i : Nat), i + n = l.length → ∃ k, ambidexterlaw22_MintimeBound.l0 k true d l ((trace zero l).map fun x => (⟨x.p, x.v, x.a⟩ : S37)) (i : Int) L.v L.a L.j = some true
  | 0, i, e => ⟨1, by rw [ambidexterlaw22_MintimeBound.l0, if_neg (by simp [trace_length]; omega)]⟩
  | n + 1, i, e => by
    have hb := hL
    unfold ok at hb
    obtain ⟨k, ih⟩ := bound_l0 hL d0 d1 hl h n (i + 1) (by omega)
    have htl := trace_length l zero
    have hi : i < (trace zero l).length := by omega
    have er : rd_T37 ((trace zero l).map fun x => (⟨x.p, x.v, x.a⟩ : S37)) (i : Int) = ⟨(trace zero l)[i].p, (trace zero l)[i].v, (trace zero l)[i].a⟩ := by
      unfold rd_T37
      rw [Int.toNat_natCast, List.getD_eq_getElem?_getD, List.getElem?_map, List.getElem?_eq_getElem hi]
      rfl
    have hm := (path_iff.1 h).2.1 _ (List.getElem_mem hi)
    have et := trace_at l zero i hi
    generalize hx : (trace zero l)[i] = x at *
    have hm' := hm
    unfold may at hm'
    have c0 : (i : Int) < (((trace zero l).map fun x => (⟨x.p, x.v, x.a⟩ : S37)).length : Int) := by rw [List.length_map]; omega
    have e1 : wrap64 (d + x.v) = d + x.v := w64 (by omega) (by omega)
    have e2 : wrap64 ((l.length : Int) + 1) = (l.length : Int) + 1 := by clear e1; exact w64 (by omega) (by omega)
    have hw : wrap64 ((i : Int) + 1) = ((i + 1 : Nat) : Int) := by clear e1 e2; rw [w64 (by omega) (by omega)]; rfl
    have start : ∀ k res, (if x.a = 0 then (if x.v < 1 then ambidexterlaw22_MintimeBound.l0 k true d l ((trace zero l).map fun x => (⟨x.p, x.v, x.a⟩ : S37)) ((i + 1 : Nat) : Int) L.v L.a L.j else (if d + x.v > 420 then ambidexterlaw22_MintimeBound.l0 k true d l ((trace zero l).map fun x => (⟨x.p, x.v, x.a⟩ : S37)) ((i + 1 : Nat) : Int) L.v L.a L.j else ((mintime_Duration.f k L.v L.a L.j (d + x.v)).bind fun bt321 => (if bt321.2 = true then (some (decide (bt321.1 ≤ (l.length : Int) + 1))) else (some false))))) else ambidexterlaw22_MintimeBound.l0 k true d l ((trace zero l).map fun x => (⟨x.p, x.v, x.a⟩ : S37)) ((i + 1 : Nat) : Int) L.v L.a L.j) = some res →
        ambidexterlaw22_MintimeBound.l0 (k + 1) true d l ((trace zero l).map fun x => (⟨x.p, x.v, x.a⟩ : S37)) (i : Int) L.v L.a L.j = some res := by
      intro k res hk
      rw [ambidexterlaw22_MintimeBound.l0, if_pos c0, if_pos (Int.natCast_nonneg i), er, hw]
      simp only [if_true]
      rw [e1, e2]
      exact hk
    clear hw e1 e2
    by_cases ca : x.a = 0
    · by_cases cv : x.v < 1
      · exact ⟨k + 1, start k true (by rw [if_pos ca, if_pos cv]; exact ih)⟩
      · by_cases cd : d + x.v > 420
        · exact ⟨k + 1, start k true (by rw [if_pos ca, if_neg cv, if_pos cd]; exact ih)⟩
        · obtain ⟨l', hl', hp'⟩ := more_path hL d0 h i (by rw [← et]; omega) (by rw [← et]; exact ca)
          rw [← et] at hp'
          rcases profile_ok hL (d := d + x.v) (by omega) (by omega) with ⟨s, K, hK, hB⟩ | ⟨⟨K, hK⟩, hno⟩
          · refine ⟨K + 1, start K true ?_⟩
            have := (hB.2 l' hp').1
            rw [if_pos ca, if_neg cv, if_neg cd, duration (hK K (Nat.le_refl _))]
            simp only [Option.bind_some]
            rw [if_pos trivial, decide_eq_true (by omega)]
          · exact absurd ⟨l', hp'⟩ hno
    · exact ⟨k + 1, start k true (by rw [if_neg ca]; exact ih)⟩
theorem MintimeBound : ∀ (x0 : S32) (a1 : Int), ok32 x0 → (Lit.int .u16 a1).wf = true → ∃ k, ambidexterlaw22_MintimeBound.f k x0.f0 x0.f1 x0.f2 a1 = some true := by
  intro x a hx ha
  obtain ⟨L, eL, hL⟩ := lims hx
  obtain ⟨d, ed, d0, d1⟩ := dist22 ha
  have hb := hL
  unfold ok at hb
  have hz := may_zero hL d0
  rcases profile_ok hL d0 d1 with ⟨l, K, hK, hB⟩ | ⟨⟨K, hK⟩, hno⟩
  · have hlen := best_len hL d0 d1 hB
    have htl := trace_length l zero
    have hs : profile_Simulate.f 0 0 0 l = _ := simulate_path hL d1 (by omega) hz hB.1
    obtain ⟨k0, hk0⟩ := bound_l0 hL d0 d1 (by omega) hB.1 l.length 0 (by omega)
    have hsp := hB.1.speed
    have hnl : ¬ wrap64 ((l.length : Int) * L.v) < d := by
      have h8 : (l.length : Int) * L.v ≤ l.length * 8 := Int.mul_le_mul_of_nonneg_left (by omega) (by omega)
      have h1 : (l.length : Int) * 1 ≤ l.length * L.v := Int.mul_le_mul_of_nonneg_left (by omega) (by omega)
      rw [w64 (by omega) (by omega)]
      have e1 : (goal d).p = d := rfl
      have e2 : zero.p = 0 := rfl
      rw [e1, e2] at hsp
      omega
    refine ⟨max (max 2000 K) (k0 + 1), ?_⟩
    obtain ⟨q, hq⟩ : ∃ q, max (max 2000 K) (k0 + 1) = q + 1 := ⟨max (max 2000 K) (k0 + 1) - 1, by omega⟩
    unfold ambidexterlaw22_MintimeBound.f
    rw [head22 (by omega), eL, ed]
    simp only [Option.bind_some]
    rw [hK _ (by omega)]
    simp only [Option.bind_some]
    rw [if_pos trivial, hs]
    simp only [Option.bind_some, List.length_map]
    rw [if_pos (by omega), decide_eq_false hnl, hq, ambidexterlaw22_MintimeBound.j0, if_neg (by decide)]
    exact at_rounds (fun k' => (ambidexterlaw22_MintimeBound.mono_l k').2 _ _ _ _ _ _ _ _) (show k0 ≤ q by omega) hk0
  · have hd : d = 1 := by
      by_cases c : d = 1
      · exact c
      · exact absurd (path_exists L d hL d0 (fun e => absurd e c)) hno
    refine ⟨max 2000 K, ?_⟩
    unfold ambidexterlaw22_MintimeBound.f
    rw [head22 (by omega), eL, ed]
    simp only [Option.bind_some]
    rw [hK _ (by omega)]
    simp only [Option.bind_some]
    rw [if_neg (by decide), if_pos trivial, hd]
    rfl
end Go.Proofs.Ytjcefdockfbnaaa.Pure
