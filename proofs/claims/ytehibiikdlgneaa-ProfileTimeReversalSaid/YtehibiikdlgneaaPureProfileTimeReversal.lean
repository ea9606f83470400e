/- A rest-to-rest profile played backwards. -/
import Derived.Test.YtehibiikdlgneaaXLaw21
import Derived.Test.YtehibiikdlgneaaP10
namespace Go.Proofs.Ytehibiikdlgneaa.Pure
set_option linter.unusedSimpArgs false
set_option linter.unusedVariables false
open Go.RowKit Go.Proofs.Ytehibiikdlgneaa.P Go.Proofs.YtehibiikdlgneaaW.PrintWords Go.Proofs.YtehibiikdlgneaaW.PrintLast Go.Proofs.YtehibiikdlgneaaW.PrintMore Go.Proofs.Ytehibiikdlgneaa.Ticks
def neg (l : List Int) : List Int := l.map (- ·)
/-- The profile from rest to rest. -/
def rested (l : List Int) : List Int := (l ++ neg l) ++ neg (l ++ neg l)
theorem rested_l1 {x : List Int} (hl : x.length ≤ 300) (hg : ∀ j ∈ x, -1024 ≤ j ∧ j ≤ 1024) : ∀ (m i : Nat), i + m = x.length → ambidexterlaw21_Rested.l1 (m + 1) x ((neg x).take i) i = some (x ++ neg x)
  | 0, i, e => by
    have et : (neg x).take i = neg x := List.take_of_length_le (by simp [neg]; omega)
    rw [ambidexterlaw21_Rested.l1, if_neg (by omega), et]
    simp only [Option.bind_some, List.length_nil, List.nil_append]
    rw [if_pos (by omega), if_pos (by simp [neg]; omega)]
  | m + 1, i, e => by
    have hi : i < x.length := by omega
    have hj := hg _ (List.getElem_mem hi)
    have e1 : (neg x).take i ++ [-x[i]] = (neg x).take (i + 1) := by
      rw [List.take_add_one, neg, List.getElem?_map, List.getElem?_eq_getElem hi]
      rfl
    rw [ambidexterlaw21_Rested.l1, if_pos (by omega), if_pos (by omega), if_pos (by simp [neg]; omega), rd_at hi, w64 (x := -x[i]) (by omega) (by omega), wi (by omega) hi, e1]
    exact rested_l1 hl hg m (i + 1) (by omega)
theorem rested_l0 {l : List Int} (hl : l.length ≤ 60) (hg : ∀ j ∈ l, -1024 ≤ j ∧ j ≤ 1024) : ∀ (m i : Nat), i + m = l.length → ambidexterlaw21_Rested.l0 (m + 1 + (2 * l.length + 1)) l ((neg l).take i) i = some (rested l)
  | 0, i, e => by
    have et : (neg l).take i = neg l := List.take_of_length_le (by simp [neg]; omega)
    have hx : (l ++ neg l).length = 2 * l.length := by simp [neg]; omega
    have h1 := rested_l1 (x := l ++ neg l) (by omega) (fun j hj => by
      rcases List.mem_append.1 hj with h | h
      · exact hg j h
      · obtain ⟨q, hq, rfl⟩ := List.mem_map.1 h
        have := hg q hq
        omega) (2 * l.length) 0 (by omega)
    rw [show 0 + 1 + (2 * l.length + 1) = (2 * l.length + 1) + 1 by omega, ambidexterlaw21_Rested.l0, if_neg (by omega), et]
    simp only [Option.bind_some, List.length_nil, List.nil_append]
    rw [if_pos (by omega), if_pos (by simp [neg]; omega)]
    exact h1
  | m + 1, i, e => by
    have hi : i < l.length := by omega
    have hj := hg _ (List.getElem_mem hi)
    have e1 : (neg l).take i ++ [-l[i]] = (neg l).take (i + 1) := by
      rw [List.take_add_one, neg, List.getElem?_map, List.getElem?_eq_getElem hi]
      rfl
    rw [show m + 1 + 1 + (2 * l.length + 1) = (m + 1 + (2 * l.length + 1)) + 1 by omega, ambidexterlaw21_Rested.l0, if_pos (by omega), if_pos (by omega), if_pos (by simp [neg]; omega), rd_at hi, w64 (x := -l[i]) (by omega) (by omega), wi (by omega) hi, e1]
    exact rested_l0 hl hg m (i + 1) (by omega)
theorem fin_rest (x : List Int) (p v : Int) (h : fin 0 0 0 x = (p, v, 0)) : ∃ d, fin 0 0 0 (x ++ neg x) = (d, 0, 0) := by
  have h0 := fin_neg x 0 0 0
  rw [h] at h0
  have hs := fin_shift (neg x) 0 0 0 p v 0
  have h0' : fin 0 0 0 (neg x) = (-p, -v, -0) := h0
  rw [h0'] at hs
  simp only [Int.zero_add] at hs
  rw [fin_append, h, hs]
  refine ⟨-p + (p + ((neg x).length : Int) * v + T (neg x).length * 0), ?_⟩
  simp only [Prod.mk.injEq, true_and]
  omega
theorem rested_fin (l : List Int) : ∃ d, fin 0 0 0 (rested l) = (d, 0, 0) := by
  have h : ∃ p v, fin 0 0 0 (l ++ neg l) = (p, v, 0) := by
    have h0 : fin 0 0 0 (neg l) = (-(fin 0 0 0 l).1, -(fin 0 0 0 l).2.1, -(fin 0 0 0 l).2.2) := fin_neg l 0 0 0
    have hs := fin_shift (neg l) 0 0 0 (fin 0 0 0 l).1 (fin 0 0 0 l).2.1 (fin 0 0 0 l).2.2
    rw [h0] at hs
    simp only [Int.zero_add] at hs
    rw [fin_append, hs]
    refine ⟨-(fin 0 0 0 l).1 + ((fin 0 0 0 l).1 + ((neg l).length : Int) * (fin 0 0 0 l).2.1 + T (neg l).length * (fin 0 0 0 l).2.2), -(fin 0 0 0 l).2.1 + ((fin 0 0 0 l).2.1 + ((neg l).length : Int) * (fin 0 0 0 l).2.2), ?_⟩
    simp only [Prod.mk.injEq, true_and]
    omega
  obtain ⟨p, v, h⟩ := h
  exact fin_rest _ p v h
theorem rested_len (l : List Int) : (rested l).length = 4 * l.length := by simp [rested, neg]; omega
theorem rested_mem {l : List Int} (hg : ∀ j ∈ l, -1024 ≤ j ∧ j ≤ 1024) : ∀ j ∈ rested l, -1024 ≤ j ∧ j ≤ 1024 := by
  intro j hj
  simp only [rested, neg, List.mem_append, List.mem_map] at hj
  rcases hj with (h | ⟨q, hq, rfl⟩) | ⟨q, (hq | ⟨r, hr, rfl⟩), rfl⟩
  · exact hg j h
  · have := hg q hq; omega
  · have := hg q hq; omega
  · have := hg r hr; omega
/-- The two profiles keep to the same limits, and end alike. -/
theorem reversed {z : List Int} {d : Int} (h : fin 0 0 0 z = (d, 0, 0)) {x y j : Int} (hx : 1 ≤ x ∧ x ≤ 8 ∧ 1 ≤ y ∧ y ≤ 4 ∧ 1 ≤ j ∧ j ≤ 2) :
    fin 0 0 0 (0 :: z.reverse) = (d, 0, 0) ∧ allIn x y j (ps 0 0 0 (0 :: z.reverse)) = allIn x y j (ps 0 0 0 z) := by
  obtain ⟨h1, h2⟩ := ps_rev d z 0 0 0
  rw [h] at h1 h2
  simp only [Int.mul_zero, Int.sub_zero, Int.add_zero, Int.sub_self, Int.neg_zero] at h1 h2
  refine ⟨by rw [fin]; exact h2, ?_⟩
  have hw := within_rev (fun n => inB n j = true) (fun n => inB n x = true) (fun n => inB n y = true) z 0 0 0
  have ix : inB 0 x = true := by simp [inB]; omega
  have iy : inB 0 y = true := by simp [inB]; omega
  have ij : inB 0 j = true := by simp [inB]; omega
  rw [h] at hw
  simp only [Int.sub_zero, ix, iy, and_true, true_and] at hw
  have e : ps 0 0 0 (0 :: z.reverse) = (0, 0, 0, 0) :: ps 0 0 0 z.reverse := rfl
  rw [e, h1, Bool.eq_iff_iff, allIn, allIn, List.all_cons, List.all_reverse, List.all_map, ix, iy, ij]
  simp only [Bool.and_self, Bool.true_and, List.all_eq_true, Function.comp, Bool.and_eq_true]
  rw [← hw]
  refine forall_congr' fun q => forall_congr' fun hq => ?_
  have e : inB (-q.2.2.2) y = inB q.2.2.2 y := by
    unfold inB
    rw [Bool.eq_iff_iff, decide_eq_true_eq, decide_eq_true_eq]
    omega
  rw [e]
theorem rev_l0 {n : Int} {z : List Int} (hl : z.length ≤ 240) (hg : ∀ j ∈ z, -1024 ≤ j ∧ j ≤ 1024) {d : Int} (h : fin 0 0 0 z = (d, 0, 0)) {x y j : Int} (hx : 1 ≤ x ∧ x ≤ 8 ∧ 1 ≤ y ∧ y ≤ 4 ∧ 1 ≤ j ∧ j ≤ 2) (hL : ambidexterlaw21_Lim.f n = some (x, y, j)) : ∀ (m i : Nat), i + m = z.length →
    ambidexterlaw21_ProfileTimeReversal.l0 (m + 2) n true z (0 :: z.reverse.take i) ((m : Int) - 1) = some true
  | 0, i, e => by
    have et : z.reverse.take i = z.reverse := List.take_of_length_le (by simp; omega)
    obtain ⟨k1, k2⟩ := reversed h hx
    have s1 : Sm 0 0 0 z := ⟨fun q hq => by have := hg q hq; omega, by simp; omega, by simp; omega, by simp; omega⟩
    have s2 : Sm 0 0 0 (0 :: z.reverse) := ⟨fun q hq => by
      rcases List.mem_cons.1 hq with rfl | hq
      · omega
      · have := hg q (by simpa using hq); omega, by simp; omega, by simp; omega, by simp; omega⟩
    rw [ambidexterlaw21_ProfileTimeReversal.l0, if_neg (by omega), et, final_sm s1, final_sm s2, h, k1]
    simp only [Option.bind_some, if_true]
    rw [ambidexterlaw21_ProfileTimeReversal.j2, if_neg (by simp), if_pos rfl, if_pos (by simp), hL]
    simp only [Option.bind_some]
    rw [within_sm s1, within_sm s2, k2]
    simp
  | m + 1, i, e => by
    have hi : i < z.reverse.length := by simp; omega
    have hm : m < z.length := by omega
    have ei : z.reverse[i] = z[m] := by rw [List.getElem_reverse]; congr 1; omega
    have e1 : (0 :: z.reverse.take i) ++ [z[m]] = 0 :: z.reverse.take (i + 1) := by
      rw [List.take_add_one, List.getElem?_eq_getElem hi, ei]
      rfl
    have ec : ((m + 1 : Nat) : Int) - 1 = (m : Int) := by omega
    rw [ambidexterlaw21_ProfileTimeReversal.l0, ec, if_pos (by omega), if_pos (by omega), if_pos (by omega), if_pos (by simp; omega), rd_at hm, e1, w64 (by omega) (by omega)]
    exact rev_l0 hl hg h hx hL m (i + 1) (by omega)
theorem ProfileTimeReversal : ∀ (a0 : Int) (l1 : List Int), (Lit.int .u8 a0).wf = true → (l1.length ≤ maxLen ∧ ∀ y0_ ∈ l1, (Lit.int .i64 y0_).wf = true) → ∃ k, ambidexterlaw21_ProfileTimeReversal.f k a0 l1 = some true := by
  rintro n l hn -
  have hn := bounds_u8 hn
  obtain ⟨b, hb, hg⟩ := great l
  refine ⟨980 + 1 + 20, ?_⟩
  unfold ambidexterlaw21_ProfileTimeReversal.f
  rw [head21, hb _ (by omega)]
  simp only [Option.bind_some]
  cases b with
  | true => rfl
  | false =>
    have g := hg rfl
    rw [if_neg (by decide)]
    simp only [ambidexterlaw21_ProfileTimeReversal.j0]
    by_cases c : l.length ≤ 60
    · obtain ⟨x, y, j, hL, hx⟩ := lim_ hn
      obtain ⟨d, hd⟩ := rested_fin l
      have hr := rested_l0 c g.2 l.length 0 (by omega)
      have hR : ambidexterlaw21_Rested.f 1000 l = some (rested l) := at_rounds (ambidexterlaw21_Rested.mono l) (by omega) hr
      have hlen := rested_len l
      have h0 := rev_l0 (n := n) (z := rested l) (by omega) (rested_mem g.2) hd hx hL (rested l).length 0 (by omega)
      rw [if_neg (by simp; omega), hR]
      simp only [Option.bind_some]
      rw [w64 (by omega) (by omega)]
      exact at_rounds (fun k' => (ambidexterlaw21_ProfileTimeReversal.mono_l k').2.1 _ _ _ _ _) (by omega) h0
    · rw [if_pos (by simp; omega)]
end Go.Proofs.Ytehibiikdlgneaa.Pure
