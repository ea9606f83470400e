/- The mirrored profile, from the mirrored state. -/
import Derived.Test.YtehibiikdlgneaaXLaw21
import Derived.Test.YtehibiikdlgneaaP9
namespace Go.Proofs.Ytehibiikdlgneaa.Pure
set_option linter.unusedSimpArgs false
set_option linter.unusedVariables false
open Go.RowKit Go.Proofs.Ytehibiikdlgneaa.P Go.Proofs.YtehibiikdlgneaaW.PrintWords Go.Proofs.YtehibiikdlgneaaW.PrintLast Go.Proofs.YtehibiikdlgneaaW.PrintMore Go.Proofs.Ytehibiikdlgneaa.Ticks
theorem inB_neg (n m : Int) : inB (-n) m = inB n m := by
  unfold inB
  rw [Bool.eq_iff_iff, decide_eq_true_eq, decide_eq_true_eq]
  omega
theorem rdS_at {l : List S29} {i : Nat} (h : i < l.length) : rd_T29 l (i : Int) = l[i] := by simp [rd_T29, List.getD_eq_getElem?_getD, List.getElem?_eq_getElem h]
theorem neg_sm {p v a : Int} {l : List Int} (h : Sm p v a l) : Sm (-p) (-v) (-a) (l.map (- ·)) := by
  obtain ⟨h1, h2, h3, h4⟩ := h
  refine ⟨fun j hj => ?_, by simp; omega, by simp; omega, by simp; omega⟩
  obtain ⟨i, hi, rfl⟩ := List.mem_map.1 hj
  have := h1 i hi
  omega
theorem mirror_l1 {n : Int} {p v a : Int} {l : List Int} (hl : l.length ≤ 300) (h : Sm p v a l) {x y z : Int} (hL : ambidexterlaw21_Lim.f n = some (x, y, z)) : ∀ (m i : Nat), i + m = l.length →
    ambidexterlaw21_ProfileMirror.l1 (m + 1) n l true (l.map (- ·)) (statesOf (ps p v a l)) (statesOf (ps (-p) (-v) (-a) (l.map (- ·)))) i p v a (-p) (-v) (-a) = some true
  | 0, i, e => by
    rw [ambidexterlaw21_ProfileMirror.l1, if_neg (by simp [statesOf, ps_length]; omega), if_pos rfl, hL]
    simp only [Option.bind_some]
    rw [within_sm h, within_sm (neg_sm h)]
    simp only [Option.bind_some]
    have e : allIn x y z (ps (-p) (-v) (-a) (l.map (- ·))) = allIn x y z (ps p v a l) := by
      rw [ps_neg, allIn, allIn, List.all_map]
      congr 1
      funext q
      simp [inB_neg]
    rw [e, inB_neg, inB_neg]
    simp
  | m + 1, i, e => by
    have hi : i < l.length := by omega
    have h1 : i < (ps p v a l).length := by rw [ps_length]; exact hi
    have h2 : i < (statesOf (ps p v a l)).length := by simp [statesOf, ps_length]; exact hi
    have h3 : i < (statesOf (ps (-p) (-v) (-a) (l.map (- ·)))).length := by simp [statesOf, ps_length]; exact hi
    obtain ⟨b1, b2, b3, b4⟩ := ps_bound h _ (List.getElem_mem h1)
    have e2 : (statesOf (ps p v a l))[i] = ⟨(ps p v a l)[i].2.1, (ps p v a l)[i].2.2.1, (ps p v a l)[i].2.2.2⟩ := by simp [statesOf]
    have e3 : (statesOf (ps (-p) (-v) (-a) (l.map (- ·))))[i] = ⟨-(ps p v a l)[i].2.1, -(ps p v a l)[i].2.2.1, -(ps p v a l)[i].2.2.2⟩ := by simp only [statesOf, ps_neg, List.map_map, List.getElem_map, Function.comp]
    rw [ambidexterlaw21_ProfileMirror.l1, if_pos (by omega), if_pos (by omega), if_pos (by omega), rdS_at h2, rdS_at h3, e2, e3, wi (by omega) hi]
    dsimp only
    rw [if_pos (by rw [w64 (by omega) (by omega)]), if_pos (by rw [w64 (by omega) (by omega)]), if_pos (by rw [w64 (by omega) (by omega)])]
    exact mirror_l1 hl h hL m (i + 1) (by omega)
theorem mirror_l0 {n : Int} {p v a : Int} {l : List Int} (g : Good l) (h : Sm p v a l) {x y z : Int} (hL : ambidexterlaw21_Lim.f n = some (x, y, z)) : ∀ (m i : Nat), i + m = l.length →
    ambidexterlaw21_ProfileMirror.l0 (m + 1 + (l.length + 2)) n l true ((l.map (- ·)).take i) i p v a (-p) (-v) (-a) = some true
  | 0, i, e => by
    have hl := g.1
    have h0 := mirror_l1 hl h hL l.length 0 (by omega)
    have et : (l.map (- ·)).take i = l.map (- ·) := List.take_of_length_le (by simp; omega)
    rw [show 0 + 1 + (l.length + 2) = l.length + 1 + 1 + 1 by omega, ambidexterlaw21_ProfileMirror.l0, if_neg (by omega), et, sim (by omega), sim (by simp; omega), tr_ps h, tr_ps (neg_sm h)]
    simp only [Option.bind_some]
    rw [if_pos (by simp [statesOf, ps_length]), ambidexterlaw21_ProfileMirror.j1, if_neg (by simp [statesOf, ps_length])]
    exact h0
  | m + 1, i, e => by
    have hl := g.1
    have hi : i < l.length := by omega
    have hj := g.2 _ (List.getElem_mem hi)
    have e1 : (l.map (- ·)).take i ++ [-l[i]] = (l.map (- ·)).take (i + 1) := by
      rw [List.take_add_one, List.getElem?_map, List.getElem?_eq_getElem hi]
      rfl
    rw [show m + 1 + 1 + (l.length + 2) = (m + 1 + (l.length + 2)) + 1 by omega, ambidexterlaw21_ProfileMirror.l0, if_pos (by omega), if_pos (by omega), if_pos (by simp; omega), rd_at hi, w64 (x := -l[i]) (by omega) (by omega), wi (by omega) hi, e1]
    exact mirror_l0 g h hL m (i + 1) (by omega)
theorem ProfileMirror : ∀ (a0 : Int) (a1 : Int) (a2 : Int) (a3 : Int) (l4 : List Int), (Lit.int .u8 a0).wf = true → (Lit.int .i16 a1).wf = true → (Lit.int .i16 a2).wf = true → (Lit.int .i16 a3).wf = true → (l4.length ≤ maxLen ∧ ∀ y0_ ∈ l4, (Lit.int .i64 y0_).wf = true) → ∃ k, ambidexterlaw21_ProfileMirror.f k a0 a1 a2 a3 l4 = some true := by
  rintro n p v a l hn hp hv ha -
  have hn := bounds_u8 hn
  have hp := bounds_i16 hp
  have hv := bounds_i16 hv
  have ha := bounds_i16 ha
  obtain ⟨x, hx, hg⟩ := great l
  refine ⟨980 + 20, ?_⟩
  unfold ambidexterlaw21_ProfileMirror.f
  rw [head21, hx _ (by omega)]
  simp only [Option.bind_some]
  cases x with
  | true => rfl
  | false =>
    have g := hg rfl
    have hl := g.1
    obtain ⟨x, y, z, hL, _⟩ := lim_ hn
    rw [if_neg (by decide), motion hp hv ha]
    simp only [Option.bind_some]
    rw [w64 (x := -p) (by omega) (by omega), w64 (x := -v) (by omega) (by omega), w64 (x := -a) (by omega) (by omega)]
    have := mirror_l0 g (good_sm g hp hv ha) hL l.length 0 (by omega)
    exact at_rounds (fun k' => (ambidexterlaw21_ProfileMirror.mono_l k').1 _ _ _ _ _ _ _ _ _ _ _) (by omega) this
end Go.Proofs.Ytehibiikdlgneaa.Pure
