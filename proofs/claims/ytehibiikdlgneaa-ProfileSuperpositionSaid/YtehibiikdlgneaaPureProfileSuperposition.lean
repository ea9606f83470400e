/- The sum of two profiles, from the sum of two states. -/
import Derived.Test.YtehibiikdlgneaaXLaw21
import Derived.Test.YtehibiikdlgneaaP7
namespace Go.Proofs.Ytehibiikdlgneaa.Pure
set_option linter.unusedSimpArgs false
set_option linter.unusedVariables false
open Go.RowKit Go.Proofs.Ytehibiikdlgneaa.P Go.Proofs.YtehibiikdlgneaaW.PrintWords Go.Proofs.YtehibiikdlgneaaW.PrintLast Go.Proofs.YtehibiikdlgneaaW.PrintMore Go.Proofs.Ytehibiikdlgneaa.Ticks
theorem super_l0 {p v a q u b : Int} {l k : List Int} (gl : Good l) (gk : Good k) (hp : -32768 ≤ p ∧ p ≤ 32767) (hv : -32768 ≤ v ∧ v ≤ 32767) (ha : -32768 ≤ a ∧ a ≤ 32767) (hq : -32768 ≤ q ∧ q ≤ 32767) (hu : -32768 ≤ u ∧ u ≤ 32767) (hb : -32768 ≤ b ∧ b ≤ 32767) {N : Nat} (hN : N = min l.length k.length) : ∀ (m i : Nat), i + m = N →
    ambidexterlaw21_ProfileSuperposition.l0 (m + 1) p v a l q u b k true N ((List.zipWith (· + ·) l k).take i) i = some true
  | 0, i, h => by
    have hl := gl.1
    have hk := gk.1
    obtain rfl : i = N := by omega
    have s1 : Sm p v a (l.take i) := ⟨fun j hj => by have := gl.2 j (List.mem_of_mem_take hj); omega, by simp; omega, by simp; omega, by simp; omega⟩
    have s2 : Sm q u b (k.take i) := ⟨fun j hj => by have := gk.2 j (List.mem_of_mem_take hj); omega, by simp; omega, by simp; omega, by simp; omega⟩
    have hz : (List.zipWith (· + ·) l k).take i = List.zipWith (· + ·) (l.take i) (k.take i) := List.take_zipWith
    have s3 : Sm (p + q) (v + u) (a + b) (List.zipWith (· + ·) (l.take i) (k.take i)) := by
      refine ⟨fun j hj => ?_, by simp; omega, by simp; omega, by simp; omega⟩
      obtain ⟨n, hn⟩ := List.getElem?_of_mem hj
      rw [List.getElem?_zipWith] at hn
      split at hn
      · rename_i x y hx hy
        cases hn
        have h1 := gl.2 _ (List.mem_of_mem_take (List.mem_of_getElem? hx))
        have h2 := gk.2 _ (List.mem_of_mem_take (List.mem_of_getElem? hy))
        omega
      · cases hn
    rw [ambidexterlaw21_ProfileSuperposition.l0, if_neg (by omega), motion hp hv ha, hz]
    simp only [Option.bind_some, Int.toNat_natCast]
    rw [if_pos (by omega), if_pos (by omega), final_sm s1, motion hq hu hb]
    simp only [Option.bind_some]
    rw [if_pos (by omega), final_sm s2, w64 (x := p) (by omega) (by omega), w64 (x := v) (by omega) (by omega), w64 (x := a) (by omega) (by omega), w64 (x := q) (by omega) (by omega), w64 (x := u) (by omega) (by omega), w64 (x := b) (by omega) (by omega), w64 (x := p + q) (by omega) (by omega), w64 (x := v + u) (by omega) (by omega), w64 (x := a + b) (by omega) (by omega), final_sm s3]
    obtain ⟨b1, b2, b3⟩ := fin_bound s1
    obtain ⟨c1, c2, c3⟩ := fin_bound s2
    have e := fin_add (l.take i) (k.take i) p v a q u b (by simp; omega)
    simp only [Option.bind_some]
    rw [e, w64 (by omega) (by omega), w64 (by omega) (by omega), w64 (by omega) (by omega)]
    simp
  | m + 1, i, h => by
    have hl := gl.1
    have hk := gk.1
    have h1 : i < l.length := by omega
    have h2 : i < k.length := by omega
    have h3 : i < (List.zipWith (· + ·) l k).length := by simp; omega
    have j1 := gl.2 _ (List.getElem_mem h1)
    have j2 := gk.2 _ (List.getElem_mem h2)
    rw [ambidexterlaw21_ProfileSuperposition.l0, if_pos (by omega), if_pos (by omega), if_pos (by omega), if_pos (by omega), if_pos (by simp; omega), rd_at h1, rd_at h2, w64 (x := l[i] + k[i]) (by omega) (by omega), wi (by omega) h1]
    have e : (List.zipWith (· + ·) l k).take i ++ [l[i] + k[i]] = (List.zipWith (· + ·) l k).take (i + 1) := by
      rw [List.take_add_one, List.getElem?_eq_getElem h3]
      simp
    rw [e]
    exact super_l0 gl gk hp hv ha hq hu hb hN m (i + 1) (by omega)
theorem ProfileSuperposition : ∀ (a0 : Int) (a1 : Int) (a2 : Int) (l3 : List Int) (a4 : Int) (a5 : Int) (a6 : Int) (l7 : List Int), (Lit.int .i16 a0).wf = true → (Lit.int .i16 a1).wf = true → (Lit.int .i16 a2).wf = true → (l3.length ≤ maxLen ∧ ∀ y0_ ∈ l3, (Lit.int .i64 y0_).wf = true) → (Lit.int .i16 a4).wf = true → (Lit.int .i16 a5).wf = true → (Lit.int .i16 a6).wf = true → (l7.length ≤ maxLen ∧ ∀ y0_ ∈ l7, (Lit.int .i64 y0_).wf = true) → ∃ k, ambidexterlaw21_ProfileSuperposition.f k a0 a1 a2 l3 a4 a5 a6 l7 = some true := by
  rintro p v a l q u b k hp hv ha - hq hu hb -
  have hp := bounds_i16 hp
  have hv := bounds_i16 hv
  have ha := bounds_i16 ha
  have hq := bounds_i16 hq
  have hu := bounds_i16 hu
  have hb := bounds_i16 hb
  obtain ⟨x, hx, hg⟩ := great l
  obtain ⟨y, hy, hh⟩ := great k
  have hf : ∀ n, x = false → y = false → 400 ≤ n → ambidexterlaw21_ProfileSuperposition.l0 n p v a l q u b k true (mn (l.length : Int) (k.length : Int)) ([] : List Int) 0 = some true := fun n e1 e2 hn => by
    have g := hg e1
    have g' := hh e2
    have e : mn (l.length : Int) (k.length : Int) = ((min l.length k.length : Nat) : Int) := by unfold mn; split <;> omega
    rw [e]
    have := super_l0 g g' hp hv ha hq hu hb rfl (min l.length k.length) 0 (by omega)
    have hl := g.1
    exact at_rounds (fun k' => (ambidexterlaw21_ProfileSuperposition.mono_l k').2 _ _ _ _ _ _ _ _ _ _ _ _) (by omega) this
  refine ⟨980 + 1 + 20, ?_⟩
  unfold ambidexterlaw21_ProfileSuperposition.f
  rw [head21, hx _ (by omega), hy _ (by omega)]
  simp only [Option.bind_some]
  cases x with
  | true => rfl
  | false =>
    cases y with
    | true => rfl
    | false =>
      rw [if_neg (by decide)]
      simp only [ambidexterlaw21_ProfileSuperposition.j0]
      rw [if_neg (by decide)]
      exact hf _ rfl rfl (by omega)
end Go.Proofs.Ytehibiikdlgneaa.Pure
