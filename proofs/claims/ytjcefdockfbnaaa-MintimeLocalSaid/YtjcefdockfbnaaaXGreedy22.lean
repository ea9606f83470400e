/- The way along the labels: a best path. -/
import Derived.Test.YtjcefdockfbnaaaXRun22
import Derived.Test.YtjcefdockfbnaaaP2
namespace Go.Proofs.Ytjcefdockfbnaaa.Pure
set_option linter.unusedSimpArgs false
set_option linter.unusedVariables false
open Go.RowKit Go.Proofs.Ytjcefdockfbnaaa.P Go.Proofs.YtjcefdockfbnaaaW.PrintWords Go.Proofs.YtjcefdockfbnaaaW.PrintLast Go.Proofs.YtjcefdockfbnaaaW.PrintMore Go.Proofs.Ytjcefdockfbnaaa.Motion

theorem Post.exact {L : Lm} {d : Int} {out : List Int} (h : Post L d out) {m : Mo} (hm : may L d m) (hz : lab L out m ≤ lab L out zero) {l : List Int} (hp : Path L d m l (goal d)) : lab L out m ≤ (l.length : Int) + 1 := by
  by_cases c : (l.length : Int) + 2 ≤ lab L out zero
  · exact (h.full l m hm hp (.inl c)).2
  · omega
theorem final_one {L : Lm} (hL : ok L) {d : Int} (d0 : 0 ≤ d) (d1 : d ≤ 420) {m : Mo} (hm : may L d m) {j : Int} (hj : -L.j ≤ j ∧ j ≤ L.j) : profile_Final.f m.p m.v m.a [j] = some ((tick m j).p, (tick m j).v, (tick m j).a) := by
  unfold ok at hL
  unfold may at hm
  rw [profile_Final.f, if_pos (by simp)]
  simp only [Ticks.tr, Ticks.lastOf, List.getLast?_singleton, Option.map_some, Option.getD_some, tick]
  rw [w64 (x := m.a + j) (by omega) (by omega), w64 (x := m.v + (m.a + j)) (by omega) (by omega), w64 (x := m.p + (m.v + (m.a + j))) (by omega) (by omega)]
/-- The best of the ways that are as long. -/
def Least (L : Lm) (d : Int) (m : Mo) (r : List Int) (t : Nat) : Prop := Path L d m r (goal d) ∧ r.length = t ∧ ∀ s, Path L d m s (goal d) → s.length = t → ¬ lexLt s r
theorem greedy {L : Lm} (hL : ok L) {d : Int} (d0 : 0 ≤ d) (d1 : d ≤ 420) {out : List Int} (h : Post L d out) : ∀ (t : Nat) (m : Mo) (acc : List Int), may L d m → lab L out m = (t : Int) + 1 → (t : Int) + 1 ≤ lab L out zero → acc.length + t ≤ 1000000 →
    ∃ k r, mintime_Profile.l0 k out (idx L m) acc L.v L.a L.j L.v L.a L.j d m.p m.v m.a = some (acc ++ r, true) ∧ Least L d m r t := by
  intro t
  induction t with
  | zero =>
    intro m acc hm e _ _
    obtain ⟨r0, r1, r2⟩ := idx_range hL d0 d1 hm
    have hlen := h.tab.len
    refine ⟨1, [], ?_, h.tab.one m hm (by omega), rfl, fun s _ hs => ?_⟩
    · rw [mintime_Profile.l0, if_pos r0, if_pos (by omega), rd_idx, if_neg (by omega), List.append_nil]
    · cases s with
      | nil => exact fun x => x
      | cons a s => simp at hs
  | succ t IH =>
    intro m acc hm e hz hacc
    have hb := hL
    unfold ok at hb
    obtain ⟨r0, r1, r2⟩ := idx_range hL d0 d1 hm
    have hlen := h.tab.len
    have scan : ∀ (r : Nat) (j : Int), j + r = L.j + 1 → -L.j ≤ j → (∀ i, -L.j ≤ i → i < j → ¬ (may L d (tick m i) ∧ lab L out (tick m i) = (t : Int) + 1)) →
        ∃ k r, mintime_Profile.l1 k out (idx L m) acc j L.v L.a L.j L.v L.a L.j d m.p m.v m.a = some (acc ++ r, true) ∧ Least L d m r (t + 1) := by
      intro r
      induction r with
      | zero =>
        intro j hj _ hno
        obtain ⟨i, i0, i1, hm', e'⟩ := h.tab.step m hm (by omega)
        exact absurd ⟨hm', by omega⟩ (hno i i0 (by omega))
      | succ r ih =>
        intro j hj hj0 hno
        have hj1 : j ≤ L.j := by omega
        by_cases good : may L d (tick m j) ∧ lab L out (tick m j) = (t : Int) + 1
        · obtain ⟨hm', e'⟩ := good
          obtain ⟨s0, s1, s2⟩ := idx_range hL d0 d1 hm'
          obtain ⟨k, res, hk, hp, hl, hbest⟩ := IH (tick m j) (acc ++ [j]) hm' e' (by omega) (by simp; omega)
          refine ⟨k + 1, j :: res, ?_, ⟨hj0, hj1, hm', hp⟩, by simp [hl], fun s hs hsl => ?_⟩
          · rw [mintime_Profile.l1, if_pos hj1, final_one hL d0 d1 hm ⟨hj0, hj1⟩]
            simp only [Option.bind_some]
            rw [of_at hL d0 d1, if_pos hm']
            simp only [Option.bind_some]
            rw [if_pos trivial, if_pos s0, if_pos (by omega), if_pos r0, if_pos (by omega), rd_idx, rd_idx, if_pos (by rw [e, e', w64 (by omega) (by omega)]; omega), if_pos (by omega), hk, List.append_assoc]
            rfl
          · cases s with
            | nil => simp at hsl
            | cons i s =>
              obtain ⟨i0, i1, hmi, hps⟩ := hs
              simp only [List.length_cons, Nat.add_right_cancel_iff] at hsl
              have hf := h.full s (tick m i) hmi hps (.inl (by omega))
              have hge : (t : Int) + 1 ≤ lab L out (tick m i) := by
                by_cases c : (t : Int) + 1 ≤ lab L out (tick m i)
                · exact c
                · obtain ⟨n, hn⟩ : ∃ n : Nat, lab L out (tick m i) = (n : Int) + 1 := ⟨(lab L out (tick m i) - 1).toNat, by omega⟩
                  obtain ⟨q, hq, hql⟩ := h.tab.sound n _ hmi hn
                  have hx := h.exact hm (by omega) (l := i :: q) ⟨i0, i1, hmi, hq⟩
                  simp at hx
                  omega
              have hij : ¬ i < j := fun c => hno i i0 c ⟨hmi, by omega⟩
              rintro (c | ⟨c, cl⟩)
              · exact hij c
              · subst c
                exact hbest s hps hsl cl
        · obtain ⟨k, res, hk, hp⟩ := ih (j + 1) (by omega) (by omega) (fun i i0 i1 => by
            by_cases c : i = j
            · subst c
              exact good
            · exact hno i i0 (by omega))
          refine ⟨k + 1, res, ?_, hp⟩
          rw [mintime_Profile.l1, if_pos hj1, final_one hL d0 d1 hm ⟨hj0, hj1⟩]
          simp only [Option.bind_some]
          rw [of_at hL d0 d1]
          by_cases hm' : may L d (tick m j)
          · obtain ⟨s0, s1, s2⟩ := idx_range hL d0 d1 hm'
            rw [if_pos hm']
            simp only [Option.bind_some]
            rw [if_pos trivial, if_pos s0, if_pos (by omega), if_pos r0, if_pos (by omega), rd_idx, rd_idx, if_neg (by rw [e, w64 (by omega) (by omega)]; exact fun c => good ⟨hm', by omega⟩), w64 (x := j + 1) (by omega) (by omega)]
            exact hk
          · rw [if_neg hm']
            simp only [Option.bind_some]
            rw [if_neg (by decide), w64 (x := j + 1) (by omega) (by omega)]
            exact hk
    obtain ⟨r, hr⟩ : ∃ r : Nat, -L.j + (r : Int) = L.j + 1 := ⟨(2 * L.j + 1).toNat, by omega⟩
    obtain ⟨k, res, hk, hp⟩ := scan r (-L.j) hr (Int.le_refl _) (fun i i0 i1 => by omega)
    refine ⟨k + 1, res, ?_, hp⟩
    rw [mintime_Profile.l0, if_pos r0, if_pos (by omega), rd_idx, if_pos (by omega), w64 (x := -L.j) (by omega) (by omega)]
    exact hk
end Go.Proofs.Ytjcefdockfbnaaa.Pure
