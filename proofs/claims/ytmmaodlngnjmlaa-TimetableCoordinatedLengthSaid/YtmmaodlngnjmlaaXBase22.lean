/- The search backwards ends, and its table is right. The way along the labels: a best path. Profile gives the best path, or tells that there is none. -/
import Derived.Test.YtmmaodlngnjmlaaXLeft22
import Derived.Test.YtmmaodlngnjmlaaP3
namespace Go.Proofs.Ytmmaodlngnjmlaa.Pure
set_option linter.unusedSimpArgs false
set_option linter.unusedVariables false
open Go.RowKit Go.Proofs.Ytmmaodlngnjmlaa.P Go.Proofs.YtmmaodlngnjmlaaW.PrintWords Go.Proofs.YtmmaodlngnjmlaaW.PrintLast Go.Proofs.YtmmaodlngnjmlaaW.PrintMore Go.Proofs.Ytmmaodlngnjmlaa.Motion

theorem rd_idx {L : Lm} (out : List Int) (m : Mo) : rd out (idx L m) = lab L out m := rfl
theorem of_at {L : Lm} (h : ok L) {d : Int} (h0 : 0 ≤ d) (h1 : d ≤ 420) (m : Mo) : mintime_space_of.f L.v L.a L.j d m.p m.v m.a = some (if may L d m then (idx L m, true) else (0, false)) := of_eq h h0 h1 m.p m.v m.a
theorem left_in {L : Lm} (hL : ok L) {d : Int} (d0 : 0 ≤ d) (d1 : d ≤ 420) {N : Nat} (hNb : N ≤ 100000)
    (IH : ∀ (out : List Int) (row : List S33) (n : Int), Tab L d out → Que L d out (row.map mo) n → out.count 0 + row.length = N → ∃ k res, mintime_space_left.l0 k out row L.v L.a L.j d = some res ∧ Post L d res) :
    ∀ (r : Nat) (out : List Int) (row : List S33) (n : Int) (x : S33) (j : Int), Tab L d out → QueIn L d out (row.map mo) n (mo x) j → j + r = L.j + 1 → -L.j ≤ j → out.count 0 + row.length = N →
      ∃ k res, mintime_space_left.l1 k out row (idx L (mo x)) j L.v L.a L.j d x.f0 x.f1 x.f2 = some res ∧ Post L d res
  | 0, out, row, n, x, j, h, q, hr, hj, hN => by
    obtain ⟨n', q'⟩ := q.done (by omega)
    obtain ⟨k, res, hk, hp⟩ := IH out row n' h q' hN
    exact ⟨k + 1, res, by rw [mintime_space_left.l1, if_neg (by omega)]; exact hk, hp⟩
  | r + 1, out, row, n, x, j, h, q, hr, hj, hN => by
    have hb := hL
    unfold ok at hb
    have hj1 : j ≤ L.j := by omega
    have hw : wrap64 (j + 1) = j + 1 := w64 (by omega) (by omega)
    have ha := ahead_eq hL d1 q.may0 ⟨hj, hj1⟩
    obtain ⟨r0, r1, r2⟩ := idx_range hL d0 d1 q.may0
    have hlen := h.len
    by_cases hm : may L d (ahead (mo x) j)
    · obtain ⟨s0, s1, _⟩ := idx_range hL d0 d1 hm
      have hnn := lab_nn hL d0 d1 h hm
      by_cases hl : 0 < lab L out (ahead (mo x) j)
      · have q' : QueIn L d out (row.map mo) n (mo x) (j + 1) := ⟨q.pos, q.may0, q.lab0, q.split, q.top, q.rest, fun i i0 i1 i2 hi => by
          by_cases c : i = j
          · subst c
            exact ⟨hl, q.top _ hm⟩
          · exact q.part i i0 i1 (by omega) hi⟩
        obtain ⟨k, res, hk, hp⟩ := left_in hL d0 d1 hNb IH r out row n x (j + 1) h q' (by omega) (by omega) hN
        refine ⟨k + 1 + 1, res, ?_, hp⟩
        rw [mintime_space_left.l1, if_pos hj1]
        have ha' : mintime_ahead.f x.f0 x.f1 x.f2 j = some ((ahead (mo x) j).p, (ahead (mo x) j).v, (ahead (mo x) j).a) := ha
        rw [ha']
        simp only [Option.bind_some]
        rw [of_at hL d0 d1, if_pos hm]
        simp only [Option.bind_some]
        rw [if_pos trivial, if_pos (show 0 ≤ idx L (ahead (mo x) j) from s0), if_pos (show idx L (ahead (mo x) j) < (out.length : Int) by omega)]
        rw [mintime_space_left.j2, if_pos (show decide (rd out (idx L (ahead (mo x) j)) > 0) = true from decide_eq_true hl), hw]
        exact hk
      · have ew : lab L out (ahead (mo x) j) = 0 := by omega
        obtain ⟨h', _, hnew, hset, hc⟩ := tab_set hL d0 d1 h q.may0 hm q.pos q.lab0 ew hj hj1 (tick_ahead (mo x) j)
        have q' := que_set hL d0 d1 h q hj hj1 hm ew
        have hn0 := lab_nn hL d0 d1 h q.may0
        have hn1 : lab L out (mo x) = n := q.lab0
        have hlen2 : (out.length : Int) ≤ 70000 := by omega
        have hz : may L d zero := by
          unfold may zero
          dsimp only
          omega
        have step : ∀ k res, (if ((ahead (mo x) j).p == 0 && ((ahead (mo x) j).v == 0 && ((ahead (mo x) j).a == 0))) = true then some (out.set (idx L (ahead (mo x) j)).toNat (n + 1)) else if row.length < 5864062014805 then mintime_space_left.l1 k (out.set (idx L (ahead (mo x) j)).toNat (n + 1)) (row ++ [⟨(ahead (mo x) j).p, (ahead (mo x) j).v, (ahead (mo x) j).a⟩]) (idx L (mo x)) (j + 1) L.v L.a L.j d x.f0 x.f1 x.f2 else none) = some res →
            mintime_space_left.l1 (k + 1 + 1) out row (idx L (mo x)) j L.v L.a L.j d x.f0 x.f1 x.f2 = some res := by
          intro k res hk
          rw [mintime_space_left.l1, if_pos hj1]
          have ha' : mintime_ahead.f x.f0 x.f1 x.f2 j = some ((ahead (mo x) j).p, (ahead (mo x) j).v, (ahead (mo x) j).a) := ha
          rw [ha']
          simp only [Option.bind_some]
          rw [of_at hL d0 d1, if_pos hm]
          simp only [Option.bind_some]
          rw [if_pos trivial, if_pos (show 0 ≤ idx L (ahead (mo x) j) from s0), if_pos (show idx L (ahead (mo x) j) < (out.length : Int) by omega)]
          rw [mintime_space_left.j2, if_neg (by rw [rd_idx]; simpa using hl), if_pos r0, if_pos (by omega), if_pos (show 0 ≤ idx L (ahead (mo x) j) from s0), if_pos (show idx L (ahead (mo x) j) < (out.length : Int) by omega)]
          rw [rd_idx out (mo x), hn1, w64 (x := n + 1) (by omega) (by omega), hw]
          exact hk
        by_cases cz : ahead (mo x) j = zero
        · refine ⟨0 + 1 + 1, _, step 0 _ (if_pos ?_), ⟨h', fun l m hm' hp hl' => ?_⟩⟩
          · rw [cz]; rfl
          · rw [cz] at hnew
            rw [← cz] at hnew
            have hzl : lab L (out.set (idx L (ahead (mo x) j)).toNat (n + 1)) zero = n + 1 := by rw [← cz]; exact hnew
            rw [hzl] at hl'
            have hpos := q.pos
            obtain ⟨a, b⟩ := q.full h l m hm' hp (by omega)
            rw [hset m hm', if_neg (fun e => by rw [e] at a; omega)]
            exact ⟨a, b⟩
        · have hrl : row.length < 5864062014805 ∨ ¬ row.length < 5864062014805 := Decidable.em _
          have hcount : out.count 0 ≤ out.length := List.count_le_length
          have hN' : (out.set (idx L (ahead (mo x) j)).toNat (n + 1)).count 0 + (row ++ [(⟨(ahead (mo x) j).p, (ahead (mo x) j).v, (ahead (mo x) j).a⟩ : S33)]).length = N := by simp; omega
          have q'' : QueIn L d (out.set (idx L (ahead (mo x) j)).toNat (n + 1)) ((row ++ [(⟨(ahead (mo x) j).p, (ahead (mo x) j).v, (ahead (mo x) j).a⟩ : S33)]).map mo) n (mo x) (j + 1) := by
            rw [List.map_append]
            exact q'
          obtain ⟨k, res, hk, hp⟩ := left_in hL d0 d1 hNb IH r _ _ n x (j + 1) h' q'' (by omega) (by omega) hN'
          rcases hrl with hrl | hrl
          · refine ⟨k + 1 + 1, res, step k res ?_, hp⟩
            rw [if_neg, if_pos hrl]
            · exact hk
            · intro e
              apply cz
              simp only [Bool.and_eq_true, beq_iff_eq] at e
              obtain ⟨e1, e2, e3⟩ := e
              cases hx : ahead (mo x) j with
              | mk p v a =>
                rw [hx] at e1 e2 e3
                dsimp only at e1 e2 e3
                rw [e1, e2, e3]
                rfl
          · omega
    · have q' : QueIn L d out (row.map mo) n (mo x) (j + 1) := ⟨q.pos, q.may0, q.lab0, q.split, q.top, q.rest, fun i i0 i1 i2 hi => by
        by_cases c : i = j
        · subst c
          exact absurd hi hm
        · exact q.part i i0 i1 (by omega) hi⟩
      obtain ⟨k, res, hk, hp⟩ := left_in hL d0 d1 hNb IH r out row n x (j + 1) h q' (by omega) (by omega) hN
      refine ⟨k + 1 + 1, res, ?_, hp⟩
      rw [mintime_space_left.l1, if_pos hj1]
      have ha' : mintime_ahead.f x.f0 x.f1 x.f2 j = some ((ahead (mo x) j).p, (ahead (mo x) j).v, (ahead (mo x) j).a) := ha
      rw [ha']
      simp only [Option.bind_some]
      rw [of_at hL d0 d1, if_neg hm]
      simp only [Option.bind_some]
      rw [if_neg (by decide), mintime_space_left.j2, if_pos rfl, hw]
      exact hk
theorem left_run {L : Lm} (hL : ok L) {d : Int} (d0 : 0 ≤ d) (d1 : d ≤ 420) : ∀ (N : Nat), N ≤ 100000 → ∀ (out : List Int) (row : List S33) (n : Int), Tab L d out → Que L d out (row.map mo) n → out.count 0 + row.length = N → ∃ k res, mintime_space_left.l0 k out row L.v L.a L.j d = some res ∧ Post L d res := by
  intro N
  induction N with
  | zero =>
    intro _ out row n h q hN
    cases row with
    | cons x row => simp at hN
    | nil => exact ⟨1, out, by rw [mintime_space_left.l0, if_neg (by simp)], h, fun l m hm hp _ => q.full h l m hm hp⟩
  | succ N IH =>
    intro hNb out row n h q hN
    cases row with
    | nil => exact ⟨1, out, by rw [mintime_space_left.l0, if_neg (by simp)], h, fun l m hm hp _ => q.full h l m hm hp⟩
    | cons x row =>
      have hb := hL
      unfold ok at hb
      have q' : QueIn L d out (row.map mo) n (mo x) (-L.j) := Que.pop q
      obtain ⟨r, hr⟩ : ∃ r : Nat, -L.j + (r : Int) = L.j + 1 := ⟨(2 * L.j + 1).toNat, by omega⟩
      obtain ⟨k, res, hk, hp⟩ := left_in hL d0 d1 (by omega) (fun out row n h q hN => IH (by omega) out row n h q hN) r out row n x (-L.j) h q' hr (Int.le_refl _) (by simp at hN; omega)
      refine ⟨k + 1, res, ?_, hp⟩
      have e0 : rd_T33 (x :: row) 0 = x := rfl
      have e1 := of_at hL d0 d1 (mo x)
      rw [if_pos q'.may0] at e1
      have e1' : mintime_space_of.f L.v L.a L.j d x.f0 x.f1 x.f2 = some (idx L (mo x), true) := e1
      rw [mintime_space_left.l0, if_pos (by simp), if_pos (by simp), if_pos (by simp; omega), e0, e1', w64 (x := -L.j) (by omega) (by omega)]
      exact hk
/-- The table: for every distance and all limits. -/
theorem left_ok {L : Lm} (hL : ok L) {d : Int} (d0 : 0 ≤ d) (d1 : d ≤ 420) : ∃ k res, mintime_space_left.f k L.v L.a L.j d = some res ∧ Post L d res := by
  have hb := hL
  unfold ok at hb
  have hg : may L d (goal d) := by
    simp only [may, goal]
    omega
  obtain ⟨r0, r1, r2⟩ := idx_range hL d0 d1 hg
  obtain ⟨M, hM⟩ : ∃ M : Nat, (M : Int) = many L d := ⟨(many L d).toNat, by omega⟩
  have hlen : (((List.replicate M (0 : Int)).set (idx L (goal d)).toNat 1).length : Int) = many L d := by simp; exact hM
  have hlab : ∀ m, may L d m → lab L ((List.replicate M (0 : Int)).set (idx L (goal d)).toNat 1) m = if m = goal d then 1 else 0 := fun m hm => by
    rw [lab_set hL d0 d1 (by simp; exact hM) hm hg]
    split
    · rfl
    · obtain ⟨hi, e⟩ := lab_at hL d0 d1 (out := List.replicate M (0 : Int)) (by simp; exact hM) hm
      rw [e]
      simp
  have hcount : ((List.replicate M (0 : Int)).set (idx L (goal d)).toNat 1).count 0 + 1 = M := by
    have hi : (idx L (goal d)).toNat < (List.replicate M (0 : Int)).length := by simp; omega
    rw [List.count_set hi]
    simp
    omega
  have tab : Tab L d ((List.replicate M (0 : Int)).set (idx L (goal d)).toNat 1) := by
    refine ⟨hlen, fun x hx => ?_, by rw [hlab _ hg, if_pos rfl], fun m hm e => ?_, fun m hm hp => ?_⟩
    · have hl : ((List.replicate M (0 : Int)).set (idx L (goal d)).toNat 1).length = M := by simp
      rw [hl]
      rcases List.mem_or_eq_of_mem_set hx with hx | rfl
      · have := (List.mem_replicate.1 hx).2
        omega
      · omega
    · rw [hlab m hm] at e
      by_cases c : m = goal d
      · exact c
      · rw [if_neg c] at e; omega
    · rw [hlab m hm] at hp
      split at hp <;> omega
  have que : Que L d ((List.replicate M (0 : Int)).set (idx L (goal d)).toNat 1) ([(⟨d, 0, 0⟩ : S33)].map mo) 1 := by
    refine ⟨Int.le_refl _, ⟨[goal d], [], rfl, fun m hm => ?_, fun m hm => by simp at hm, fun _ => rfl⟩, fun m hm => ?_, fun m hm hp => ?_⟩
    · obtain rfl : m = goal d := by simpa using hm
      exact ⟨hg, by rw [hlab _ hg, if_pos rfl]⟩
    · rw [hlab m hm]
      split <;> omega
    · rw [hlab m hm] at hp
      by_cases c : m = goal d
      · subst c
        exact .inl (by simp [mo, goal])
      · rw [if_neg c] at hp; omega
  obtain ⟨k, res, hk, hp⟩ := left_run hL d0 d1 M (by omega) _ _ 1 tab que (by simpa using hcount)
  refine ⟨k, res, ?_, hp⟩
  have e1 := of_at hL d0 d1 (goal d)
  rw [if_pos hg] at e1
  have e1' : mintime_space_of.f L.v L.a L.j d d 0 0 = some (idx L (goal d), true) := e1
  have hMt : (many L d).toNat = M := by omega
  rw [mintime_space_left.f, many_eq hL d0 d1]
  simp only [Option.bind_some]
  rw [if_pos (by omega), if_pos (by omega), e1', hMt]
  simp only [Option.bind_some, List.length_replicate]
  rw [if_pos r0, if_pos (by omega)]
  exact hk
end Go.Proofs.Ytmmaodlngnjmlaa.Pure
namespace Go.Proofs.Ytmmaodlngnjmlaa.Pure
set_option linter.unusedSimpArgs false
set_option linter.unusedVariables false
open Go.RowKit Go.Proofs.Ytmmaodlngnjmlaa.P Go.Proofs.YtmmaodlngnjmlaaW.PrintWords Go.Proofs.YtmmaodlngnjmlaaW.PrintLast Go.Proofs.YtmmaodlngnjmlaaW.PrintMore Go.Proofs.Ytmmaodlngnjmlaa.Motion

theorem Post.exact {L : Lm} {d : Int} {out : List Int} (h : Post L d out) {m : Mo} (hm : may L d m) (hz : lab L out m ≤ lab L out zero) {l : List Int} (hp : Path L d m l (goal d)) : lab L out m ≤ (l.length : Int) + 1 := by
  by_cases c : (l.length : Int) + 2 ≤ lab L out zero
  · exact (h.full l m hm hp (.inl c)).2
  · omega
theorem final_one {L : Lm} (hL : ok L) {d : Int} (d0 : 0 ≤ d) (d1 : d ≤ 420) {m : Mo} (hm : may L d m) {j : Int} (hj : -L.j ≤ j ∧ j ≤ L.j) : profile_Final.f m.p m.v m.a [j] = some ((tick m j).p, (tick m j).v, (tick m j).a) := by
  unfold ok at hL
  unfold may at hm
  rw [profile_Final.f, if_pos (by simp)]
  simp only [Ticks.tr, Ticks.lastOf, List.getLast?_singleton, Option.map_some, Option.getD_some, tick]
  rw [w64 (x := m.a + j) (by omega) (by omega), w64 (x := m.v + (m.a + j)) (by omega) (by omega), w64 (x := m.p + (m.v + (m.a + j))) (by omega) (by omega)]
/-- The best of the ways that are as long. -/
def Least (L : Lm) (d : Int) (m : Mo) (r : List Int) (t : Nat) : Prop := Path L d m r (goal d) ∧ r.length = t ∧ ∀ s, Path L d m s (goal d) → s.length = t → ¬ lexLt s r
theorem greedy {L : Lm} (hL : ok L) {d : Int} (d0 : 0 ≤ d) (d1 : d ≤ 420) {out : List Int} (h : Post L d out) : ∀ (t : Nat) (m : Mo) (acc : List Int), may L d m → lab L out m = (t : Int) + 1 → (t : Int) + 1 ≤ lab L out zero → acc.length + t ≤ 1000000 →
    ∃ k r, mintime_Profile.l0 k out (idx L m) acc L.v L.a L.j L.v L.a L.j d m.p m.v m.a = some (acc ++ r, true) ∧ Least L d m r t := by
  intro t
  induction t with
  | zero =>
    intro m acc hm e _ _
    obtain ⟨r0, r1, r2⟩ := idx_range hL d0 d1 hm
    have hlen := h.tab.len
    refine ⟨1, [], ?_, h.tab.one m hm (by omega), rfl, fun s _ hs => ?_⟩
    · rw [mintime_Profile.l0, if_pos r0, if_pos (by omega), rd_idx, if_neg (by omega), List.append_nil]
    · cases s with
      | nil => exact fun x => x
      | cons a s => simp at hs
  | succ t IH =>
    intro m acc hm e hz hacc
    have hb := hL
    unfold ok at hb
    obtain ⟨r0, r1, r2⟩ := idx_range hL d0 d1 hm
    have hlen := h.tab.len
    have scan : ∀ (r : Nat) (j : Int), j + r = L.j + 1 → -L.j ≤ j → (∀ i, -L.j ≤ i → i < j → ¬ (may L d (tick m i) ∧ lab L out (tick m i) = (t : Int) + 1)) →
        ∃ k r, mintime_Profile.l1 k out (idx L m) acc j L.v L.a L.j L.v L.a L.j d m.p m.v m.a = some (acc ++ r, true) ∧ Least L d m r (t + 1) := by
      intro r
      induction r with
      | zero =>
        intro j hj _ hno
        obtain ⟨i, i0, i1, hm', e'⟩ := h.tab.step m hm (by omega)
        exact absurd ⟨hm', by omega⟩ (hno i i0 (by omega))
      | succ r ih =>
        intro j hj hj0 hno
        have hj1 : j ≤ L.j := by omega
        by_cases good : may L d (tick m j) ∧ lab L out (tick m j) = (t : Int) + 1
        · obtain ⟨hm', e'⟩ := good
          obtain ⟨s0, s1, s2⟩ := idx_range hL d0 d1 hm'
          obtain ⟨k, res, hk, hp, hl, hbest⟩ := IH (tick m j) (acc ++ [j]) hm' e' (by omega) (by simp; omega)
          refine ⟨k + 1, j :: res, ?_, ⟨hj0, hj1, hm', hp⟩, by simp [hl], fun s hs hsl => ?_⟩
          · rw [mintime_Profile.l1, if_pos hj1, final_one hL d0 d1 hm ⟨hj0, hj1⟩]
            simp only [Option.bind_some]
            rw [of_at hL d0 d1, if_pos hm']
            simp only [Option.bind_some]
            rw [if_pos trivial, if_pos s0, if_pos (by omega), if_pos r0, if_pos (by omega), rd_idx, rd_idx, if_pos (by rw [e, e', w64 (by omega) (by omega)]; omega), if_pos (by omega), hk, List.append_assoc]
            rfl
          · cases s with
            | nil => simp at hsl
            | cons i s =>
              obtain ⟨i0, i1, hmi, hps⟩ := hs
              simp only [List.length_cons, Nat.add_right_cancel_iff] at hsl
              have hf := h.full s (tick m i) hmi hps (.inl (by omega))
              have hge : (t : Int) + 1 ≤ lab L out (tick m i) := by
                by_cases c : (t : Int) + 1 ≤ lab L out (tick m i)
                · exact c
                · obtain ⟨n, hn⟩ : ∃ n : Nat, lab L out (tick m i) = (n : Int) + 1 := ⟨(lab L out (tick m i) - 1).toNat, by omega⟩
                  obtain ⟨q, hq, hql⟩ := h.tab.sound n _ hmi hn
                  have hx := h.exact hm (by omega) (l := i :: q) ⟨i0, i1, hmi, hq⟩
                  simp at hx
                  omega
              have hij : ¬ i < j := fun c => hno i i0 c ⟨hmi, by omega⟩
              rintro (c | ⟨c, cl⟩)
              · exact hij c
              · subst c
                exact hbest s hps hsl cl
        · obtain ⟨k, res, hk, hp⟩ := ih (j + 1) (by omega) (by omega) (fun i i0 i1 => by
            by_cases c : i = j
            · subst c
              exact good
            · exact hno i i0 (by omega))
          refine ⟨k + 1, res, ?_, hp⟩
          rw [mintime_Profile.l1, if_pos hj1, final_one hL d0 d1 hm ⟨hj0, hj1⟩]
          simp only [Option.bind_some]
          rw [of_at hL d0 d1]
          by_cases hm' : may L d (tick m j)
          · obtain ⟨s0, s1, s2⟩ := idx_range hL d0 d1 hm'
            rw [if_pos hm']
            simp only [Option.bind_some]
            rw [if_pos trivial, if_pos s0, if_pos (by omega), if_pos r0, if_pos (by omega), rd_idx, rd_idx, if_neg (by rw [e, w64 (by omega) (by omega)]; exact fun c => good ⟨hm', by omega⟩), w64 (x := j + 1) (by omega) (by omega)]
            exact hk
          · rw [if_neg hm']
            simp only [Option.bind_some]
            rw [if_neg (by decide), w64 (x := j + 1) (by omega) (by omega)]
            exact hk
    obtain ⟨r, hr⟩ : ∃ r : Nat, -L.j + (r : Int) = L.j + 1 := ⟨(2 * L.j + 1).toNat, by omega⟩
    obtain ⟨k, res, hk, hp⟩ := scan r (-L.j) hr (Int.le_refl _) (fun i i0 i1 => by omega)
    refine ⟨k + 1, res, ?_, hp⟩
    rw [mintime_Profile.l0, if_pos r0, if_pos (by omega), rd_idx, if_pos (by omega), w64 (x := -L.j) (by omega) (by omega)]
    exact hk
end Go.Proofs.Ytmmaodlngnjmlaa.Pure
namespace Go.Proofs.Ytmmaodlngnjmlaa.Pure
set_option linter.unusedSimpArgs false
set_option linter.unusedVariables false
open Go.RowKit Go.Proofs.Ytmmaodlngnjmlaa.P Go.Proofs.YtmmaodlngnjmlaaW.PrintWords Go.Proofs.YtmmaodlngnjmlaaW.PrintLast Go.Proofs.YtmmaodlngnjmlaaW.PrintMore Go.Proofs.Ytmmaodlngnjmlaa.Motion

theorem valid_ok {L : Lm} (hL : ok L) : profile_ValidLimits.f L.v L.a L.j = some true := by
  unfold profile_ValidLimits.f
  unfold ok at hL
  rw [decide_eq_true hL]
theorem profile_ok {L : Lm} (hL : ok L) {d : Int} (d0 : 0 ≤ d) (d1 : d ≤ 420) :
    (∃ l K, (∀ k, K ≤ k → mintime_Profile.f k L.v L.a L.j d = some (l, true)) ∧ Best L d l) ∨ ((∃ K, ∀ k, K ≤ k → mintime_Profile.f k L.v L.a L.j d = some ([], false)) ∧ ¬ ∃ l, Path L d zero l (goal d)) := by
  obtain ⟨k1, out, hk1, hp⟩ := left_ok hL d0 d1
  have hz : may L d zero := by
    unfold ok at hL
    unfold may zero
    dsimp only
    omega
  obtain ⟨r0, r1, r2⟩ := idx_range hL d0 d1 hz
  have hlen := hp.tab.len
  have hnn := lab_nn hL d0 d1 hp.tab hz
  have e1 := of_at hL d0 d1 zero
  rw [if_pos hz] at e1
  have e1' : mintime_space_of.f L.v L.a L.j d 0 0 0 = some (idx L zero, true) := e1
  have hf : ∀ k res, mintime_Profile.j0 k d false L.v L.a L.j = some res → mintime_Profile.f k L.v L.a L.j d = some res := fun k res h => by
    rw [mintime_Profile.f, valid_ok hL]
    simp only [Option.bind_some]
    rw [if_pos trivial, if_neg (by omega), decide_eq_false (by omega)]
    exact h
  by_cases c : lab L out zero = 0
  · right
    refine ⟨⟨k1 + 1, fun k hk => ?_⟩, ?_⟩
    · have h1 : mintime_Profile.f (k1 + 1) L.v L.a L.j d = some ([], false) := by
        apply hf
        rw [mintime_Profile.j0, if_neg (by decide), hk1]
        simp only [Option.bind_some]
        rw [e1']
        simp only [Option.bind_some]
        rw [if_pos r0, if_pos (by omega), rd_idx, if_pos c]
      exact at_rounds (mintime_Profile.mono L.v L.a L.j d) hk h1
    · rintro ⟨l, hl⟩
      have := (hp.full l zero hz hl (.inr (by omega))).1
      omega
  · left
    obtain ⟨t, ht⟩ : ∃ t : Nat, lab L out zero = (t : Int) + 1 := ⟨(lab L out zero - 1).toNat, by omega⟩
    obtain ⟨k2, r, hk2, hpath, hrl, hbest⟩ := greedy hL d0 d1 hp t zero [] hz ht (by omega) (by simp; omega)
    have hk2' : mintime_Profile.l0 k2 out (idx L zero) [] L.v L.a L.j L.v L.a L.j d 0 0 0 = some (r, true) := hk2
    refine ⟨r, max k1 k2 + 1, fun k hk => ?_, hpath, fun s hs => ?_⟩
    · have h1 : mintime_Profile.f (max k1 k2 + 1) L.v L.a L.j d = some (r, true) := by
        apply hf
        rw [mintime_Profile.j0, if_neg (by decide), at_rounds (mintime_space_left.mono L.v L.a L.j d) (Nat.le_max_left k1 k2) hk1]
        simp only [Option.bind_some]
        rw [e1']
        simp only [Option.bind_some]
        rw [if_pos r0, if_pos (by omega), rd_idx, if_neg c]
        exact at_rounds (fun k' => (mintime_Profile.mono_l k').2.1 _ _ _ _ _ _ _ _ _ _ _ _ _) (Nat.le_max_right k1 k2) hk2'
      exact at_rounds (mintime_Profile.mono L.v L.a L.j d) hk h1
    · have := hp.exact hz (Int.le_refl _) hs
      exact ⟨by omega, fun e => hbest s hs (by omega)⟩
/-- Of limits that are not valid, and of distances out of bounds, it tells nothing. -/
theorem profile_no {v a j d : Int} (h : ¬ (ok ⟨v, a, j⟩ ∧ 0 ≤ d ∧ d ≤ 420)) (k : Nat) : mintime_Profile.f (k + 1) v a j d = some ([], false) := by
  have hj : mintime_Profile.j0 (k + 1) d true v a j = some ([], false) := by rw [mintime_Profile.j0, if_pos rfl]
  rw [mintime_Profile.f, profile_ValidLimits.f]
  simp only [Option.bind_some]
  by_cases c : ok ⟨v, a, j⟩
  · rw [if_pos (decide_eq_true (show 1 ≤ v ∧ v ≤ 8 ∧ 1 ≤ a ∧ a ≤ 4 ∧ 1 ≤ j ∧ j ≤ 2 from c))]
    by_cases c1 : d < 0
    · rw [if_pos c1]; exact hj
    · rw [if_neg c1, decide_eq_true (show d > 420 by have h2 : ¬ (0 ≤ d ∧ d ≤ 420) := fun e => h ⟨c, e⟩; omega)]
      exact hj
  · rw [if_neg (by rw [decide_eq_true_eq]; exact c)]
    exact hj
end Go.Proofs.Ytmmaodlngnjmlaa.Pure
