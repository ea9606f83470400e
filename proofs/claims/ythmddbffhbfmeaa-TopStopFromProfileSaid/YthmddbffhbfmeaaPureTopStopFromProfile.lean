/- A shortest profile interrupted: the stop is at rest at its end, never farther than its distance; a ramp's jerks and accelerations lie within the limits. -/
import Derived.Test.YthmddbffhbfmeaaXFrom28
import Derived.Test.YthmddbffhbfmeaaXTop25
import Derived.Test.YthmddbffhbfmeaaP1
import Derived.Test.YthmddbffhbfmeaaP6
namespace Go.Proofs.Ythmddbffhbfmeaa.Pure
set_option linter.unusedSimpArgs false
set_option linter.unusedVariables false
open Go Go.RowKit Go.Proofs.Ythmddbffhbfmeaa.P Go.Proofs.YthmddbffhbfmeaaW.PrintWords Go.Proofs.YthmddbffhbfmeaaW.PrintLast Go.Proofs.YthmddbffhbfmeaaW.PrintMore Go.Proofs.Ythmddbffhbfmeaa.Ramp Go.Proofs.Ythmddbffhbfmeaa.Motion Go.Proofs.Ythmddbffhbfmeaa.Search
theorem top28_rest {A J : Int} {m : Mo} (h : okM A J m) (hn : ¬ (m.v = 0 ∧ m.a = 0)) (cat : Int) (hc : cat = 0 ∨ cat = 1 ∨ cat = 2) :
    0 < (stopL A J m cat).length ∧ ∀ (hi : (stopL A J m cat).length - 1 < (stopL A J m cat).length), (stopL A J m cat)[(stopL A J m cat).length - 1].v = 0 ∧ (stopL A J m cat)[(stopL A J m cat).length - 1].a = 0 := by
  obtain ⟨hL, h1, h2, h3, h4, h5, h6⟩ := id h
  by_cases c : cat = 1 ∨ cat = 2
  · obtain ⟨s1, s2, s3⟩ := bestJ_spec hL (v := m.v) (a := m.a) ⟨h1, h2⟩ ⟨h3, h4⟩
    have e : stopL A J m cat = trace m (bestJ A J (m.v, m.a)) := by unfold stopL; rw [if_neg hn, if_pos c]
    rw [e]
    obtain ⟨l, hl⟩ : ∃ l, l = bestJ A J (m.v, m.a) := ⟨_, rfl⟩
    rw [← hl] at s1 s2 ⊢
    have htl := trace28_length l m
    have hne : l ≠ [] := fun e0 => by
      have h0 := s1.1
      rw [e0] at h0
      have h00 : (m.v, m.a) = ((0, 0) : Va) := h0
      exact hn ⟨congrArg Prod.fst h00, congrArg Prod.snd h00⟩
    have hpos : 0 < l.length := List.length_pos_iff.2 hne
    refine ⟨by omega, fun hi => ?_⟩
    rw [trace28_at l m _ hi, List.take_of_length_le (by omega)]
    have hva := run_va l m
    rw [vpath_fold s1.1] at hva
    exact ⟨congrArg Prod.fst hva, congrArg Prod.snd hva⟩
  · have c0 : cat = 0 := by omega
    have e : stopL A J m cat = brk m := by unfold stopL; rw [if_neg hn, if_neg c, if_pos c0]
    rw [e]
    unfold brk
    by_cases c1 : less28 m.v = 0
    · rw [if_pos c1]; exact ⟨by simp, fun hi => ⟨rfl, rfl⟩⟩
    · rw [if_neg c1]; exact ⟨by simp, fun hi => ⟨rfl, rfl⟩⟩
theorem top_head28 {k : Nat} (hk : 1000 ≤ k) : ambidextertop_head28.f k = some true := by
  have hM : okM 4 2 ⟨7, 6, 2⟩ := ⟨⟨by omega, by omega, by omega, by omega⟩, by dsimp only; omega, by dsimp only; omega, by dsimp only; omega, by dsimp only; omega, by dsimp only; omega, by dsimp only; omega⟩
  have hZ : okM 4 2 ⟨3, 0, 0⟩ := ⟨⟨by omega, by omega, by omega, by omega⟩, by dsimp only; omega, by dsimp only; omega, by dsimp only; omega, by dsimp only; omega, by dsimp only; omega, by dsimp only; omega⟩
  have hn : ¬ ((⟨7, 6, 2⟩ : Mo).v = 0 ∧ (⟨7, 6, 2⟩ : Mo).a = 0) := by dsimp only; omega
  have e0 : stopL 4 2 ⟨7, 6, 2⟩ 0 = [⟨9, 2, 0⟩, ⟨9, 0, 0⟩] := by
    unfold stopL
    rw [if_neg hn, if_neg (by omega), if_pos rfl]
    rfl
  have e1 : stopL 4 2 ⟨3, 0, 0⟩ 1 = [] := by unfold stopL; rw [if_pos ⟨rfl, rfl⟩]
  have d0 := duration28 hM 8 0 (k := k) (by omega)
  have w0 := distance28 hM 8 0 (k := k) (by omega)
  have d1 := duration28 hZ 8 1 (k := k) (by omega)
  have d2 := duration28 hM 8 1 (k := k) (by omega)
  have hp := (top28_rest hM hn 1 (by omega)).1
  rw [e0] at d0 w0
  rw [e1] at d1
  dsimp only at d0 w0 d1 d2
  have ew : way28 7 [⟨9, 2, 0⟩, ⟨9, 0, 0⟩] = 2 := by decide
  rw [ew] at w0
  unfold ambidextertop_head28.f
  rw [d0, Option.bind_some, if_pos (by rfl), w0, Option.bind_some, if_pos rfl, d1, Option.bind_some, if_pos (by rfl), d2, Option.bind_some, if_pos (by omega)]
  rfl
theorem ts_l1 {A J V : Int} {m : Mo} (hL : okL A J) {l : List Int} (hl : l.length ≤ 1000) (h1 : ∀ j ∈ l, -J ≤ j ∧ j ≤ J) (h2 : ∀ x ∈ trace m l, -A ≤ x.a ∧ x.a ≤ A) : ∀ (n i : Nat), i + n = l.length →
    ambidextertop_TopStopFromProfile.l1 (n + 1) true ((trace m l).map st28) l ((trace m l).map st28) (i : Int) V A J = some true
  | 0, i, h => by
    rw [ambidextertop_TopStopFromProfile.l1, if_neg (by omega), if_pos rfl]
    simp
  | n + 1, i, h => by
    obtain ⟨a1, a2, a3, a4⟩ := id hL
    have hi : i < l.length := by omega
    have htl := trace28_length l m
    have hit : i < (trace m l).length := by omega
    have hj := h1 _ (List.getElem_mem hi)
    have hx := h2 _ (List.getElem_mem hit)
    have c1 : (i : Int) < (((trace m l).map st28).length : Int) := by rw [List.length_map]; omega
    have hrd : rd l (i : Int) = l[i] := by
      unfold rd
      rw [Int.toNat_natCast, List.getD_eq_getElem?_getD, List.getElem?_eq_getElem hi]
      rfl
    have hw := wi28 (n := l.length) (by omega) hi
    have e1 : wrap64 (-J) = -J := by clear hw; exact r64 (by omega) (by omega)
    have e2 : wrap64 (-A) = -A := by clear hw e1; exact r64 (by omega) (by omega)
    rw [ambidextertop_TopStopFromProfile.l1, if_pos (by clear hw e1 e2; omega), if_neg (by clear hw e1 e2; omega), if_pos (Int.natCast_nonneg i), if_pos c1, if_pos c1, if_neg (by simp), hrd, st28_at hit, e1, e2, hw]
    dsimp only [st28]
    clear hw e1 e2
    rw [if_neg (by omega), if_neg (by omega), if_neg (by omega), if_neg (by omega)]
    exact ts_l1 hL hl h1 h2 n (i + 1) (by omega)
theorem ts_l0 {A J V W cat : Int} {m : Mo} (hm : -9000000000000 ≤ m.p ∧ m.p ≤ 9000000000000) {T : List Mo} (hl : T.length ≤ 12) (hT : Near28 T) (ha : ∀ x ∈ T, -100 ≤ x.a ∧ x.a ≤ 100) (hW : ∀ x ∈ T, far28 m.p x ≤ W) (K : Nat) : ∀ (n i : Nat) (acc : List Int) (w : Mo), i + n = T.length → acc.length = i → -100 ≤ w.a → w.a ≤ 100 →
    ambidextertop_TopStopFromProfile.l0 (n + 1 + K) true cat (T.map st28) W acc (i : Int) V A J m.p m.v m.a w.p w.v w.a = (if cat = 0 then (if ((T.map st28).length : Int) ≤ 2 then some (decide (W ≤ 4)) else some false) else (profile_Simulate.f m.p m.v m.a (acc ++ rowOf w (T.drop i))).bind fun t => ambidextertop_TopStopFromProfile.l1 K true (T.map st28) (acc ++ rowOf w (T.drop i)) t 0 V A J)
  | 0, i, acc, w, h, hacc, w0, w1 => by
    rw [show 0 + 1 + K = K + 1 by omega, ambidextertop_TopStopFromProfile.l0, if_neg (by rw [List.length_map]; omega), if_pos rfl, List.drop_of_length_le (by omega)]
    simp only [rowOf, List.append_nil]
  | n + 1, i, acc, w, h, hacc, w0, w1 => by
    have hi : i < T.length := by omega
    have hx := hT _ (List.getElem_mem hi)
    have hxa := ha _ (List.getElem_mem hi)
    have hf := hW _ (List.getElem_mem hi)
    have hf1 : T[i].p - m.p ≤ W ∧ m.p - T[i].p ≤ W := by
      have := mx_cases (T[i].p - m.p) (m.p - T[i].p)
      unfold far28 at hf
      omega
    have c1 : (i : Int) < ((T.map st28).length : Int) := by rw [List.length_map]; omega
    have hw := wi28 (n := T.length) (by omega) hi
    have e1 : wrap64 (T[i].p - m.p) = T[i].p - m.p := by clear hw; exact r64 (by omega) (by omega)
    have e2 : wrap64 (m.p - T[i].p) = m.p - T[i].p := by clear hw e1; exact r64 (by omega) (by omega)
    have e3 : wrap64 (T[i].a - w.a) = T[i].a - w.a := by clear hw e1 e2; exact r64 (by omega) (by omega)
    rw [show n + 1 + 1 + K = n + 1 + K + 1 by omega, ambidextertop_TopStopFromProfile.l0, if_pos c1, if_pos (Int.natCast_nonneg i), st28_at hi, hw]
    dsimp only [st28]
    rw [e1, e2, e3]
    clear hw e1 e2 e3
    rw [if_neg (by omega), if_neg (by omega), if_pos (by omega)]
    have ih := ts_l0 (A := A) (J := J) (V := V) (cat := cat) hm hl hT ha hW K n (i + 1) (acc ++ [T[i].a - w.a]) T[i] (by omega) (by simp [hacc]) hxa.1 hxa.2
    rw [List.drop_eq_getElem_cons hi]
    simp only [rowOf]
    rw [List.append_assoc, List.singleton_append] at ih
    exact ih
theorem TopStopFromProfile : ∀ (a0 : Int) (a1 : Int) (a2 : Int) (a3 : Int) (a4 : Int) (a5 : Int), (Lit.int .u8 a0).wf = true → (Lit.int .u8 a1).wf = true → (Lit.int .u8 a2).wf = true → (Lit.int .u16 a3).wf = true → (Lit.int .u16 a4).wf = true → (Lit.int .u8 a5).wf = true → ∃ k, ambidextertop_TopStopFromProfile.f k a0 a1 a2 a3 a4 a5 = some true := by
  intro a0 a1 a2 a3 a4 a5 h0 h1 h2 h3 h4 h5
  obtain ⟨L, eL, hL⟩ := lim14 h0 h1 h2
  obtain ⟨d, ed, d0, d1⟩ := tmod16 h3 421 (by omega)
  obtain ⟨cat, ec, c0, c1⟩ := tmod8 h5 3 (by omega)
  have hc : cat = 0 ∨ cat = 1 ∨ cat = 2 := by omega
  have start : ∀ k l b, K25 ≤ k + 1 → 1000 ≤ k → mintime_Profile.f k L.v L.a L.j d = some (l, b) → ambidextertop_TopStopFromProfile.f (k + 1) a0 a1 a2 a3 a4 a5 = (if b = true then ambidextertop_TopStopFromProfile.j1 k a4 a5 true l ((l.length : Int) == 0) L.v L.a L.j else ambidextertop_TopStopFromProfile.j1 k a4 a5 true l true L.v L.a L.j) := by
    intro k l b hk hk2 hp
    unfold ambidextertop_TopStopFromProfile.f
    rw [top_head28 (by omega), Option.bind_some, if_pos rfl, head25 hk, Option.bind_some, ambidextertop_TopStopFromProfile.j0, eL, Option.bind_some, ed]
    dsimp only
    rw [hp, Option.bind_some]
  rcases profile_ok hL d0 (by omega) with ⟨l, K, hK, hB⟩ | ⟨⟨K, hK⟩, _⟩
  · have hlen := best_len hL d0 (by omega) hB
    refine ⟨max K25 (max K 5000) + 1 + 1, ?_⟩
    rw [start (max K25 (max K 5000) + 1) l true (by omega) (by omega) (hK _ (by omega)), if_pos rfl, ambidextertop_TopStopFromProfile.j1]
    by_cases cz : (l.length : Int) = 0
    · rw [if_pos (by simpa using cz)]
    rw [if_neg (by simpa using cz)]
    have e1 : wrap64 ((l.length : Int) + 1) = (l.length : Int) + 1 := r64 (by omega) (by omega)
    rw [e1]
    clear e1
    obtain ⟨i, ei, i0, i1⟩ := tmod16 h4 ((l.length : Int) + 1) (by omega)
    rw [ei, if_neg (by omega), if_pos i0, if_pos (by omega), ec]
    obtain ⟨hfin, hM⟩ := from_ok hL d0 (by omega) (by omega) hB i.toNat
    generalize run zero (l.take i.toNat) = m at hfin hM
    rw [hfin, Option.bind_some]
    dsimp only
    obtain ⟨hLA, g1, g2, g3, g4, g5, g6⟩ := id hM
    obtain ⟨A1, A2, A3, A4⟩ := id hLA
    generalize hkk : max K25 (max K 5000) = kk
    have hkk2 : 5000 ≤ kk := by omega
    clear hkk
    rw [stop_ok hM L.v cat (k := kk) (by omega), Option.bind_some, duration28 hM L.v cat (k := kk) (by omega), Option.bind_some, if_pos (by rw [List.length_map])]
    obtain ⟨n1, n2, n3⟩ := stop_near hM cat
    have hj2 : ∀ x : Bool, x = false → ambidextertop_TopStopFromProfile.j2 kk true cat ((stopL L.a L.j m cat).map st28) x L.v L.a L.j m.p m.v m.a = some true := by
      intro x hx
      rw [hx]
      obtain ⟨kk, rfl⟩ : ∃ k', kk = k' + 1 + 1 := ⟨kk - 2, by omega⟩
      rw [ambidextertop_TopStopFromProfile.j2, if_neg Bool.false_ne_true]
      by_cases hr : m.v = 0 ∧ m.a = 0
      · have e : stopL L.a L.j m cat = [] := by unfold stopL; rw [if_pos hr]
        have hd := distance28 hM L.v cat (k := kk + 1) (by omega)
        rw [e] at hd
        rw [e, if_pos (by rfl), if_pos rfl, hd, Option.bind_some]
        rfl
      · obtain ⟨p1, p2⟩ := top28_rest hM hr cat hc
        have p2 := p2 (by omega)
        have e1 : wrap64 ((((stopL L.a L.j m cat).map st28).length : Int) - 1) = (((stopL L.a L.j m cat).length - 1 : Nat) : Int) := by rw [List.length_map, r64 (by omega) (by omega)]; omega
        rw [if_neg (by rw [List.length_map]; omega), e1, if_pos (Int.natCast_nonneg _), if_pos (by rw [List.length_map]; omega), st28_at (by omega)]
        clear e1
        dsimp only [st28]
        rw [if_pos p2.1, p2.2, ambidextertop_TopStopFromProfile.j3, if_neg (by decide), distance28 hM L.v cat (k := kk) (by omega), Option.bind_some]
        have hfar : ∀ x ∈ stopL L.a L.j m cat, far28 m.p x ≤ way28 m.p (stopL L.a L.j m cat) := (way_ge m.p (stopL L.a L.j m cat) 0).2.1
        have hacc : ∀ x ∈ stopL L.a L.j m cat, -100 ≤ x.a ∧ x.a ≤ 100 := by
          intro x hx
          by_cases c12 : cat = 1 ∨ cat = 2
          · obtain ⟨l', t1, _, _, _, _, t6⟩ := ramp_row hM c12
            rw [t1] at hx
            have := t6 x hx
            omega
          · have e : stopL L.a L.j m cat = brk m := by unfold stopL; rw [if_neg hr, if_neg c12, if_pos (by omega)]
            rw [e] at hx
            unfold brk at hx
            by_cases cl : less28 m.v = 0
            · rw [if_pos cl] at hx
              rw [List.mem_singleton.1 hx]
              dsimp only; omega
            · rw [if_neg cl] at hx
              simp only [List.mem_cons, List.not_mem_nil, or_false] at hx
              rcases hx with rfl | rfl <;> dsimp only <;> omega
        have hl0 := ts_l0 (A := L.a) (J := L.j) (V := L.v) (W := way28 m.p (stopL L.a L.j m cat)) (cat := cat) (m := m) ⟨by omega, by omega⟩ n3 n2 hacc hfar 20 (stopL L.a L.j m cat).length 0 [] m (Nat.zero_add _) rfl (by omega) (by omega)
        have hend : ambidextertop_TopStopFromProfile.l0 ((stopL L.a L.j m cat).length + 1 + 20) true cat ((stopL L.a L.j m cat).map st28) (way28 m.p (stopL L.a L.j m cat)) [] ((0 : Nat) : Int) L.v L.a L.j m.p m.v m.a m.p m.v m.a = some true := by
          rw [hl0]
          by_cases cc : cat = 0
          · have e : stopL L.a L.j m cat = brk m := by unfold stopL; rw [if_neg hr, if_neg (by omega), if_pos cc]
            obtain ⟨b1, b2⟩ := brake_way (m := m) ⟨g1, g2⟩
            rw [if_pos cc, e, if_pos (by rw [List.length_map]; omega), decide_eq_true b1]
          · rw [if_neg cc]
            obtain ⟨l', t1, t2, t3, t4, t5, t6⟩ := ramp_row hM (cat := cat) (by omega)
            rw [List.drop_zero, List.nil_append, t2, simulate28 hM t3 (by omega), Option.bind_some, t1]
            exact at_rounds (fun k' => (ambidextertop_TopStopFromProfile.mono_l k').2.2.2.2.2 _ _ _ _ _ _ _ _) (show l'.length + 1 ≤ 20 by omega) (ts_l1 hLA (by omega) t5 t6 l'.length 0 (Nat.zero_add _))
        exact at_rounds (fun k' => (ambidextertop_TopStopFromProfile.mono_l k').2.2.2.2.1 _ _ _ _ _ _ _ _ _ _ _ _ _ _ _) (by omega) hend
    by_cases cv : m.v = 0
    · rw [if_pos cv]
      refine hj2 _ ?_
      by_cases ca : m.a = 0
      · have e : stopL L.a L.j m cat = [] := by unfold stopL; rw [if_pos ⟨cv, ca⟩]
        rw [e, ca]
        rfl
      · have p1 := (top28_rest hM (fun h => ca h.2) cat hc).1
        have q1 : ((((stopL L.a L.j m cat).map st28).length : Int) == 0) = false := by rw [beq_eq_false_iff_ne, List.length_map]; omega
        have q2 : (m.a == 0) = false := by rw [beq_eq_false_iff_ne]; exact ca
        rw [q1, q2]
        rfl
    · rw [if_neg cv]
      refine hj2 _ ?_
      have p1 := (top28_rest hM (fun h => cv h.1) cat hc).1
      have q1 : ((((stopL L.a L.j m cat).map st28).length : Int) == 0) = false := by rw [beq_eq_false_iff_ne, List.length_map]; omega
      rw [q1]
      rfl
  · refine ⟨max K25 (max K 5000) + 1 + 1, ?_⟩
    rw [start (max K25 (max K 5000) + 1) [] false (by omega) (by omega) (hK _ (by omega)), if_neg Bool.false_ne_true, ambidextertop_TopStopFromProfile.j1, if_pos rfl]
end Go.Proofs.Ythmddbffhbfmeaa.Pure
